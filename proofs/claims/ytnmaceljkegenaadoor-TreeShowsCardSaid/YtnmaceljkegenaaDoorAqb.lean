/-
  The plain machine: regions that draw their order, with what is quiet taken ahead.
-/
import Derived.Test.YtnmaceljkegenaaDoorAqa
import Derived.Test.YtnmaceljkegenaaDoorAqp
namespace Go.Proofs.YtnmaceljkegenaaDoor
open Go.RowKit
set_option linter.unusedVariables false
set_option linter.unusedSimpArgs false

section
variable {P : Program} {T : TT} {W0 : World} {b0 n : Nat} {rd : Option Nat} {c : Cx} {st : St} {a : Act} {sg : FuncId → Option Sum} {cl : Bool} {ats : List (Array Value)} {ops : Array Oper}

/-! ### data of one form -/

def dataCells : (t : Ty) → t.den → List Value
  | .unit, _ => []
  | .bool, x => [.bool x]
  | .int k, x => [.int k x]
  | .str, x => [.string ⟨x.toArray⟩]
  | .list _, _ => []
  | .pair a b, x => dataCells a x.1 ++ dataCells b x.2

theorem rigid_cells {w : World} {fr : Nat → Prop} : ∀ (t : Ty) (x : t.den), t.rigid = true → ∀ cs, DRel w fr t x cs ↔ cs = dataCells t x
  | .unit, x, _, cs => by simp [DRel, dataCells]
  | .bool, x, _, cs => by simp [DRel, dataCells]
  | .int k, x, _, cs => by simp [DRel, dataCells]
  | .str, x, _, cs => by simp [DRel, dataCells]
  | .list t, x, h, cs => by simp [Ty.rigid] at h
  | .pair a b, x, h, cs => by
    simp only [Ty.rigid, Bool.and_eq_true] at h
    simp only [DRel, dataCells, rigid_cells a x.1 h.1, rigid_cells b x.2 h.2]
    constructor
    · rintro ⟨l1, l2, h1, rfl, rfl⟩; exact h1
    · intro h1; exact ⟨_, _, h1, rfl, rfl⟩

def dataVal (t : Ty) (x : t.den) : Value := if t.isAgg then .agg (dataCells t x).toArray else (dataCells t x).headD undef

theorem VD.rigid {t : Ty} {x : t.den} (h : t.rigid = true) (v : Value) : VD c t x v ↔ v = dataVal t x := by
  cases ha : t.isAgg with
  | true =>
    rw [VD.agg ha]
    simp only [dataVal, ha, if_true, rigid_cells t x h]
    constructor
    · rintro ⟨cs, rfl, h2⟩; rw [← h2]
    · intro e; exact ⟨_, e, by simp⟩
  | false =>
    rw [VD.leaf ha, rigid_cells t x h]
    have : ∃ u, dataCells t x = [u] := by cases t <;> first | exact ⟨_, rfl⟩ | (simp [Ty.rigid] at h; done) | (simp [Ty.isAgg] at ha; done)
    obtain ⟨u, hu⟩ := this
    simp only [dataVal, ha, hu]
    simp

def rv1 : AVal → Value
  | .val t x => dataVal t x
  | _ => undef

def rv : AVal → Value
  | .tup l => .tuple (l.map rv1).toArray
  | v => rv1 v

theorem rv1_iff {v : AVal} (h : v.rigid = true) (u : Value) : VRel c v u ↔ u = rv1 v := by
  cases v <;> simp only [AVal.rigid, Bool.false_eq_true] at h
  simp only [VRel, rv1]
  exact VD.rigid h u

theorem rvs_iff : ∀ (l : List AVal), l.all AVal.rigid = true → ∀ us, VRels c l us ↔ us = l.map rv1
  | [], _, [] => by simp [VRels]
  | [], _, u :: us => by simp [VRels]
  | v :: l, _, [] => by simp [VRels]
  | v :: l, h, u :: us => by
    simp only [List.all_cons, Bool.and_eq_true] at h
    simp only [VRels, rv1_iff h.1, rvs_iff l h.2, List.map_cons, List.cons.injEq]

theorem rv_iff {v : AVal} (h : v.rigidR = true) (u : Value) : VRel c v u ↔ u = rv v := by
  cases v with
  | tup l =>
    simp only [AVal.rigidR] at h
    simp only [VRel, rv, rvs_iff l h]
    constructor
    · rintro ⟨vs, rfl, h2⟩; rw [← h2]
    · intro e; exact ⟨_, e, by simp⟩
  | val t x => exact rv1_iff (v := .val t x) h u
  | _ => simp [AVal.rigidR, AVal.rigid] at h

theorem vals_rigid (id : Nat) : ∀ (rs : List (Ty × Bool)) y, (rs.all fun r => !r.2 && r.1.rigid) = true → (vals id rs y).all AVal.rigid = true
  | [], _, _ => rfl
  | (t, true) :: rs, y, h => by simp at h
  | (t, false) :: rs, y, h => by
    simp only [List.all_cons, Bool.not_false, Bool.true_and, Bool.and_eq_true] at h
    simp only [vals, List.all_cons, AVal.rigid, h.1, Bool.true_and]
    exact vals_rigid id rs y.2 h.2

theorem resA_rigid : ∀ (l : List AVal), l.all AVal.rigid = true → (resA l).rigidR = true
  | [], _ => rfl
  | [v], h => by
    simp only [List.all_cons, List.all_nil, Bool.and_true] at h
    cases v <;> simp only [AVal.rigid, Bool.false_eq_true] at h
    exact h
  | v :: v2 :: l, h => h

theorem VRels.mk {c : Cx} : ∀ (l : List AVal) (xs : List Value), l.length = xs.length → (∀ (i : Nat) (h : i < l.length) (h' : i < xs.length), VRel c l[i] xs[i]) → VRels c l xs
  | [], [], _, _ => by simp [VRels]
  | [], _ :: _, h, _ => by simp at h
  | _ :: _, [], h, _ => by simp at h
  | v :: l, x :: xs, h, hh => by
    simp only [VRels]
    exact ⟨hh 0 (by simp) (by simp), VRels.mk l xs (by simpa using h) fun i h1 h2 => by
      have := hh (i + 1) (by simp; omega) (by simp; omega)
      simpa using this⟩

/-! ### acts that are ahead -/

def dstAt (ops : Array Oper) (k : Nat) : Option Nat := (ops[k]?).bind (·.dst)

def putAll (ops : Array Oper) (a : Act) : List (Nat × Value) → Act
  | [] => a
  | (k, v) :: l => (putAll ops a l).put (dstAt ops k) v

theorem putAll_append (a : Act) : ∀ (q l : List (Nat × Value)), putAll ops a (q ++ l) = putAll ops (putAll ops a l) q
  | [], l => rfl
  | (k, v) :: q, l => by simp only [List.cons_append, putAll]; rw [putAll_append a q l]

theorem putAll_defers (a : Act) : ∀ l, (putAll ops a l).defers = a.defers
  | [] => rfl
  | (k, v) :: l => by rw [putAll, put_defers, putAll_defers a l]

theorem putAll_size (a : Act) : ∀ l, (putAll ops a l).tmps.size = a.tmps.size
  | [] => rfl
  | (k, v) :: l => by
    rw [putAll]
    cases dstAt ops k with
    | none => exact putAll_size a l
    | some d => simp only [Act.put, Array.size_setIfInBounds]; exact putAll_size a l

/-- what one behind another one keeps clear of -/
def Half (ops : Array Oper) (x y : Oper) : Prop := ∀ d, y.dst = some d → d ∉ x.looksAt ops ∧ x.dst ≠ some d

theorem half_spec {x y : Oper} (h : halfApart ops x y = true) : Half ops x y := fun d hd => by
  simp only [halfApart, hd, Bool.and_eq_true, Bool.not_eq_true', bne_iff_ne] at h
  exact ⟨by simpa using h.1, h.2⟩

/-- a put that another one doesn't see -/
theorem putAll_put (a : Act) {d : Option Nat} {v : Value} : ∀ (l : List (Nat × Value)), (∀ m ∈ l.map (·.1), ∀ e, dstAt ops m = some e → d ≠ some e) → putAll ops (a.put d v) l = (putAll ops a l).put d v
  | [], _ => rfl
  | (k, u) :: l, h => by
    rw [putAll, putAll, putAll_put a l fun m hm => h m (List.mem_cons_of_mem _ hm)]
    exact (Act.put_comm _ u v fun e he => h k List.mem_cons_self e he).symm

theorem exec_putAll (a : Act) {o : Oper} (hs : ∀ cs b, o.op ≠ .select cs b) : ∀ (l : List (Nat × Value)), (∀ m ∈ l.map (·.1), ∀ e, dstAt ops m = some e → e ∉ o.looksAt ops) → execOp (putAll ops a l).eval o = execOp a.eval o
  | [], _ => rfl
  | (k, u) :: l, h => by
    rw [putAll, execOp_put (ops := ops) o hs _ _ _ (h k List.mem_cons_self)]
    exact exec_putAll a hs l fun m hm => h m (List.mem_cons_of_mem _ hm)

/-! ### what is ahead -/

/-- operations that went ahead, the newest first -/
def PendSt (ops : Array Oper) (lA : Array Bool) (log : List Nat) : List Nat → Prop
  | [] => True
  | k :: l => PendSt ops lA log l ∧ lA.getD k true = false ∧ k ∈ log ∧ k ∉ l ∧ ∃ ok, ops[k]? = some ok ∧ quietOp ok.op = true ∧ ok.guard = none ∧ (∀ d, ok.dst = some d → d ∉ ok.looksAt ops) ∧
      (∀ e ∈ ok.after, Region.binds .any e = true → lA.getD e.on false = true ∨ e.on ∈ l) ∧
      (∀ m ∈ l, ∃ om, ops[m]? = some om ∧ Half ops om ok ∧ (waitsOn ops k m = false → om.apart ops ok = true))

/-- an operation comes to a value, in every world that goes on from here -/
def QRun (rd : Option Nat) (n : Nat) (P : Program) (c : Cx) (a : Act) (o : Oper) (v : Value) : Prop := ∀ w', Ext c w' → o.quietAtIn (FW rd) n P a (Ext (c.at_ w')) w' v

theorem QRun.congr {a a' : Act} {o : Oper} {v : Value} (h : execOp a'.eval o = execOp a.eval o) (hq : QRun rd n P c a o v) : QRun rd n P c a' o v := fun w' hw => by
  have := hq w' hw
  unfold Oper.quietAtIn at this ⊢
  rw [h]
  exact this

theorem QRun.of_run {a : Act} {o : Oper} {v : Value} (h : ∀ w', Ext c w' → (execOp a.eval o).run P w' = .ok (.value v) w') : QRun rd n P c a o v := fun w' hw => by
  unfold Oper.quietAtIn
  rw [h w' hw]
  exact ⟨rfl, rfl⟩

theorem QRun.ext {a : Act} {o : Oper} {v : Value} {w : World} (hw : Ext c w) (h : QRun rd n P c a o v) : QRun rd n P (c.at_ w) a o v := fun w' hw' => h w' (Below.trans hw (hw'.mono hw.size))

theorem QRun.wpOp {a : Act} {i : Nat} {o : Oper} {v : Value} (hd : noDefer ops = true) (hi : ops[i]? = some o) (hg : o.guard = none) (h : QRun rd n P c a o v) {Q : Exit → Act → World → Prop} {K : Act → World → Prop} (hK : ∀ w', Ext c w' → K (a.put o.dst v) w') : wpOpIn (FW rd) n P ops Q i K a c.w := by
  unfold Go.wpOpIn
  simp only [hi]
  rw [if_pos (by simp [Region.wanted, hg])]
  refine ⟨about_FW o c.w _, ?_⟩
  rw [semAt_of (noDefer_spec hd i o hi).1]
  have h1 := h c.w (Below.refl _ _)
  unfold Oper.quietAtIn at h1
  generalize (execOp a.eval o).run P c.w = x at h1 ⊢
  match x, h1 with
  | .ok (.value u) w', h1 =>
    obtain ⟨e1, e2⟩ := h1
    subst e1 e2
    exact hK _ (Below.refl _ _)
  | .ok .skip w', h1 =>
    obtain ⟨e1, e2⟩ := h1
    subst e1 e2
    exact hK _ (Below.refl _ _)
  | .ok (.enter f args) w', h1 =>
    obtain ⟨e1, e2, e3⟩ := h1
    subst e1
    refine ⟨e2, CallsIn.mono e3 fun e w'' he => ?_⟩
    obtain ⟨e4, e5⟩ := he
    subst e4
    exact hK _ e5

/-- .. what they come to -/
def PendRun (rd : Option Nat) (n : Nat) (P : Program) (ops : Array Oper) (c : Cx) (a : Act) : List (Nat × Value) → Prop
  | [] => True
  | (k, v) :: l => PendRun rd n P ops c a l ∧ ∃ ok, ops[k]? = some ok ∧ QRun rd n P c (putAll ops a l) ok v

theorem PendRun.ext {w : World} (hw : Ext c w) {a : Act} : ∀ {l : List (Nat × Value)}, PendRun rd n P ops c a l → PendRun rd n P ops (c.at_ w) a l
  | [], _ => trivial
  | (k, v) :: l, h => ⟨PendRun.ext hw h.1, let ⟨ok, h1, h2⟩ := h.2; ⟨ok, h1, h2.ext hw⟩⟩

/-- a call that may go ahead, and what it comes to -/
def RigidFit (sg : FuncId → Option Sum) (cl : Bool) (o : Oper) (fr : List AVal) (z : AVal) : Prop :=
  quietOp o.op = true ∧ (∃ cc fo, o.op = .call cc ∧ cc.callee = .value fo) ∧ z.rigidR = true ∧ (∀ d, o.dst = some d → z = fr.getD d .undef) ∧
    ∃ fv args, callArgs o fr = fv :: args ∧ ∀ (dst : Option Nat) (st' : St) (K : AVal → St → Option Unit), sumQ sg cl fv args dst st' K = K z st'

theorem ahead_call (hT : TOk P T) (hq : QCallOk (R := Unit) P (sumQ sg cl)) {o : Oper} {z : AVal} {fr' : List AVal} (hfit : RigidFit sg cl o fr' z) (he : callArgs o fr' = callArgs o st.fr) {a : Act} (hr : Rel W0 b0 rd c st a ats) : VRel c z (rv z) ∧ QRun rd n P c a o (rv z) := by
  obtain ⟨h1, ⟨cc, fo, h2, h3⟩, h4, _, fv, args, h5, h6⟩ := hfit
  rw [he] at h5
  refine ⟨(rv_iff h4 _).2 rfl, fun w' hw => ?_⟩
  classical
  have h : evalOp T cl (sumQ sg cl) o st (fun z' _ => if z' = z then some () else none) = some () := by
    obtain ⟨dst, op, ty, pos, after, guard⟩ := o
    simp only at h2
    subst h2
    obtain ⟨callee, as', ts⟩ := cc
    simp only at h3
    subst h3
    simp only [callArgs, List.cons.injEq] at h5
    simp only [evalOp]
    rw [h5.1, h5.2, h6]
    simp
  obtain ⟨z', v, g1, g2, g3⟩ := op_quiet (n := n) hT hq h1 h (hr.ext hw)
  have hz : z' = z := by
    by_cases e : z' = z
    · exact e
    · rw [if_neg e] at g1; cases g1
  rw [hz] at g2
  rw [← (rv_iff h4 v).1 g2]
  exact g3 w' (Below.refl _ _)

/-- .. of all calls that went ahead -/
def FitAll (sg : FuncId → Option Sum) (cl : Bool) (ops : Array Oper) (fr : List AVal) (l : List Nat) : Prop := ∀ k ∈ l, ∀ ok, ops[k]? = some ok → quietOwn ok.op = false → ∃ z, RigidFit sg cl ok fr z

theorem listed_no {l : Array Bool} {m : Nat} (h1 : l.getD m false = true) (h2 : l.getD m true = false) : False := by
  rcases Nat.lt_or_ge m l.size with h | h
  · simp [h] at h1 h2; rw [h1] at h2; cases h2
  · simp [Array.getElem?_eq_none h] at h1

theorem waits_no {lA : Array Bool} {j m : Nat} (hj : j ∈ Region.ready .any ops lA) (hm : lA.getD m true = false) : waitsOn ops j m = false := by
  obtain ⟨_, oj, hoj, hall⟩ := mem_ready.1 hj
  unfold waitsOn
  rw [hoj]
  cases hb : oj.after.any fun e => Region.binds .any e && Nat.beq e.on m with
  | false => exact hb
  | true =>
    obtain ⟨e, he, hb⟩ := Array.any_eq_true'.1 hb
    simp only [Bool.and_eq_true] at hb
    have := hall e he hb.1
    rw [Nat.eq_of_beq_eq_true hb.2] at this
    exact (listed_no this hm).elim

theorem PendSt.un {lA : Array Bool} {log : List Nat} : ∀ {l : List Nat}, PendSt ops lA log l → ∀ k ∈ l, lA.getD k true = false
  | k :: l, h, m, hm => by
    rcases List.mem_cons.1 hm with e | hm
    · rw [e]; exact h.2.1
    · exact PendSt.un h.1 m hm

theorem PendSt.log {lA : Array Bool} {log : List Nat} : ∀ {l : List Nat}, PendSt ops lA log l → ∀ k ∈ l, k ∈ log
  | k :: l, h, m, hm => by
    rcases List.mem_cons.1 hm with e | hm
    · rw [e]; exact h.2.2.1
    · exact PendSt.log h.1 m hm

theorem PendSt.mono {lA : Array Bool} {log log' : List Nat} (hl : ∀ k ∈ log, k ∈ log') : ∀ {l : List Nat}, PendSt ops lA log l → PendSt ops lA log' l
  | [], _ => trivial
  | k :: l, h => ⟨PendSt.mono hl h.1, h.2.1, hl _ h.2.2.1, h.2.2.2⟩

/-- another one is listed -/
theorem PendSt.set {lA : Array Bool} {log : List Nat} {j : Nat} : ∀ {l : List Nat}, PendSt ops lA log l → j ∉ l → PendSt ops (lA.setIfInBounds j true) log l
  | [], _, _ => trivial
  | k :: l, h, hj => by
    obtain ⟨h1, h2, h3, h4, ok, h5, h6, h7, h8, h9, h10⟩ := h
    refine ⟨PendSt.set h1 fun h => hj (List.mem_cons_of_mem _ h), ?_, h3, h4, ok, h5, h6, h7, h8, fun e he hb => ?_, h10⟩
    · rw [getD_set_ne true (fun e => hj (by rw [e]; exact List.mem_cons_self))]; exact h2
    · exact (h9 e he hb).imp getD_set_true fun h => h

theorem set_listed {lA : Array Bool} {j : Nat} (hj : j < lA.size) : (lA.setIfInBounds j true).getD j false = true := by simp [hj]

/-- one of them is listed -/
theorem PendSt.take {lA : Array Bool} {log : List Nat} {k : Nat} (hk : k < lA.size) : ∀ {l : List Nat}, PendSt ops lA log l → k ∈ l → PendSt ops (lA.setIfInBounds k true) log (l.erase k)
  | m :: l, h, hm => by
    obtain ⟨h1, h2, h3, h4, ok, h5, h6, h7, h8, h9, h10⟩ := h
    by_cases e : m = k
    · subst e
      rw [List.erase_cons_head]
      exact PendSt.set h1 h4
    · rw [List.erase_cons_tail (by simpa using e)]
      have hkl : k ∈ l := (List.mem_cons.1 hm).resolve_left fun h => e h.symm
      refine ⟨PendSt.take hk h1 hkl, ?_, h3, fun h => h4 (List.mem_of_mem_erase h), ok, h5, h6, h7, h8, fun e' he hb => ?_, fun x hx => h10 x (List.mem_of_mem_erase hx)⟩
      · rw [getD_set_ne true (fun h => e h.symm)]; exact h2
      · rcases h9 e' he hb with h | h
        · exact .inl (getD_set_true h)
        · by_cases e2 : e'.on = k
          · rw [e2]; exact .inl (set_listed hk)
          · exact .inr ((List.mem_erase_of_ne e2).2 h)

theorem dstAt_eq {k : Nat} {o : Oper} (h : ops[k]? = some o) : dstAt ops k = o.dst := by simp [dstAt, h]

/-- what is ahead, when another act's slot is set -/
theorem PendRun.put {a : Act} {c : Cx} (hd : noDefer ops = true) {d : Option Nat} {v : Value} : ∀ {l : List (Nat × Value)}, PendRun rd n P ops c a l →
    (∀ m ∈ l.map (·.1), ∃ om, ops[m]? = some om ∧ (∀ e, om.dst = some e → d ≠ some e) ∧ (∀ e, d = some e → e ∉ om.looksAt ops)) → PendRun rd n P ops c (a.put d v) l
  | [], _, _ => trivial
  | (k, u) :: l, h, hh => by
    obtain ⟨h1, ok, h2, h3⟩ := h
    refine ⟨PendRun.put hd h1 fun m hm => hh m (List.mem_cons_of_mem _ hm), ok, h2, h3.congr ?_⟩
    obtain ⟨om, g1, g2, g3⟩ := hh k List.mem_cons_self
    rw [h2] at g1
    cases g1
    rw [putAll_put a l fun m hm e he => ?_, execOp_put (ops := ops) ok (noDefer_spec hd k ok h2).2 _ _ _ g3]
    · obtain ⟨om, g4, g5, _⟩ := hh m (List.mem_cons_of_mem _ hm)
      exact g5 e (by rw [← dstAt_eq g4]; exact he)

/-- one of them is done -/
theorem pend_take {a : Act} {c : Cx} (hd : noDefer ops = true) {lA : Array Bool} {log : List Nat} {k : Nat} {ok : Oper} (hok : ops[k]? = some ok) (hk : k ∈ Region.ready .any ops lA) :
    ∀ {l : List (Nat × Value)}, PendSt ops lA log (l.map (·.1)) → PendRun rd n P ops c a l → k ∈ l.map (·.1) →
      ∃ v l', QRun rd n P c a ok v ∧ l'.map (·.1) = (l.map (·.1)).erase k ∧ PendRun rd n P ops c (a.put ok.dst v) l' ∧ putAll ops (a.put ok.dst v) l' = putAll ops a l
  | (m, u) :: l, hs, hr, hm => by
    obtain ⟨s1, s2, s3, s4, om, s5, s6, s7, s8, s9, s10⟩ := hs
    obtain ⟨r1, om', r2, r3⟩ := hr
    rw [s5] at r2
    cases r2
    by_cases e : m = k
    · subst e
      rw [hok] at s5
      cases s5
      have hap : ∀ x ∈ l.map (·.1), ∃ ox, ops[x]? = some ox ∧ ox.apart ops ok = true := fun x hx => by
        obtain ⟨ox, g1, g2, g3⟩ := s10 x hx
        exact ⟨ox, g1, g3 (waits_no hk (PendSt.un s1 x hx))⟩
      refine ⟨u, l, r3.congr ?_, by simp, PendRun.put hd r1 fun x hx => ?_, ?_⟩
      · rw [← exec_putAll a (noDefer_spec hd m ok hok).2 l fun x hx e he => ?_]
        · obtain ⟨ox, g1, g2⟩ := hap x hx
          exact (Oper.apart_spec g2).1 e (by rw [← dstAt_eq g1]; exact he)
      · obtain ⟨ox, g1, g2⟩ := hap x hx
        obtain ⟨h1, h2, h3⟩ := Oper.apart_spec g2
        exact ⟨ox, g1, fun e he h => h2 e he (by rw [h]), h3⟩
      · rw [putAll, dstAt_eq hok]
        refine putAll_put a l fun x hx e he h => ?_
        obtain ⟨ox, g1, g2⟩ := hap x hx
        exact (Oper.apart_spec g2).2.1 e (by rw [← dstAt_eq g1]; exact he) h
    · have hkl : k ∈ l.map (·.1) := (List.mem_cons.1 hm).resolve_left fun h => e h.symm
      obtain ⟨v, l', h1, h2, h3, h4⟩ := pend_take hd hok hk s1 r1 hkl
      refine ⟨v, (m, u) :: l', h1, ?_, ⟨h3, om, s5, by rw [h4]; exact r3⟩, by rw [putAll, putAll, h4]⟩
      simp only [List.map_cons]
      rw [List.erase_cons_tail (by simpa using e), h2]

/-! ### equal values -/

theorem eqList_eq {α : Type} {f : α → α → Bool} (hf : ∀ x y, f x y = true → x = y) : ∀ (a b : List α), eqList f a b = true → a = b
  | [], [], _ => rfl
  | [], _ :: _, h => by simp [eqList] at h
  | _ :: _, [], h => by simp [eqList] at h
  | x :: l, y :: m, h => by
    simp only [eqList, Bool.and_eq_true] at h
    rw [hf x y h.1, eqList_eq hf l m h.2]

theorem eqD_eq : ∀ (t : Ty) (x y : t.den), eqD t x y = true → x = y
  | .unit, (), (), _ => rfl
  | .bool, x, y, h => by simpa [eqD] using h
  | .int _, x, y, h => by simpa [eqD, eqI] using h
  | .str, x, y, h => by simpa [eqD, eqS] using h
  | .list t, x, y, h => eqList_eq (eqD_eq t) x y h
  | .pair a b, x, y, h => by
    simp only [eqD, Bool.and_eq_true] at h
    exact Prod.ext (eqD_eq a _ _ h.1) (eqD_eq b _ _ h.2)

theorem eqCast {t u : Ty} {x : t.den} {y : u.den} (h : (match castTy t y with | some y => eqD t x y | none => false) = true) : ∃ e : u = t, x = cast (congrArg Ty.den e) y := by
  split at h
  · rename_i z hz
    obtain ⟨e, h2⟩ := castTy_spec hz
    exact ⟨e, by rw [eqD_eq t _ _ h, h2]⟩
  · cases h

theorem eqView_eq {a b : Option (Int × Int)} (h : eqView a b = true) : a = b := by
  cases a <;> cases b <;> simp_all [eqView, eqI, Prod.ext_iff]

theorem natBeq {a b : Nat} (h : Nat.beq a b = true) : a = b := Nat.eq_of_beq_eq_true h

mutual
theorem eqV_eq : ∀ (a b : AVal), eqV a b = true → a = b
  | .undef, b, h => by cases b <;> simp [eqV] at h <;> rfl
  | .val t x, b, h => by
    cases b <;> simp only [eqV, Bool.false_eq_true] at h
    obtain ⟨e, h⟩ := eqCast h
    subst e
    rw [h]; rfl
  | .nils, b, h => by cases b <;> simp [eqV] at h <;> rfl
  | .nilp, b, h => by cases b <;> simp [eqV] at h <;> rfl
  | .nilfn, b, h => by cases b <;> simp [eqV] at h <;> rfl
  | .emp, b, h => by cases b <;> simp [eqV] at h <;> rfl
  | .tup l, b, h => by
    cases b <;> simp only [eqV, Bool.false_eq_true] at h
    rw [eqVs_eq l _ h]
  | .agg l, b, h => by
    cases b <;> simp only [eqV, Bool.false_eq_true] at h
    rw [eqVs_eq l _ h]
  | .cellp t x, b, h => by
    cases b <;> simp only [eqV, Bool.false_eq_true] at h
    obtain ⟨e, h⟩ := eqCast h
    subst e
    rw [h]; rfl
  | .lst t x n, b, h => by
    cases b <;> simp only [eqV, Bool.false_eq_true, Bool.and_eq_true] at h
    obtain ⟨h1, h2⟩ := h
    split at h2
    · rename_i z hz
      obtain ⟨e, h3⟩ := castTy_spec hz
      have h4 := eqD_eq (.list t) x z h2
      cases e
      simp only [beq_iff_eq] at h1
      rw [h4, h1, h3]; rfl
    · cases h2
  | .ptr i o, b, h => by
    cases b <;> simp only [eqV, Bool.false_eq_true, Bool.and_eq_true] at h
    rw [natBeq h.1, natBeq h.2]
  | .slc i v w, b, h => by
    cases b <;> simp only [eqV, Bool.false_eq_true, Bool.and_eq_true] at h
    rw [natBeq h.1, natBeq h.2.1, eqView_eq h.2.2]
  | .ep i v m o, b, h => by
    cases b <;> simp only [eqV, Bool.false_eq_true, Bool.and_eq_true] at h
    rw [natBeq h.1, natBeq h.2.1, natBeq h.2.2.1, natBeq h.2.2.2]
  | .fn f l, b, h => by
    cases b <;> simp only [eqV, Bool.false_eq_true, Bool.and_eq_true] at h
    rw [natBeq h.1, eqVs_eq l _ h.2]
  | .mfn f l, b, h => by
    cases b <;> simp only [eqV, Bool.false_eq_true, Bool.and_eq_true] at h
    rw [natBeq h.1, eqVs_eq l _ h.2]
  | .mpv i, b, h => by
    cases b <;> simp only [eqV, Bool.false_eq_true] at h
    rw [natBeq h]
  | .yld i, b, h => by
    cases b <;> simp only [eqV, Bool.false_eq_true] at h
    rw [natBeq h]
  | .slf i, b, h => by
    cases b <;> simp only [eqV, Bool.false_eq_true] at h
    rw [natBeq h]
  | .sd i v, b, h => by
    cases b <;> simp only [eqV, Bool.false_eq_true, Bool.and_eq_true] at h
    rw [natBeq h.1, natBeq h.2]
theorem eqVs_eq : ∀ (a b : List AVal), eqVs a b = true → a = b
  | [], [], _ => rfl
  | [], _ :: _, h => by simp [eqVs] at h
  | _ :: _, [], h => by simp [eqVs] at h
  | a :: l, b :: m, h => by
    simp only [eqVs, Bool.and_eq_true] at h
    rw [eqV_eq a b h.1, eqVs_eq l m h.2]
end

/-! ### an act's own slots -/

theorem blankL_length : ∀ (B : List Nat) (fr : List AVal), (blankL ops B fr).length = fr.length
  | [], _ => rfl
  | i :: B, fr => by
    simp only [blankL]
    split
    · rw [List.length_set]; exact blankL_length B fr
    · exact blankL_length B fr

theorem blankL_some {k d : Nat} {B : List Nat} {fr : List AVal} (h : dstAt ops k = some d) : blankL ops (k :: B) fr = (blankL ops B fr).set d .undef := by
  have h' : (ops[k]?).bind (·.dst) = some d := h
  simp only [blankL, h']
theorem blankL_none {k : Nat} {B : List Nat} {fr : List AVal} (h : dstAt ops k = none) : blankL ops (k :: B) fr = blankL ops B fr := by
  have h' : (ops[k]?).bind (·.dst) = none := h
  simp only [blankL, h']

theorem blankL_at : ∀ (B : List Nat) (fr : List AVal) (i : Nat) (h : i < fr.length) (h' : i < (blankL ops B fr).length), (blankL ops B fr)[i] = .undef ∨ ((blankL ops B fr)[i] = fr[i] ∧ ∀ k ∈ B, dstAt ops k ≠ some i)
  | [], fr, i, h, h' => .inr ⟨rfl, fun k hk => by cases hk⟩
  | k :: B, fr, i, h, h' => by
    have hl := blankL_length (ops := ops) B fr
    have ih := blankL_at B fr i h (by rw [hl]; exact h)
    cases hd : dstAt ops k with
    | some d =>
      simp only [blankL_some hd]
      by_cases e : d = i
      · subst e
        exact .inl (by simp)
      · rw [List.getElem_set_ne e]
        refine ih.imp (fun h => h) fun h => ⟨h.1, fun m hm => ?_⟩
        rcases List.mem_cons.1 hm with e2 | hm
        · rw [e2, hd]; intro h3; cases h3; exact e rfl
        · exact h.2 m hm
    | none =>
      simp only [blankL_none hd]
      refine ih.imp (fun h => h) fun h => ⟨h.1, fun m hm => ?_⟩
      rcases List.mem_cons.1 hm with e2 | hm
      · rw [e2, hd]; intro h3; cases h3
      · exact h.2 m hm

theorem put_at (X : Act) (d : Option Nat) (v : Value) (i : Nat) (hne : d ≠ some i) (h : i < (X.put d v).tmps.size) (h' : i < X.tmps.size) : (X.put d v).tmps[i] = X.tmps[i] := by
  cases d with
  | none => rfl
  | some d =>
    simp only [Act.put]
    exact Array.getElem_setIfInBounds_ne h' (fun e => hne (by rw [e]))

theorem putAll_at (a : Act) (i : Nat) : ∀ (l : List (Nat × Value)), (∀ k ∈ l.map (·.1), dstAt ops k ≠ some i) → ∀ (h : i < (putAll ops a l).tmps.size) (h' : i < a.tmps.size), (putAll ops a l).tmps[i] = a.tmps[i]
  | [], _, h, h' => rfl
  | (k, v) :: l, hk, h, h' => by
    have h2 : i < (putAll ops a l).tmps.size := by rw [putAll_size]; exact h'
    rw [← putAll_at a i l (fun m hm => hk m (List.mem_cons_of_mem _ hm)) h2 h']
    exact put_at _ _ _ _ (hk k List.mem_cons_self) h h2

theorem blank_rel {c : Cx} {fr : List AVal} {l : List (Nat × Value)} {B : List Nat} (h : VRels c fr (putAll ops a l).tmps.toList) (hB : ∀ k ∈ l.map (·.1), k ∈ B) : VRels c (blankL ops B fr) a.tmps.toList := by
  have hlen := VRels.length _ _ h
  rw [Array.length_toList (xs := (putAll ops a l).tmps), putAll_size] at hlen
  refine VRels.mk _ _ (by rw [blankL_length, hlen, Array.length_toList]) fun i h1 h2 => ?_
  rw [blankL_length] at h1
  have h2 : i < a.tmps.size := by simpa using h2
  rcases blankL_at (ops := ops) B fr i h1 (by rw [blankL_length]; exact h1) with e | ⟨e, hk⟩
  · rw [e]; simp [VRel]
  · rw [e]
    have := VRels.get _ _ h i h1 (by rw [Array.length_toList, putAll_size]; exact h2)
    simp only [Array.getElem_toList] at this ⊢
    rw [putAll_at a i l (fun k hk' => hk k (hB k hk')) (by rw [putAll_size]; exact h2) h2] at this
    exact this

/-! ### what went ahead is looked at again -/

theorem quiet_noSel {o : Oper} (h : quietOp o.op = true) : ∀ cs b, o.op ≠ .select cs b := fun cs b e => by rw [e] at h; simp [quietOp] at h

theorem own_quiet {op : Op} (h : quietOwn op = true) : quietOp op = true := by
  cases op <;> first | exact h | skip
  rename_i cc
  obtain ⟨callee, args, ts⟩ := cc
  cases callee with
  | builtin b => cases b <;> first | exact h | (simp [quietOwn] at h)
  | value v => rfl
  | invoke x m => simp [quietOwn] at h

/-- what a second look at an operation tells -/
def Again (T : TT) (cl : Bool) {R : Type} (call : CallFn R) (ops : Array Oper) (old : List AVal) (st : St) (k : Nat) : Prop :=
  ∃ ok, ops[k]? = some ok ∧ ((quietOwn ok.op = true ∧ ∃ (r : R) (K : St → Option R), (evalOp T cl call ok st fun z s => bif sameAt ok.dst z st then K s else none) = some r) ∨
    (quietOwn ok.op = false ∧ callArgs ok old = callArgs ok st.fr ∧ slotAt ok.dst old = slotAt ok.dst st.fr))

theorem recheck_some {R : Type} {r : R} (hT : TOk P T) {call : CallFn R} {old : List AVal} {K : St → Option R} (hr : Rel W0 b0 rd c st a ats) : ∀ (B : List Nat),
    recheck T cl call ops old B st K = some r → K st = some r ∧ ∀ k ∈ B, Again T cl call ops old st k
  | [], h => ⟨h, fun k hk => by cases hk⟩
  | k :: B, h => by
    simp only [recheck] at h
    split at h
    · rename_i ok h1
      cases hq : quietOwn ok.op with
      | true =>
        rw [hq] at h
        simp only [cond_true] at h
        have h0 := h
        obtain ⟨z, u, g1, g2, g3⟩ := quiet_op hT hr.ok hq hr.hp hr.fr h
        replace g1 := bif_some g1
        obtain ⟨g4, g5⟩ := recheck_some hT hr B g1.2
        refine ⟨g4, fun m hm => ?_⟩
        rcases List.mem_cons.1 hm with e | hm
        · exact ⟨ok, by rw [e]; exact h1, .inl ⟨hq, r, fun _ => recheck T cl call ops old B st K, h0⟩⟩
        · exact g5 m hm
      | false =>
        rw [hq] at h
        simp only [cond_false] at h
        replace h := bif_some h
        obtain ⟨h2, h⟩ := h
        simp only [Bool.and_eq_true] at h2
        obtain ⟨g4, g5⟩ := recheck_some hT hr B h
        refine ⟨g4, fun m hm => ?_⟩
        rcases List.mem_cons.1 hm with e | hm
        · exact ⟨ok, by rw [e]; exact h1, .inr ⟨hq, eqVs_eq _ _ h2.1, eqVs_eq _ _ h2.2⟩⟩
        · exact g5 m hm
    · cases h

theorem RigidFit.same {o : Oper} {fr fr' : List AVal} {z : AVal} (h : RigidFit sg cl o fr z) (h1 : callArgs o fr = callArgs o fr') (h2 : slotAt o.dst fr = slotAt o.dst fr') : RigidFit sg cl o fr' z := by
  obtain ⟨a1, a2, a3, a4, fv, args, a5, a6⟩ := h
  refine ⟨a1, a2, a3, fun d hd => ?_, fv, args, by rw [← h1]; exact a5, a6⟩
  rw [a4 d hd]
  simp only [slotAt, hd, List.cons.injEq, and_true] at h2
  exact h2

theorem put_self {d : Nat} {z : AVal} (h : z = st.fr.getD d .undef) : st.put (some d) z = st := by
  obtain ⟨fr, stk, hp, nxt⟩ := st
  simp only [St.put]
  have : fr.set d z = fr := by
    subst h
    apply List.ext_getElem
    · simp
    · intro i h1 h2
      rw [List.getElem_set]
      split
      · rename_i e
        subst e
        simp [List.getD, h2]
      · rfl
  rw [this]

theorem put_put (X : Act) (d : Option Nat) (v u : Value) : (X.put d v).put d u = X.put d u := by
  cases d with
  | none => rfl
  | some d => simp [Act.put]

/-- one after another, the oldest first, gets its new value -/
theorem again_all (hT : TOk P T) (hd : noDefer ops = true) (hsq : QCallOk (R := Unit) P (sumQ sg cl)) {R : Type} {call : CallFn R} {old : List AVal} {lA : Array Bool} {log : List Nat} : ∀ (l q : List (Nat × Value)), PendSt ops lA log (l.map (·.1)) → Rel W0 b0 rd c st (putAll ops (putAll ops a l) q) ats →
    (∀ k ∈ l.map (·.1), Again T cl call ops old st k) → FitAll sg cl ops st.fr (l.map (·.1)) → (∀ m ∈ q.map (·.1), ∃ om, ops[m]? = some om ∧ ∀ k ∈ l.map (·.1), ∃ ok, ops[k]? = some ok ∧ Half ops ok om) →
    ∃ l', l'.map (·.1) = l.map (·.1) ∧ Rel W0 b0 rd c st (putAll ops (putAll ops a l') q) ats ∧ PendRun rd n P ops c a l'
  | [], q, _, hr, _, _, _ => ⟨[], rfl, hr, trivial⟩
  | (k, v) :: l, q, hs, hr, hA, hF, hq => by
    obtain ⟨s1, s2, s3, s4, ok, s5, s6, s7, s8, s9, s10⟩ := hs
    have hq2 : ∀ m ∈ (q ++ [(k, v)]).map (·.1), ∃ om, ops[m]? = some om ∧ ∀ x ∈ l.map (·.1), ∃ ox, ops[x]? = some ox ∧ Half ops ox om := fun m hm => by
      rw [List.map_append, List.mem_append] at hm
      rcases hm with hm | hm
      · obtain ⟨om, h1, h2⟩ := hq m hm
        exact ⟨om, h1, fun x hx => h2 x (List.mem_cons_of_mem _ hx)⟩
      · simp only [List.map_cons, List.map_nil, List.mem_singleton] at hm
        subst hm
        refine ⟨ok, s5, fun x hx => ?_⟩
        obtain ⟨ox, h1, h2, _⟩ := s10 x hx
        exact ⟨ox, h1, h2⟩
    obtain ⟨l', e1, hr2, hrun⟩ := again_all hT hd hsq l (q ++ [(k, v)]) s1 (by rw [putAll_append]; exact hr) (fun m hm => hA m (List.mem_cons_of_mem _ hm)) (fun m hm => hF m (List.mem_cons_of_mem _ hm)) hq2
    rw [putAll_append] at hr2
    have hX : putAll ops (putAll ops a l') [(k, v)] = (putAll ops a l').put (dstAt ops k) v := rfl
    rw [hX] at hr2
    have hdk := dstAt_eq s5
    -- the operation doesn't see what newer ones make, nor what it makes itself
    have hsee : execOp (putAll ops ((putAll ops a l').put (dstAt ops k) v) q).eval ok = execOp (putAll ops a l').eval ok := by
      rw [exec_putAll _ (quiet_noSel s6) q fun m hm e he => ?_, execOp_put (ops := ops) ok (quiet_noSel s6) _ _ _ (by rw [hdk]; exact s8)]
      obtain ⟨om, h1, h2⟩ := hq m hm
      obtain ⟨ok', h3, h4⟩ := h2 k List.mem_cons_self
      rw [s5] at h3
      cases h3
      exact (h4 e (by rw [← dstAt_eq h1]; exact he)).1
    have hcomm : ∀ u, putAll ops ((putAll ops a l').put (dstAt ops k) u) q = (putAll ops (putAll ops a l') q).put (dstAt ops k) u := fun u => putAll_put _ q fun m hm e he h => by
      obtain ⟨om, h1, h2⟩ := hq m hm
      obtain ⟨ok', h3, h4⟩ := h2 k List.mem_cons_self
      rw [s5] at h3
      cases h3
      exact (h4 e (by rw [← dstAt_eq h1]; exact he)).2 (by rw [← hdk]; exact h)
    -- with its new value
    have fin : ∀ (z : AVal) (u : Value), VRel c z u → st.put ok.dst z = st → QRun rd n P c (putAll ops ((putAll ops a l').put (dstAt ops k) v) q) ok u →
        ∃ l2, l2.map (·.1) = ((k, v) :: l).map (·.1) ∧ Rel W0 b0 rd c st (putAll ops (putAll ops a l2) q) ats ∧ PendRun rd n P ops c a l2 := fun z u g2 hself g3 => by
      refine ⟨(k, u) :: l', by simp [e1], ?_, hrun, ok, s5, g3.congr hsee.symm⟩
      have := hr2.put (dst := ok.dst) g2
      rw [hself, hcomm v, hdk, put_put, ← hdk, ← hcomm u] at this
      exact this
    obtain ⟨ok', a1, a2⟩ := hA k List.mem_cons_self
    rw [s5] at a1
    cases a1
    rcases a2 with ⟨b1, r, K, a3⟩ | ⟨b1, _, _⟩
    · obtain ⟨z, u, g1, g2, g3⟩ := quiet_op hT hr2.ok b1 hr2.hp hr2.fr a3
      rw [cond_eq_ite] at g1
      split at g1
      · rename_i hz
        refine fin z u g2 ?_ (.of_run g3)
        cases hdst : ok.dst with
        | none => rfl
        | some d =>
          rw [hdst] at hz
          exact put_self (eqV_eq _ _ hz)
      · cases g1
    · obtain ⟨z, hz⟩ := hF k List.mem_cons_self ok s5 b1
      obtain ⟨g2, g3⟩ := ahead_call (n := n) hT hsq hz rfl hr2
      refine fin z _ g2 ?_ g3
      cases hdst : ok.dst with
      | none => rfl
      | some d => exact put_self (hz.2.2.2.1 d hdst)

/-! ### an operation that isn't quiet -/

theorem late_step (hT : TOk P T) (hd : noDefer ops = true) (hsq : QCallOk (R := Unit) P (sumQ sg cl)) {R : Type} {r : R} {call : CallFn R} (hcall : CallOk P W0 n call) {lA : Array Bool} {log : List Nat} {l : List (Nat × Value)} {j : Nat} {K : St → Option R}
    (hF : FitAll sg cl ops st.fr (l.map (·.1))) (hj : j ∈ Region.ready .any ops lA) (hs : PendSt ops lA log (l.map (·.1))) (hjl : j ∉ l.map (·.1)) (hr : Rel W0 b0 rd c st (putAll ops a l) ats)
    (h : lateStep T cl call ops j log st K = some r) {next : Act → World → Prop} {Q : Exit → Act → World → Prop}
    (hn : ∀ c' st' a' l', K st' = some r → l'.map (·.1) = l.map (·.1) → Rel W0 b0 rd c' st' (putAll ops a' l') ats → PendRun rd n P ops c' a' l' → FitAll sg cl ops st'.fr (l.map (·.1)) → c.Mono c' → next a' c'.w) : wpOpIn (FW rd) n P ops Q j next a c.w := by
  unfold lateStep at h
  split at h
  · rename_i oj hoj
    replace h := bif_some h
    obtain ⟨hg, h⟩ := h
    simp only [Bool.and_eq_true] at hg
    have hguard : oj.guard = none := by simpa using hg.1
    unfold wpOpIn
    simp only [hoj]
    rw [if_pos (by simp [Region.wanted, hguard])]
    have hB : ∀ k ∈ l.map (·.1), k ∈ log.filter fun i => !waitsOn ops j i := fun k hk => List.mem_filter.2 ⟨PendSt.log hs k hk, by rw [waits_no hj (PendSt.un hs k hk)]; rfl⟩
    have hap : ∀ k ∈ l.map (·.1), ∃ ok, ops[k]? = some ok ∧ ok.apart ops oj = true := fun k hk => by
      have h2 := hg.2
      unfold okStep at h2
      rw [hoj] at h2
      have h3 := List.all_eq_true.1 h2 k (PendSt.log hs k hk)
      split at h3
      · rename_i ok hok
        simp only [Bool.or_eq_true] at h3
        refine ⟨ok, hok, h3.resolve_left ?_⟩
        rw [waits_no hj (PendSt.un hs k hk)]; simp
      · cases h3
    have hrun : Rel W0 b0 rd c { st with fr := blankL ops (log.filter fun i => !waitsOn ops j i) st.fr, stk := st.fr :: st.stk } a ((putAll ops a l).tmps :: ats) :=
      ⟨hr.hp, hr.nxt, hr.ok, blank_rel hr.fr hB, ⟨hr.fr, hr.stk⟩, by have := hr.df; rwa [putAll_defers] at this, hr.rd⟩
    refine op_sound hT hcall h hrun fun c' z u st1 k1 k2 k3 k4 => ?_
    split at k1
    · rename_i fr stk hst
      have hstk := k2.stk
      rw [hst] at hstk
      simp only [Stk] at hstk
      have hr1 : Rel W0 b0 rd c' { st1 with fr := fr, stk := stk } (putAll ops a l) ats :=
        ⟨k2.hp, k2.nxt, k2.ok, hstk.1, hstk.2, by rw [putAll_defers]; exact k2.df, k2.rd⟩
      have hr2 := hr1.put (dst := oj.dst) k3
      have hcm : (putAll ops a l).put oj.dst u = putAll ops (a.put oj.dst u) l := (putAll_put a l fun m hm e he hh => by
        obtain ⟨om, h1, h2⟩ := hap m hm
        exact (Oper.apart_spec h2).2.1 e (by rw [← dstAt_eq h1]; exact he) hh).symm
      rw [hcm] at hr2
      obtain ⟨g1, g2⟩ := recheck_some hT hr2 _ k1
      have hA : ∀ k ∈ l.map (·.1), Again T cl call ops st.fr _ k := fun k hk => g2 k (List.mem_reverse.2 (hB k hk))
      have hF2 : FitAll sg cl ops _ (l.map (·.1)) := fun k hk ok hok hq => by
        obtain ⟨z, hz⟩ := hF k hk ok hok hq
        obtain ⟨ok', b1, b2⟩ := hA k hk
        rw [hok] at b1
        cases b1
        rcases b2 with ⟨b3, _⟩ | ⟨_, b4, b5⟩
        · rw [hq] at b3; cases b3
        · exact ⟨z, hz.same b4 b5⟩
      obtain ⟨l', e1, e2, e3⟩ := again_all (n := n) hT hd hsq l [] hs hr2 hA hF2 (fun m hm => by cases hm)
      exact hn c' _ _ l' g1 e1 e2 e3 hF2 k4
    · cases k1
  · cases h

/-! ### the end states of all orders are one -/

/-- the named ranges of a state have the texts that they are to have -/
def WfH (h : Heap) : Prop := ∀ id f fr ps asg bd k n p, hget h id = some (.lp f fr ps asg bd (some k) n p) → rfTab f k = some (asg, bd)

theorem Rel.tidy {c : Cx} {st : St} {a : Act} (cl : Bool) (hr : Rel W0 b0 rd c st a ats) : ∃ c', Rel W0 b0 rd c' (tidy cl st) a ats ∧ c.Mono c' ∧ c'.w = c.w := by
  cases cl with
  | true => exact ⟨c, hr, Cx.Mono.refl c, rfl⟩
  | false =>
    have hg : ∀ i, hget (sortH c.hp) i = hget c.hp i := fun i => hget_sortH i _
    have hself : ∀ (o : AObj) (l : Loc), o.like l o l := fun o l => by
      cases o <;> simp [AObj.like]
    have hle : c.Le { c with hp := sortH c.hp } := by
      refine ⟨fun b hb => ⟨⟨hb.1, fun ⟨j, o, h1, h2⟩ => hb.2.1 ⟨j, o, by rw [← hg]; exact h1, h2⟩, hb.2.2⟩, rfl⟩, fun id hk => ?_, fun id o' _ h => ⟨o', by rw [← hg]; exact h, hself _ _⟩, fun _ h => h, fun b L h => ⟨L, h⟩, Nat.le_refl _, rfl⟩
      rcases hk with ⟨o, h⟩ | h
      · exact .inl ⟨o, by show hget (sortH c.hp) id = some o; rw [hg]; exact h⟩
      · exact .inr h
    have hok : ({ c with hp := sortH c.hp } : Cx).Ok W0 := by
      refine ⟨hr.ok.bel, fun id o h => ?_, fun i j o p b h1 h2 => hr.ok.inj i j o p b (by rw [← hg]; exact h1) (by rw [← hg]; exact h2), hr.ok.mks, fun b hb => (hle.out b (hr.ok.bar b hb)).1, hr.ok.phi⟩
      exact (hr.ok.obj id o (by rw [← hg]; exact h)).le hle rfl fun b _ => rfl
    exact ⟨{ c with hp := sortH c.hp }, ⟨by show sortH c.hp = sortH st.hp; rw [hr.hp], hr.nxt, hok, VRels.le hle _ _ hr.fr, Stk.le hle _ _ hr.stk, hr.df, hr.rd⟩, hle.mono, rfl⟩

theorem Rel.wf {c : Cx} {st : St} {a : Act} (hr : Rel W0 b0 rd c st a ats) : WfH st.hp := fun id f fr ps asg bd k n p h => by
  rw [← hr.hp] at h
  exact (hr.ok.obj id _ h).1 k rfl

def WfO : AObj → Prop
  | .lp f _ _ asg bd (some k) _ _ => rfTab f k = some (asg, bd)
  | _ => True

theorem wf_all : ∀ (h : Heap), noTwice h = true → WfH h → ∀ e ∈ h, WfO e.2
  | [], _, _, e, he => by simp at he
  | (k, o) :: h, hn, hw, e, he => by
    simp only [noTwice, Bool.and_eq_true, Bool.not_eq_true'] at hn
    rcases List.mem_cons.1 he with rfl | he
    · cases o with
      | lp f fr ps asg bd ky n p =>
        cases ky with
        | none => trivial
        | some q => exact hw k f fr ps asg bd q n p (by simp [hget_cons])
      | _ => trivial
    · refine wf_all h hn.2 (fun id f fr ps asg bd q n p hg => hw id f fr ps asg bd q n p ?_) e he
      rw [hget_cons]
      by_cases hk : k = id
      · subst hk
        have := hget_mem _ _ _ hg
        have hany := hn.1
        rw [List.any_eq_false] at hany
        exact absurd (by simp : Nat.beq k k = true) (hany _ this)
      · rw [if_neg hk]; exact hg

theorem eqEx_eq {a b : Ex} (h : eqEx a b = true) : a = b := by
  cases a <;> cases b <;> simp only [eqEx, Bool.false_eq_true] at h <;> first | rfl | rw [natBeq h]

theorem eqOEx_eq {a b : Option Ex} (h : eqOEx a b = true) : a = b := by
  cases a <;> cases b <;> simp only [eqOEx, Bool.false_eq_true] at h
  · rfl
  · rw [eqEx_eq h]

theorem textO_eq {old : Heap} {i : Nat} {a b x : AObj} (hw : WfH old) (hb : WfO b) (he : eqO a b = true) (h : textO old i a = some x) : x = b := by
  cases a with
  | box t l =>
    cases b <;> simp only [eqO, Bool.false_eq_true, Bool.and_eq_true] at he
    cases h
    rw [natBeq he.1, eqVs_eq _ _ he.2]
  | arr t v y =>
    cases b <;> simp only [eqO, Bool.false_eq_true, Bool.and_eq_true] at he
    cases h
    obtain ⟨h1, h2⟩ := he
    split at h2
    · rename_i z hz
      obtain ⟨e, h3⟩ := castTy_spec hz
      have h4 := eqD_eq (.list t) y z h2
      cases e
      rw [h4, natBeq h1, h3]; rfl
    · cases h2
  | dead =>
    cases b <;> simp only [eqO, Bool.false_eq_true] at he
    cases h
    rfl
  | mp k v l =>
    cases b <;> simp only [eqO, Bool.false_eq_true, Bool.and_eq_true, decide_eq_true_eq] at he
    obtain ⟨rfl, rfl, rfl⟩ := he
    cases h
    rfl
  | lp f fr ps asg bd ky n p =>
    cases b <;> simp only [eqO, Bool.false_eq_true, Bool.and_eq_true] at he
    rename_i g fs qs asg' bd' kz m q
    obtain ⟨h1, h2, h3, h4, h5, h6⟩ := he
    split at h4
    · rename_i k k'
      have e1 := natBeq h1
      have e4 := natBeq h4
      subst e1 e4
      simp only [textO] at h
      split at h
      · rename_i hg
        replace h := bif_some h
        obtain ⟨h7, h⟩ := h
        simp only [Bool.and_eq_true] at h7
        rename_i g2 _ _ asg2 bd2 k2 _ _
        have e5 := natBeq h7.1
        have e6 := natBeq h7.2
        subst e5 e6
        have w1 := hw _ _ _ _ _ _ _ _ _ hg
        simp only [WfO] at hb
        rw [w1] at hb
        cases hb
        cases h
        rw [eqVs_eq _ _ h2, eqList_eq (fun _ _ => natBeq) _ _ h3, natBeq h5, eqOEx_eq h6]
      · cases h
    · cases h4

theorem textH_eq {old : Heap} (hw : WfH old) : ∀ (a b x : Heap), (∀ e ∈ b, WfO e.2) → eqH a b = true → textH old a = some x → x = b
  | [], b, x, _, he, h => by
    cases b with
    | nil => cases h; rfl
    | cons _ _ => simp [eqH] at he
  | (i, o) :: a, b, x, hb, he, h => by
    cases b with
    | nil => simp [eqH] at he
    | cons e b =>
      obtain ⟨j, o'⟩ := e
      simp only [eqH, Bool.and_eq_true] at he
      simp only [textH] at h
      split at h
      · rename_i y hy
        split at h
        · rename_i z hz
          cases h
          rw [textO_eq hw (hb _ List.mem_cons_self) he.2.1 hy, textH_eq hw a b z (fun e he => hb e (List.mem_cons_of_mem _ he)) he.2.2 hz, natBeq he.1]
        · cases h
      · cases h

theorem settle_eq {old : Heap} {a b m : St} (h : settle old a = some m) (hw : WfH old) (h2 : eqSt a b = true) (hn : noTwice b.hp = true) (hb : WfH b.hp) : m = b := by
  unfold settle at h
  split at h
  · rename_i hp hh
    cases h
    unfold eqSt at h2
    simp only [Bool.and_eq_true] at h2
    obtain ⟨e1, e2, e3, e4⟩ := h2
    have e5 := textH_eq hw _ _ _ (wf_all _ hn hb) e3 hh
    obtain ⟨f1, s1, p1, n1⟩ := a
    obtain ⟨f2, s2, p2, n2⟩ := b
    simp only at e1 e2 e4 e5
    rw [eqVs_eq _ _ e1, eqList_eq eqVs_eq _ _ e2, natBeq e4, e5]
  · cases h

theorem textO_self {old : Heap} {i : Nat} {a x : AObj} (hw : WfH old) (ha : WfO a) (h : textO old i a = some x) : x = a := by
  cases a with
  | lp f fr ps asg bd ky n p =>
    cases ky with
    | none => simp [textO] at h
    | some k =>
      simp only [textO] at h
      split at h
      · rename_i hg
        replace h := bif_some h
        obtain ⟨h7, h⟩ := h
        simp only [Bool.and_eq_true] at h7
        have e5 := natBeq h7.1
        have e6 := natBeq h7.2
        subst e5 e6
        have w1 := hw _ _ _ _ _ _ _ _ _ hg
        simp only [WfO] at ha
        rw [w1] at ha
        cases ha
        cases h
        rfl
      · cases h
  | _ => simp only [textO, Option.some.injEq] at h; exact h.symm

theorem textH_self {old : Heap} (hw : WfH old) : ∀ (a x : Heap), (∀ e ∈ a, WfO e.2) → textH old a = some x → x = a
  | [], x, _, h => by cases h; rfl
  | (i, o) :: a, x, ha, h => by
    simp only [textH] at h
    split at h
    · rename_i y hy
      split at h
      · rename_i z hz
        cases h
        rw [textO_self hw (ha _ List.mem_cons_self) hy, textH_self hw a z (fun e he => ha e (List.mem_cons_of_mem _ he)) hz]
      · cases h
    · cases h

theorem settle_self {old : Heap} {a m : St} (h : settle old a = some m) (hw : WfH old) (hn : noTwice a.hp = true) (ha : WfH a.hp) : m = a := by
  unfold settle at h
  split at h
  · rename_i hp hh
    cases h
    rw [textH_self hw _ _ (wf_all _ hn ha) hh]
  · cases h

theorem mergeAll_eq {old : Heap} {L : List (Option St)} {m : St} (h : mergeAll old L = some m) (hw : WfH old) : ∀ x ∈ L, ∃ b, x = some b ∧ (WfH b.hp → m = b) := by
  unfold mergeAll at h
  split at h
  · rename_i a l
    replace h := bif_some h
    obtain ⟨h1, h⟩ := h
    split at h
    · rename_i hp hh
      cases h
      intro x hx
      have h2 := List.all_eq_true.1 h1 x hx
      cases x with
      | none => simp at h2
      | some b =>
        simp only [Bool.and_eq_true] at h2
        refine ⟨b, rfl, fun hb => ?_⟩
        obtain ⟨h2, hn⟩ := h2
        unfold eqSt at h2
        simp only [Bool.and_eq_true] at h2
        obtain ⟨e1, e2, e3, e4⟩ := h2
        have e5 := textH_eq hw _ _ _ (wf_all _ hn hb) e3 hh
        obtain ⟨f1, s1, p1, n1⟩ := a
        obtain ⟨f2, s2, p2, n2⟩ := b
        simp only at e1 e2 e4 e5 ⊢
        rw [eqVs_eq _ _ e1, eqList_eq eqVs_eq _ _ e2, natBeq e4, e5]
    · cases h
  · cases h

/-! ### all orders -/

def cntA (ops : Array Oper) (lA : Array Bool) : Nat := ((List.range ops.size).filter fun i => !lA.getD i true).length

theorem filter_lt {α : Type} {p q : α → Bool} : ∀ (l : List α), (∀ x ∈ l, q x = true → p x = true) → (∃ x ∈ l, p x = true ∧ q x = false) → (l.filter q).length < (l.filter p).length
  | [], _, h => by obtain ⟨x, hx, _⟩ := h; cases hx
  | y :: l, h, hx => by
    have hle : (l.filter q).length ≤ (l.filter p).length := by
      clear hx
      induction l with
      | nil => simp
      | cons z l ih =>
        have ih := ih fun x hx => h x (by rcases List.mem_cons.1 hx with e | hx; exact e ▸ List.mem_cons_self; exact List.mem_cons_of_mem _ (List.mem_cons_of_mem _ hx))
        simp only [List.filter_cons]
        cases hq : q z with
        | true => rw [h z (List.mem_cons_of_mem _ List.mem_cons_self) hq]; simpa using ih
        | false => cases p z <;> simp <;> omega
    obtain ⟨x, hx, h1, h2⟩ := hx
    simp only [List.filter_cons]
    rcases List.mem_cons.1 hx with e | hx
    · subst e
      rw [h1, h2]
      simp
      omega
    · have ih := filter_lt l (fun x hx => h x (List.mem_cons_of_mem _ hx)) ⟨x, hx, h1, h2⟩
      cases hq : q y with
      | true => rw [h y List.mem_cons_self hq]; simpa using ih
      | false => cases p y <;> simp <;> omega

theorem cnt_set {lA : Array Bool} {j : Nat} (hs : lA.size = ops.size) (hj : j ∈ Region.ready .any ops lA) : cntA ops (lA.setIfInBounds j true) < cntA ops lA := by
  obtain ⟨h1, oj, h2, _⟩ := mem_ready.1 hj
  have hlt : j < ops.size := (Array.getElem?_eq_some_iff.1 h2).1
  refine filter_lt _ (fun x hx h => ?_) ⟨j, List.mem_range.2 hlt, by rw [h1]; rfl, ?_⟩
  · by_cases e : j = x
    · subst e; rw [h1]; rfl
    · rwa [getD_set_ne true e] at h
  · have : j < lA.size := by omega
    simp [this]

theorem cnt_ready {lA : Array Bool} (h : cntA ops lA = 0) : Region.ready .any ops lA = [] := by
  unfold cntA at h
  have h := List.length_eq_zero_iff.1 h
  cases hr : Region.ready .any ops lA with
  | nil => rfl
  | cons j rs =>
    obtain ⟨h1, oj, h2, _⟩ := mem_ready.1 (show j ∈ Region.ready .any ops lA by rw [hr]; simp)
    have hlt : j < ops.size := (Array.getElem?_eq_some_iff.1 h2).1
    have : j ∈ (List.range ops.size).filter fun i => !lA.getD i true := List.mem_filter.2 ⟨List.mem_range.2 hlt, by rw [h1]; rfl⟩
    rw [h] at this
    cases this

theorem PendSt.oldest {lA : Array Bool} {log : List Nat} : ∀ {l : List Nat}, PendSt ops lA log l → l ≠ [] → ∃ k ∈ l, k ∈ Region.ready .any ops lA
  | [], _, h => absurd rfl h
  | [k], h, _ => by
    obtain ⟨_, h2, _, _, ok, h5, _, _, _, h9, _⟩ := h
    exact ⟨k, List.mem_cons_self, mem_ready.2 ⟨h2, ok, h5, fun e he hb => (h9 e he hb).resolve_right (by simp)⟩⟩
  | k :: m :: l, h, _ => by
    obtain ⟨x, hx, hr⟩ := PendSt.oldest h.1 (by simp)
    exact ⟨x, List.mem_cons_of_mem _ hx, hr⟩

/-- how far the evaluator is ahead -/
structure Lag (n : Nat) (sg : FuncId → Option Sum) (cl : Bool) (P : Program) (W0 : World) (b0 : Nat) (rd : Option Nat) (ats : List (Array Value)) (ops : Array Oper) (c : Cx) (st : St) (lE : Array Bool) (log : List Nat) (a : Act) (lA : Array Bool) (l : List (Nat × Value)) : Prop where
  rel : Rel W0 b0 rd c st (putAll ops a l) ats
  pst : PendSt ops lA log (l.map (·.1))
  run : PendRun rd n P ops c a l
  sA : lA.size = ops.size
  sE : lE.size = ops.size
  sub : ∀ j, lA.getD j false = true → lE.getD j false = true
  cov : ∀ j, lE.getD j false = true → lA.getD j false = true ∨ j ∈ l.map (·.1)
  hE : ∀ k ∈ l.map (·.1), lE.getD k false = true
  fit : FitAll sg cl ops st.fr (l.map (·.1))

theorem getD_tf {l : Array Bool} {j : Nat} (h : j < l.size) : l.getD j true = l.getD j false := by simp [h]

theorem Lag.ready {lE : Array Bool} {log : List Nat} {lA : Array Bool} {l : List (Nat × Value)} (h : Lag n sg cl P W0 b0 rd ats ops c st lE log a lA l) {j : Nat} (hj : j ∈ Region.ready .any ops lA) (hjl : j ∉ l.map (·.1)) : j ∈ Region.ready .any ops lE := by
  obtain ⟨h1, oj, h2, h3⟩ := mem_ready.1 hj
  have hlt : j < ops.size := (Array.getElem?_eq_some_iff.1 h2).1
  refine mem_ready.2 ⟨?_, oj, h2, fun e he hb => h.sub _ (h3 e he hb)⟩
  cases hg : lE.getD j true with
  | false => rfl
  | true =>
    rw [getD_tf (by rw [h.sE]; exact hlt)] at hg
    rcases h.cov j hg with h4 | h4
    · exact (listed_no h4 h1).elim
    · exact absurd h4 hjl

theorem lag_all (hd : noDefer ops = true) {lE : Array Bool} {log : List Nat} {Q : Act → World → Prop}
    (hfin : Region.ready .any ops lE = [] → ∀ w, Ext c w → ∀ a, Rel W0 b0 rd (c.at_ w) st a ats → Q a w)
    (hstep : ∀ (w : World), Ext c w → ∀ (fA : Nat) (a : Act) (lA : Array Bool) (l : List (Nat × Value)) (j : Nat), Lag n sg cl P W0 b0 rd ats ops (c.at_ w) st lE log a lA l → cntA ops lA ≤ fA + 1 → j ∈ Region.ready .any ops lA → j ∉ l.map (·.1) → j ∈ Region.ready .any ops lE →
      wpOpIn (FW rd) n P ops (fun e a w => e = .normal ∧ Q a w) j (wpAnyIn (FW rd) n P .any ops (fun e a w => e = .normal ∧ Q a w) fA (lA.setIfInBounds j true)) a w) :
    ∀ (m fA : Nat) (w : World), Ext c w → ∀ (a : Act) (lA : Array Bool) (l : List (Nat × Value)), l.length = m → Lag n sg cl P W0 b0 rd ats ops (c.at_ w) st lE log a lA l → cntA ops lA ≤ fA →
      wpAnyIn (FW rd) n P .any ops (fun e a w => e = .normal ∧ Q a w) fA lA a w := by
  have done : ∀ (w : World), Ext c w → ∀ (a : Act) (lA : Array Bool) (l : List (Nat × Value)), Lag n sg cl P W0 b0 rd ats ops (c.at_ w) st lE log a lA l → Region.ready .any ops lA = [] → Q a w := fun w hw a lA l h hr => by
    have hl : l = [] := by
      cases l with
      | nil => rfl
      | cons x l =>
        obtain ⟨k, _, hk⟩ := PendSt.oldest h.pst (by simp)
        rw [hr] at hk
        cases hk
    subst hl
    refine hfin ?_ w hw a h.rel
    cases hrE : Region.ready .any ops lE with
    | nil => rfl
    | cons j rs =>
      obtain ⟨h1, oj, h2, h3⟩ := mem_ready.1 (show j ∈ Region.ready .any ops lE by rw [hrE]; simp)
      have hlt : j < ops.size := (Array.getElem?_eq_some_iff.1 h2).1
      have : j ∈ Region.ready .any ops lA := mem_ready.2 ⟨by
        cases hg : lA.getD j true with
        | false => rfl
        | true =>
          rw [getD_tf (by rw [h.sA]; exact hlt)] at hg
          exact (listed_no (h.sub j hg) h1).elim, oj, h2, fun e he hb => (h.cov _ (h3 e he hb)).resolve_right (by simp)⟩
      rw [hr] at this
      cases this
  intro m
  induction m using Nat.strongRecOn with
  | ind m ih =>
    intro fA w hw a lA l hm h hc
    cases fA with
    | zero =>
      have hr := cnt_ready (ops := ops) (lA := lA) (by omega)
      exact ⟨hr, rfl, done w hw a lA l h hr⟩
    | succ fA =>
      refine ⟨fun hr => ⟨rfl, done w hw a lA l h hr⟩, fun j hj => ?_⟩
      by_cases hjl : j ∈ l.map (·.1)
      · obtain ⟨hun, oj, hoj, hdeps⟩ := mem_ready.1 hj
        obtain ⟨v, l', g1, g2, g3, g4⟩ := pend_take hd hoj hj h.pst h.run hjl
        have hlt : j < ops.size := (Array.getElem?_eq_some_iff.1 hoj).1
        have hguard : oj.guard = none := by
          have : ∀ (l : List Nat), PendSt ops lA log l → j ∈ l → oj.guard = none := fun l => by
            induction l with
            | nil => intro _ h; cases h
            | cons k l ih =>
              intro hp hm
              rcases List.mem_cons.1 hm with e | hm
              · subst e
                obtain ⟨_, _, _, _, ok, h5, _, h7, _⟩ := hp
                rw [hoj] at h5
                cases h5
                exact h7
              · exact ih hp.1 hm
          exact this _ h.pst hjl
        have hlen : l'.length < m := by
          have e1 : l'.length = (l'.map (·.1)).length := by simp
          rw [e1, g2, List.length_erase_of_mem hjl, List.length_map]
          have : 0 < l.length := by cases l with | nil => cases hjl | cons _ _ => simp
          omega
        refine g1.wpOp (c := c.at_ w) hd hoj hguard fun w' hw' => ?_
        have hw2 : Ext c w' := Below.trans hw (hw'.mono hw.size)
        refine ih l'.length hlen fA w' hw2 _ _ l' rfl ⟨by rw [g4]; exact h.rel.ext hw', by rw [g2]; exact PendSt.take (by rw [h.sA]; exact hlt) h.pst hjl, PendRun.ext hw' g3, by simpa using h.sA, h.sE, fun k hk => ?_, fun k hk => ?_, fun k hk => h.hE k (by rw [g2] at hk; exact List.mem_of_mem_erase hk), fun k hk => h.fit k (by rw [g2] at hk; exact List.mem_of_mem_erase hk)⟩ (by have := cnt_set h.sA hj; omega)
        · by_cases e : j = k
          · subst e; exact h.hE j hjl
          · rw [getD_set_ne false e] at hk; exact h.sub k hk
        · rcases h.cov k hk with h1 | h1
          · exact .inl (getD_set_true h1)
          · by_cases e : k = j
            · rw [e]; exact .inl (set_listed (by rw [h.sA]; exact hlt))
            · exact .inr (by rw [g2]; exact (List.mem_erase_of_ne e).2 h1)
      · exact hstep w hw fA a lA l j h hc hj hjl (h.ready hj hjl)

theorem evalO_set {fr : List AVal} {d : Nat} {z : AVal} {x : Operand} (h : x ≠ .tmp d) : evalO (fr.set d z) x = evalO fr x := by
  cases x with
  | tmp t =>
    have hne : d ≠ t := fun e => h (by rw [e])
    simp [evalO, List.getD, List.getElem?_set_ne hne]
  | _ => rfl

theorem callArgs_put {o : Oper} {dst : Option Nat} {z : AVal} (h : ∀ d, dst = some d → d ∉ o.looksAt ops) : callArgs o (st.put dst z).fr = callArgs o st.fr := by
  cases dst with
  | none => rfl
  | some d =>
    have hx : ∀ x ∈ o.op.operands, x ≠ .tmp d := fun x hx e => h d rfl (by
      subst e
      exact List.mem_append_left _ (List.mem_filterMap.2 ⟨.tmp d, by simpa using hx, rfl⟩))
    obtain ⟨odst, op, ty, pos, after, guard⟩ := o
    cases op with
    | call c =>
      obtain ⟨callee, args, ts⟩ := c
      cases callee with
      | value v =>
        simp only [callArgs, St.put, List.cons.injEq]
        refine ⟨evalO_set (hx v (by simp [Op.operands, Call.operands])), List.map_congr_left fun x hxa => evalO_set (hx x ?_)⟩
        simp [Op.operands, Call.operands]
        exact .inr (by simpa using hxa)
      | _ => rfl
    | _ => rfl

theorem slotAt_put {o : Oper} {dst : Option Nat} {z : AVal} (h : ∀ d, dst = some d → o.dst ≠ some d) : slotAt o.dst (st.put dst z).fr = slotAt o.dst st.fr := by
  cases dst with
  | none => rfl
  | some d =>
    cases ho : o.dst with
    | none => rfl
    | some e =>
      have hne : d ≠ e := fun x => h d rfl (by rw [ho, x])
      simp [slotAt, St.put, List.getD, List.getElem?_set_ne hne]

theorem newOf_rig : ∀ (rs : List (Ty × Bool)) y, (rs.all fun r => !r.2 && r.1.rigid) = true → newOf rs y = none ∧ news rs = 0 ∧ (rs.all fun r => r.1.rigid || (r.2 && r.1.elem.rigid)) = true
  | [], _, _ => ⟨rfl, rfl, rfl⟩
  | (t, true) :: rs, y, h => by simp at h
  | (t, false) :: rs, y, h => by
    simp only [List.all_cons, Bool.not_false, Bool.true_and, Bool.and_eq_true] at h
    obtain ⟨h1, h2, h3⟩ := newOf_rig rs y.2 h.2
    exact ⟨by simpa [newOf] using h1, by simpa [news] using h2, by simp [h.1, h3]⟩

theorem asAll_rig {hp hp' : Heap} : ∀ (ps : List Ty) (args : List AVal), args.all AVal.rigid = true → asAll hp ps args = asAll hp' ps args
  | [], [], _ => rfl
  | [], _ :: _, _ => rfl
  | _ :: _, [], _ => rfl
  | t :: ps, v :: args, h => by
    simp only [List.all_cons, Bool.and_eq_true] at h
    have e : v.as hp t = v.as hp' t := by cases v <;> simp only [AVal.rigid, Bool.false_eq_true] at h <;> first | rfl | (exact absurd h.1 (by simp))
    have ih := asAll_rig (hp := hp) (hp' := hp') ps args h.2
    simp only [asAll, e, ih]

theorem rigid_step {R : Type} {r : R} {i : Nat} {oi : Oper} {X : AVal → St → Option R} (hi : isRigid sg ops st.fr i = true) (hoi : ops[i]? = some oi) (hself : ∀ d, oi.dst = some d → d ∉ oi.looksAt ops)
    (h : evalOp T cl (sumQ sg cl) oi st X = some r) : ∃ z, X z st = some r ∧ quietOp oi.op = true ∧ RigidFit sg cl oi (st.put oi.dst z).fr z := by
  unfold isRigid at hi
  rw [hoi] at hi
  simp only at hi
  split at hi
  · rename_i g args hca
    split at hi
    · rename_i s hs
      simp only [Bool.and_eq_true] at hi
      obtain ⟨⟨h1, h2⟩, h3⟩ := hi
      obtain ⟨odst, op, ty, pos, after, guard⟩ := oi
      cases op with
      | call c =>
        obtain ⟨callee, as', ts⟩ := c
        cases callee with
        | value v =>
          have hca0 := hca
          simp only [callArgs, List.cons.injEq] at hca
          simp only [evalOp] at h
          rw [hca.1, hca.2] at h
          have key : ∀ {R : Type} (dst : Option Nat) (st' : St) (K : AVal → St → Option R), sumQ sg cl (.fn g []) args dst st' K = match asAll [] s.ps args with
              | some x => obind (s.f x) fun y => K (resA (vals 0 s.rs y)) st'
              | none => none := fun {R} dst st' K => by
            simp only [sumQ, hs, h1, h2, Bool.and_self, cond_true, Sum.call]
            have hall := h1
            unfold rigidSum at hall
            rw [asAll_rig (hp := st'.hp) (hp' := []) _ _ h2]
            cases asAll [] s.ps args with
            | none => simp
            | some x =>
              simp only
              cases hf : s.f x with
              | none => simp [obind]
              | some y =>
                obtain ⟨n1, n2, n3⟩ := newOf_rig s.rs y hall
                simp [obind, n1, n2, n3]
          rw [key] at h
          split at h
          · rename_i x hx
            cases hf : s.f x with
            | none => rw [hf] at h; cases h
            | some y =>
              rw [hf] at h
              refine ⟨_, h, rfl, rfl, ⟨_, v, rfl, rfl⟩, resA_rigid _ (vals_rigid 0 s.rs y h1), fun d hd => ?_, .fn g [], args, ?_, fun dst st' K => ?_⟩
              · simp only at hd
                subst hd
                have hlt : d < st.fr.length := by simpa [ltN] using h3
                simp [St.put, List.getD, hlt]
              · rw [callArgs_put (ops := ops) hself]; exact hca0
              · rw [key, hx]; simp [hf, obind]
          · cases h
        | _ => simp [callArgs] at hca
      | _ => simp [callArgs] at hca
    · cases hi
  · cases hi

theorem any_sound (hT : TOk P T) (hd : noDefer ops = true) (hsq : ∀ R : Type, QCallOk (R := R) P (sumQ sg cl)) {callS : CallFn St} (hS : CallOk P W0 n callS) {callU : CallFn Unit} (hU : CallOk P W0 n callU) (hxS : CallX sg callS) (hxU : CallX sg callU) : ∀ (nE : Nat) {R : Type} {r : R} {call : CallFn R} (hcall : CallOk P W0 n call) (hx : CallX sg call) {K : St → Option R} {Q : Act → World → Prop}
    (lE : Array Bool) (log : List Nat) (c : Cx) (st : St), evalAny T cl sg callS callU ops nE call lE log st K = some r →
    (∀ c' st' a', K st' = some r → Rel W0 b0 rd c' st' a' ats → c.Mono c' → Q a' c'.w) → ∀ (fA : Nat) (a : Act) (lA : Array Bool) (l : List (Nat × Value)), Lag n sg cl P W0 b0 rd ats ops c st lE log a lA l → cntA ops lA ≤ fA →
      wpAnyIn (FW rd) n P .any ops (fun e a w => e = .normal ∧ Q a w) fA lA a c.w
  | 0, R, r, call, hcall, hx, K, Q, lE, log, c, st, h, hQ, fA, a, lA, l, hl, hc => by simp [evalAny] at h
  | nE + 1, R, r, call, hcall, hx, K, Q, lE, log, c, st, h, hQ, fA, a, lA, l, hl, hc => by
    -- behind an operation that isn't quiet
    have after : ∀ (w : World) (a' : Act) (lA : Array Bool) (l l' : List (Nat × Value)) (j : Nat) (c' : Cx) (st' : St) (a : Act), Lag n sg cl P W0 b0 rd ats ops (c.at_ w) st lE log a lA l → j ∈ Region.ready .any ops lA → j ∉ l.map (·.1) → l'.map (·.1) = l.map (·.1) →
        Rel W0 b0 rd c' st' (putAll ops a' l') ats → PendRun rd n P ops c' a' l' → FitAll sg cl ops st'.fr (l.map (·.1)) → Lag n sg cl P W0 b0 rd ats ops c' st' (lE.setIfInBounds j true) log a' (lA.setIfInBounds j true) l' := fun w a' lA l l' j c' st' a hl hj hjl e1 e2 e3 e4 => by
      obtain ⟨_, oj, hoj, _⟩ := mem_ready.1 hj
      have hlt : j < ops.size := (Array.getElem?_eq_some_iff.1 hoj).1
      refine ⟨e2, by rw [e1]; exact PendSt.set hl.pst hjl, e3, by simpa using hl.sA, by simpa using hl.sE, fun k hk => ?_, fun k hk => ?_, fun k hk => getD_set_true (hl.hE k (by rw [← e1]; exact hk)), by rw [e1]; exact e4⟩
      · by_cases e : j = k
        · subst e; exact set_listed (by rw [hl.sE]; exact hlt)
        · rw [getD_set_ne false e] at hk ⊢; exact hl.sub k hk
      · by_cases e : j = k
        · subst e; exact .inl (set_listed (by rw [hl.sA]; exact hlt))
        · rw [getD_set_ne false e] at hk ⊢; rw [e1]; exact hl.cov k hk
    -- ahead of all
    have adv : ∀ (i : Nat) (oi : Oper) (z : AVal) (u : Value), i ∈ Region.ready .any ops lE → ops[i]? = some oi → quietOp oi.op = true → oi.guard = none → okLate ops log i = true →
        evalAny T cl sg callS callU ops nE call (lE.setIfInBounds i true) (i :: log) (st.put oi.dst z) K = some r → VRel c z u → QRun rd n P c (putAll ops a l) oi u →
        (quietOwn oi.op = false → ∃ z, RigidFit sg cl oi (st.put oi.dst z).fr z ∧ True) → (quietOwn oi.op = false → RigidFit sg cl oi (st.put oi.dst z).fr z) →
        wpAnyIn (FW rd) n P .any ops (fun e a w => e = .normal ∧ Q a w) fA lA a c.w := fun i oi z u hi2 hoi hq hguard hlate g1 g2 g3 _ g4 => by
      obtain ⟨hun, oi', hoi', hdeps⟩ := mem_ready.1 hi2
      rw [hoi] at hoi'
      cases hoi'
      have hlt : i < ops.size := (Array.getElem?_eq_some_iff.1 hoi).1
      have hil : i ∉ l.map (·.1) := fun hm => listed_no (hl.hE i hm) hun
      have hunA : lA.getD i true = false := by
        cases hga : lA.getD i true with
        | false => rfl
        | true =>
          rw [getD_tf (by rw [hl.sA]; exact hlt)] at hga
          exact (listed_no (hl.sub i hga) hun).elim
      have hpair := hlate
      unfold okLate at hpair
      rw [hoi] at hpair
      simp only [Bool.and_eq_true] at hpair
      obtain ⟨hself, hpair⟩ := hpair
      have hpr : ∀ m ∈ l.map (·.1), ∃ om, ops[m]? = some om ∧ Half ops om oi ∧ (waitsOn ops i m = false → om.apart ops oi = true) := fun m hm => by
        have h3 := List.all_eq_true.1 hpair m (PendSt.log hl.pst m hm)
        split at h3
        · rename_i om hom
          simp only [Bool.and_eq_true, Bool.or_eq_true] at h3
          exact ⟨om, hom, half_spec h3.1, fun hw => h3.2.resolve_left (by rw [hw]; simp)⟩
        · cases h3
      refine any_sound hT hd hsq hS hU hxS hxU nE hcall hx (Q := Q) (lE.setIfInBounds i true) (i :: log) c (st.put oi.dst z) g1 hQ fA a lA ((i, u) :: l) ⟨?_, ?_, ⟨hl.run, oi, hoi, g3⟩, hl.sA, by simpa using hl.sE, fun k hk => ?_, fun k hk => ?_, fun k hk => ?_, fun k hk ok hok hnq => ?_⟩ hc
      · have := hl.rel.put (dst := oi.dst) g2
        rw [putAll, dstAt_eq hoi]
        exact this
      · exact ⟨PendSt.mono (fun k hk => List.mem_cons_of_mem _ hk) hl.pst, hunA, List.mem_cons_self, hil, oi, hoi, hq, hguard, fun d hd' => (half_spec hself d hd').1, fun e he hb => hl.cov _ (hdeps e he hb), hpr⟩
      · by_cases e : i = k
        · subst e; exact (listed_no hk hunA).elim
        · rw [getD_set_ne false e]; exact hl.sub k hk
      · by_cases e : i = k
        · subst e; exact .inr List.mem_cons_self
        · rw [getD_set_ne false e] at hk
          exact (hl.cov k hk).imp (fun h => h) fun h => List.mem_cons_of_mem _ h
      · rcases List.mem_cons.1 hk with e | hk
        · rw [e]; exact set_listed (by rw [hl.sE]; exact hlt)
        · exact getD_set_true (hl.hE k hk)
      · rcases List.mem_cons.1 hk with e | hk
        · subst e
          rw [hoi] at hok
          cases hok
          exact ⟨z, g4 hnq⟩
        · obtain ⟨z', hz'⟩ := hl.fit k hk ok hok hnq
          obtain ⟨om, h1, h2, _⟩ := hpr k hk
          rw [hok] at h1
          cases h1
          exact ⟨z', hz'.same (callArgs_put (ops := ops) fun d hd' => (h2 d hd').1).symm (slotAt_put fun d hd' => (h2 d hd').2).symm⟩
    simp only [evalAny] at h
    split at h
    · rename_i hrd
      exact lag_all (n := n) (sg := sg) (cl := cl) hd (fun _ w hw a hr => hQ (c.at_ w) st a h hr (Cx.Le.ext hw).mono) (fun w hw fA a lA l j _ _ _ _ hj => by rw [hrd] at hj; cases hj) _ fA c.w (Below.refl _ _) a lA l rfl hl hc
    · rename_i k rs hrd
      split at h
      · rename_i i hf
        have hi1 := List.find?_some hf
        simp only [Bool.and_eq_true] at hi1
        replace hi1 := hi1.1
        have hi2 := List.mem_of_find?_eq_some hf
        rw [← hrd] at hi2
        split at h
        · rename_i oi hoi
          replace h := bif_some h
          obtain ⟨hg, h⟩ := h
          simp only [Bool.and_eq_true] at hg
          obtain ⟨hg, hlate⟩ := hg
          have hq : quietOwn oi.op = true := by
            obtain ⟨o, h1, h2⟩ := opIs_spec hi1
            rw [hoi] at h1
            cases h1
            exact h2
          obtain ⟨z, u, g1, g2, g3⟩ := quiet_op hT hl.rel.ok hq hl.rel.hp hl.rel.fr h
          exact adv i oi z u hi2 hoi (own_quiet hq) (by simpa using hg) hlate g1 g2 (.of_run g3) (fun h0 => by rw [hq] at h0; cases h0) (fun h0 => by rw [hq] at h0; cases h0)
        · cases h
      · split at h
        · rename_i i hf
          have hi1 := List.find?_some hf
          have hi2 := List.mem_of_find?_eq_some hf
          rw [← hrd] at hi2
          split at h
          · rename_i oi hoi
            replace h := bif_some h
            obtain ⟨hg, h⟩ := h
            simp only [Bool.and_eq_true] at hg
            obtain ⟨hg, hlate⟩ := hg
            have hself : ∀ d, oi.dst = some d → d ∉ oi.looksAt ops := by
              have hpair := hlate
              unfold okLate at hpair
              rw [hoi] at hpair
              simp only [Bool.and_eq_true] at hpair
              exact fun d hd' => (half_spec hpair.1 d hd').1
            obtain ⟨z, g1, g2, g3⟩ := rigid_step hi1 hoi hself h
            obtain ⟨g4, g5⟩ := ahead_call (n := n) hT (hsq Unit) g3 (callArgs_put (ops := ops) hself) hl.rel
            exact adv i oi z _ hi2 hoi g2 (by simpa using hg) hlate g1 g4 g5 (fun _ => ⟨z, g3, trivial⟩) (fun _ => g3)
          · cases h
        · split at h
          · refine lag_all (n := n) (sg := sg) (cl := cl) hd (fun hr => by rw [hrd] at hr; cases hr) (fun w hw fA a lA l j hl hc hj hjl hjE => ?_) _ fA c.w (Below.refl _ _) a lA l rfl hl hc
            rw [hrd] at hjE
            obtain rfl : j = k := by simpa using hjE
            refine late_step (c := c.at_ w) hT hd (hsq Unit) hcall hl.fit hj hl.pst hjl hl.rel h fun c' st' a' l' k1 e1 k2 k3 k5 k4 => ?_
            exact any_sound hT hd hsq hS hU hxS hxU nE hcall hx (Q := Q) _ log c' st' k1 (fun c'' st'' a'' q1 q2 q3 => hQ c'' st'' a'' q1 q2 ((Cx.Le.ext hw).mono.trans (k4.trans q3))) fA a' _ l' (after w a' lA l l' j c' st' a hl hj hjl e1 k2 k3 k5) (by have := cnt_set hl.sA hj; omega)
          · rw [cond_eq_ite] at h
            split at h
            rotate_left
            · rename_i hcp
              simp only [Bool.or_eq_true, Bool.not_eq_true', not_or, Bool.not_eq_true, Bool.not_eq_false] at hcp
              have hp : ∀ o ∈ ops.toList, plainOp sg o.op = true := fun o ho => List.all_eq_true.1 hcp.2 o ho
              refine lag_all (n := n) (sg := sg) (cl := cl) hd (fun hr => by rw [hrd] at hr; cases hr) (fun w hw fA a lA l j hl hc hj hjl hjE => ?_) _ fA c.w (Below.refl _ _) a lA l rfl hl hc
              rw [hrd] at hjE
              rcases List.mem_cons.1 hjE with rfl | hjR
              · refine late_step (c := c.at_ w) hT hd (hsq Unit) hcall hl.fit hj hl.pst hjl hl.rel h fun c' st' a' l' k1 e1 k2 k3 k5 k4 => ?_
                exact any_sound hT hd hsq hS hU hxS hxU nE hcall hx (Q := Q) _ log c' st' k1 (fun c'' st'' a'' q1 q2 q3 => by
                  replace q1 := bif_some q1
                  obtain ⟨q0, q1⟩ := q1
                  obtain ⟨c3, r3, m3, w3⟩ := q2.tidy cl
                  split at q1
                  · rename_i m hm
                    replace q1 := (unitAll_mem _ q1).1
                    have := settle_self hm hl.rel.wf q0 r3.wf
                    subst this
                    rw [← w3]
                    exact hQ c3 _ a'' q1 r3 ((Cx.Le.ext hw).mono.trans (k4.trans (q3.trans m3)))
                  · cases q1) fA a' _ l' (after w a' lA l l' j c' st' a hl hj hjl e1 k2 k3 k5) (by have := cnt_set hl.sA hj; omega)
              · obtain ⟨_, h1⟩ := ex_late hx hp h
                obtain ⟨st1, h1⟩ := ex_any hp hxS hxU nE hx _ _ _ _ h1
                replace h1 := (bif_some h1).2
                split at h1
                · rename_i m hm
                  obtain ⟨hK, hua⟩ := unitAll_mem _ h1
                  have hju := hua _ (List.mem_map.2 ⟨j, hjR, rfl⟩)
                  refine late_step (c := c.at_ w) hT hd (hsq Unit) hU hl.fit hj hl.pst hjl hl.rel hju fun c' st' a' l' k1 e1 k2 k3 k5 k4 => ?_
                  exact any_sound hT hd hsq hS hU hxS hxU nE hU hxU (Q := Q) _ log c' st' k1 (fun c'' st'' a'' q1 q2 q3 => by
                    replace q1 := (bif_some q1).1
                    simp only [Bool.and_eq_true] at q1
                    obtain ⟨c3, r3, m3, w3⟩ := q2.tidy cl
                    have := settle_eq hm hl.rel.wf q1.1 q1.2 r3.wf
                    subst this
                    rw [← w3]
                    exact hQ c3 _ a'' hK r3 ((Cx.Le.ext hw).mono.trans (k4.trans (q3.trans m3)))) fA a' _ l' (after w a' lA l l' j c' st' a hl hj hjl e1 k2 k3 k5) (by have := cnt_set hl.sA hj; omega)
                · cases h1
            split at h
            · rename_i stm hmg
              refine lag_all (n := n) (sg := sg) (cl := cl) hd (fun hr => by rw [hrd] at hr; cases hr) (fun w hw fA a lA l j hl hc hj hjl hjE => ?_) _ fA c.w (Below.refl _ _) a lA l rfl hl hc
              rw [hrd] at hjE
              obtain ⟨b, hb1, hb2⟩ := mergeAll_eq hmg hl.rel.wf _ (List.mem_map.2 ⟨j, hjE, rfl⟩)
              refine late_step (c := c.at_ w) hT hd (hsq Unit) hS hl.fit hj hl.pst hjl hl.rel hb1 fun c' st' a' l' k1 e1 k2 k3 k5 k4 => ?_
              exact any_sound hT hd hsq hS hU hxS hxU nE hS hxS (Q := Q) _ log c' st' k1 (fun c'' st'' a'' q1 q2 q3 => by
                cases q1
                obtain ⟨c3, r3, m3, w3⟩ := q2.tidy cl
                have := hb2 r3.wf
                subst this
                rw [← w3]
                exact hQ c3 _ a'' h r3 ((Cx.Le.ext hw).mono.trans (k4.trans (q3.trans m3)))) fA a' _ l' (after w a' lA l l' j c' st' a hl hj hjl e1 k2 k3 k5) (by have := cnt_set hl.sA hj; omega)
            · cases h

/-- a region that draws its order -/
theorem late_sound (hT : TOk P T) (hm : P.follows .mixedOrders = true) (hd : noDefer ops = true) (hsq : ∀ R : Type, QCallOk (R := R) P (sumQ sg cl)) {callS : CallFn St} (hS : CallOk P W0 n callS) {callU : CallFn Unit} (hU : CallOk P W0 n callU) (hxS : CallX sg callS) (hxU : CallX sg callU) {R : Type} {r : R} {call : CallFn R} (hcall : CallOk P W0 n call) (hx : CallX sg call) {id : Nat} {nE : Nat} {K : St → Option R} {Q : Exit → Act → World → Prop}
    (h : evalAny T cl sg callS callU ops nE call (Array.replicate ops.size false) [] st K = some r) (hr : Rel W0 b0 rd c st a ats) (hQ : ∀ c' st' a', K st' = some r → Rel W0 b0 rd c' st' a' ats → c.Mono c' → Q .normal a' c'.w) :
    (Code.region id ops true).wpIn (FW rd) n P Q a c.w := by
  have hext : Ext c { c.w with drawn := c.w.drawn + 1 } := ⟨rfl, rfl, rfl, Nat.le_refl _, fun _ _ => rfl⟩
  have hr2 := hr.ext hext
  have h2 := any_sound (Q := fun a w => Q .normal a w) hT hd hsq hS hU hxS hxU nE hcall hx _ [] (c.at_ { c.w with drawn := c.w.drawn + 1 }) st h (fun c' st' a' k1 k2 k3 => hQ c' st' a' k1 k2 ((Cx.Le.ext hext).mono.trans k3)) ops.size a
    (Array.replicate ops.size false) [] ⟨hr2, trivial, trivial, by simp, by simp, fun j hj => hj, fun j hj => .inl hj, (fun k hk => by cases hk), (fun k hk => by cases hk)⟩ (by
      unfold cntA
      exact Nat.le_trans (List.length_filter_le _ _) (by simp))
  exact Code.wpIn_mono (fun e a w he => by obtain ⟨rfl, he⟩ := he; exact he) (wpIn_region_any hm h2)
end
end Go.Proofs.YtnmaceljkegenaaDoor
