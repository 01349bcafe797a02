/-
  The plain machine: states; the operations of a region.
-/
import Derived.Test.YtnmaceljkegenaaDoorAna
import Derived.TacticsIn
import Derived.RangeFuncIn
import Derived.RangeFuncLeaves
import Derived.Sort.QuietThIn
namespace Go.Proofs.YtnmaceljkegenaaDoor
open Go.RowKit
set_option linter.unusedVariables false
set_option linter.unusedSimpArgs false

/-- every function is let in; a frame of a round of the loop l, or of none -/
def FW (rd : Option Nat) : Fence := { Fence.wide with round := rd }

theorem FW_none : FW none = Fence.wide := rfl
theorem FW_fn (rd : Option Nat) (f : FuncId) : (FW rd).fn f := trivial
theorem FW_depth (rd : Option Nat) {n : Nat} : (FW rd).depth.isSome = true → 1 ≤ n := fun h => by simp [FW, Fence.wide] at h
theorem FW_round (rd : Option Nat) : (FW rd).round = rd := rfl
theorem FW_room (rd : Option Nat) (n : Nat) : (FW rd).room n := fun _ h => by simp [FW, Fence.wide] at h

/-- the mark of a range over a function -/
def mkD (r : Nat) : Deferred := { target := .collected r, args := #[] }

def Stk (c : Cx) : List (List AVal) → List (Array Value) → Prop
  | [], [] => True
  | f :: fs, t :: ts => VRels c f t.toList ∧ Stk c fs ts
  | _, _ => False

theorem Stk.le {c c' : Cx} (h : c.Le c') : ∀ (fs : List (List AVal)) (ts : List (Array Value)), Stk c fs ts → Stk c' fs ts
  | [], [], _ => trivial
  | f :: fs, t :: ts, hh => ⟨VRels.le h _ _ hh.1, Stk.le h fs ts hh.2⟩
  | [], _ :: _, hh => hh.elim
  | _ :: _, [], hh => hh.elim

/-- what goes on for good -/
structure Cx.Mono (c c' : Cx) : Prop where
  mks : ∀ r, r ∈ c.mks → r ∈ c'.mks
  lp : ∀ (b : Nat) (L : Loop), c.w.heap[b]? = some (Obj.loop L) → ∃ L' : Loop, c'.w.heap[b]? = some (Obj.loop L')
  size : c.w.heap.size ≤ c'.w.heap.size
  bar : c'.bar = c.bar
  out : ∀ b, c.out b → c'.out b ∧ c'.w.heap[b]? = c.w.heap[b]?

theorem Cx.Le.mono {c c' : Cx} (h : c.Le c') : c.Mono c' := ⟨h.mks, h.lp, h.size, h.bar, h.out⟩
theorem Cx.Mono.refl (c : Cx) : c.Mono c := ⟨fun _ h => h, fun b L h => ⟨L, h⟩, Nat.le_refl _, rfl, fun _ h => ⟨h, rfl⟩⟩
theorem Cx.Mono.trans {a b c : Cx} (h : a.Mono b) (k : b.Mono c) : a.Mono c :=
  ⟨fun r hr => k.mks r (h.mks r hr), fun b L hL => let ⟨L1, h1⟩ := h.lp b L hL; k.lp b L1 h1, Nat.le_trans h.size k.size, k.bar.trans h.bar, fun x hx => ⟨(k.out x (h.out x hx).1).1, (k.out x (h.out x hx).1).2.trans (h.out x hx).2⟩⟩

/-- a state of the plain machine, and one of the model's -/
structure Rel (W0 : World) (b0 : Nat) (rd : Option Nat) (c : Cx) (st : St) (a : Act) (ats : List (Array Value)) : Prop where
  hp : c.hp = st.hp
  nxt : c.nxt = st.nxt
  ok : c.Ok W0
  fr : VRels c st.fr a.tmps.toList
  stk : Stk c st.stk ats
  df : ∃ ds : List Nat, a.defers = ds.map mkD ∧ ds.Nodup ∧ ∀ r ∈ ds, r ∈ c.mks ∧ b0 ≤ r
  rd : ∀ l, rd = some l → ∃ L : Loop, c.w.heap[l]? = some (Obj.loop L)

section
variable {P : Program} {T : TT} {W0 : World} {b0 n : Nat} {rd : Option Nat} {c : Cx} {R : Type} {r : R} {st : St} {a : Act} {ats : List (Array Value)}

theorem put_tmps (a : Act) (dst : Option Nat) (v : Value) (fr : List AVal) (z : AVal) (h : VRels c fr a.tmps.toList) (hz : VRel c z v) : VRels c (match dst with | some d => fr.set d z | none => fr) (a.put dst v).tmps.toList := by
  cases dst with
  | none => exact h
  | some d =>
    simp only [Act.put, Array.toList_setIfInBounds]
    exact VRels.set hz d _ _ h

theorem put_fr (st : St) (dst : Option Nat) (z : AVal) : (st.put dst z).fr = (match dst with | some d => st.fr.set d z | none => st.fr) ∧ (st.put dst z).hp = st.hp ∧ (st.put dst z).nxt = st.nxt ∧ (st.put dst z).stk = st.stk := by
  cases dst <;> exact ⟨rfl, rfl, rfl, rfl⟩

theorem put_defers (a : Act) (dst : Option Nat) (v : Value) : (a.put dst v).defers = a.defers := by cases dst <;> rfl

theorem Rel.put (h : Rel W0 b0 rd c st a ats) {dst : Option Nat} {z : AVal} {v : Value} (hz : VRel c z v) : Rel W0 b0 rd c (st.put dst z) (a.put dst v) ats := by
  obtain ⟨e1, e2, e3, e4⟩ := put_fr st dst z
  exact ⟨h.hp.trans e2.symm, h.nxt.trans e3.symm, h.ok, by rw [e1]; exact put_tmps a dst v _ z h.fr hz, by rw [e4]; exact h.stk, by rw [put_defers]; exact h.df, h.rd⟩

theorem Rel.did (h : Rel W0 b0 rd c st a ats) {c' : Cx} {st' : St} (hd : Did W0 c st c' st') : Rel W0 b0 rd c' st' a ats :=
  ⟨hd.hp, hd.nxt, hd.ok, by rw [hd.fr]; exact VRels.le hd.le _ _ h.fr, by rw [hd.stk]; exact Stk.le hd.le _ _ h.stk,
    let ⟨ds, h1, h2, h3⟩ := h.df; ⟨ds, h1, h2, fun r hr => ⟨hd.le.mks r (h3 r hr).1, (h3 r hr).2⟩⟩, fun l hl => let ⟨L, hL⟩ := h.rd l hl; hd.le.lp l L hL⟩

/-- after a step: the rest of the plain run, from a state that it is in -/
def After (W0 : World) (b0 : Nat) (rd : Option Nat) (c : Cx) (ats : List (Array Value)) (K : St → Option R) (r : R) (a' : Act) (w' : World) : Prop :=
  ∃ c' st', K st' = some r ∧ Rel W0 b0 rd c' st' a' ats ∧ c.Mono c' ∧ c'.w = w'

/-- a call of the plain machine is one of the model's -/
def CallOk (P : Program) (W0 : World) (n : Nat) (call : CallFn R) : Prop :=
  ∀ (b0 : Nat) (rd : Option Nat) (fv : AVal) (args : List AVal) (dst : Option Nat) (st : St) (K : AVal → St → Option R) (r : R), call fv args dst st K = some r →
    ∀ (c : Cx) (a : Act) (ats : List (Array Value)) (fv' : Value) (args' : Array Value), Rel W0 b0 rd c st a ats → VRel c fv fv' → VRels c args args'.toList →
      ∀ (o : Oper) (next : Act → World → Prop) (Q : Exit → Act → World → Prop), (∀ c' z u st', K z st' = some r → Rel W0 b0 rd c' st' a ats → VRel c' z u → c.Mono c' → next (a.put o.dst u) c'.w) →
        o.uponIn (FW rd) n P a next Q ((do let d ← Deferred.ofValue fv' args'; invoke d.target d.args : Sem Next).run P c.w)

def isDefer : Op → Bool
  | .defer _ => true
  | _ => false

theorem semAt_of {o : Oper} (h : isDefer o.op = false) (rd : Option Nat) (ρ : Operand → Value) : Oper.semAt rd ρ o = execOp ρ o :=
  Oper.semAt_eq rd ρ o fun c hc => by rw [hc] at h; cases h

theorem about_FW (o : Oper) (w : World) (ρ : Operand → Value) : ∀ f, o.about P w ρ = some f → (FW rd).fn f := fun _ _ => trivial

theorem loud_wp {o : Oper} {K : AVal → St → Option R} (hd : isDefer o.op = false) (h : Loud P W0 c st o a K r) (hr : Rel W0 b0 rd c st a ats) {next : Act → World → Prop} {Q : Exit → Act → World → Prop}
    (hn : ∀ c' z u st', K z st' = some r → Rel W0 b0 rd c' st' a ats → VRel c' z u → c.Mono c' → next (a.put o.dst u) c'.w) : o.wpIn (FW rd) n P a c.w next Q := by
  obtain ⟨z, u, c', st', h1, h2, h3, h4⟩ := h
  refine ⟨about_FW o c.w _, ?_⟩
  rw [semAt_of hd]
  have := hn c' z u st' h1 (hr.did h2) h3 h2.le.mono
  rcases h4 with h4 | ⟨h4, rfl⟩
  · rw [h4]; exact this
  · rw [h4]; exact this

/-- one operation -/
theorem op_sound (hT : TOk P T) {cl : Bool} {call : CallFn R} (hcall : CallOk P W0 n call) {o : Oper} {K : AVal → St → Option R} (h : evalOp T cl call o st K = some r) (hr : Rel W0 b0 rd c st a ats) {next : Act → World → Prop} {Q : Exit → Act → World → Prop}
    (hn : ∀ c' z u st', K z st' = some r → Rel W0 b0 rd c' st' a ats → VRel c' z u → c.Mono c' → next (a.put o.dst u) c'.w) : o.wpIn (FW rd) n P a c.w next Q := by
  by_cases hq : quietOwn o.op = true
  · obtain ⟨z, u, h1, h2, h3⟩ := quiet_op hT hr.ok hq hr.hp hr.fr h
    have hd : isDefer o.op = false := by cases ho : o.op <;> simp_all [quietOwn, quietOp, isDefer]
    exact loud_wp hd ⟨z, u, c, st, h1, Did.refl hr.ok hr.hp hr.nxt, h2, .inl (h3 c.w (Below.refl _ _))⟩ hr hn
  · cases ho : o.op with
    | alloc t => exact loud_wp (by rw [ho]; rfl) (l_alloc hT hr.ok hr.hp hr.nxt ho h) hr hn
    | box t x => exact loud_wp (by rw [ho]; rfl) (l_box hT hr.ok hr.hp hr.nxt hr.fr ho h) hr hn
    | buildSlice t k parts => exact loud_wp (by rw [ho]; rfl) (l_buildSlice hT hr.ok hr.hp hr.nxt hr.fr ho h) hr hn
    | makeSlice t l cp => exact loud_wp (by rw [ho]; rfl) (l_makeSlice hT hr.ok hr.hp hr.nxt hr.fr ho h) hr hn
    | store t x y => exact loud_wp (by rw [ho]; rfl) (l_store hT hr.ok hr.hp hr.nxt hr.fr ho h) hr hn
    | makeFunc fn first caps =>
      obtain ⟨dst, op, ty, pos, after, guard⟩ := o
      simp only at ho
      subst ho
      simp only [evalOp] at h
      split at h
      · rename_i f hf
        obtain ⟨fl⟩ := first
        simp only at hf
        subst hf
        refine loud_wp rfl ⟨_, .func (.func f) #[] (caps.map a.eval), c, st, h, Did.refl hr.ok hr.hp hr.nxt, ?_, .inl ?_⟩ hr hn
        · simp only [VRel]
          refine ⟨_, rfl, ?_⟩
          have := VRels.map_eval (c := c) hr.fr caps.toList
          simpa using this
        · simp [execOp, Instr.makeFunc, Sem.run_bind]
      · rename_i l f hne
        replace h := bif_some h
        obtain ⟨hcaps, h⟩ := h
        have hc0 : caps = #[] := by
          obtain ⟨cl0⟩ := caps
          cases cl0 <;> simp_all
        subst hc0
        refine loud_wp rfl ⟨_, .func (.func f) (first.map a.eval) #[], c, st, h, Did.refl hr.ok hr.hp hr.nxt, ?_, .inl ?_⟩ hr hn
        · simp only [VRel]
          refine ⟨_, rfl, ?_⟩
          have := VRels.map_eval (c := c) hr.fr first.toList
          simpa using this
        · simp [execOp, Instr.makeFunc, Sem.run_bind]
      · cases h
    | makeMap t res => exact loud_wp (by rw [ho]; rfl) (l_makeMap hT hr.ok hr.hp hr.nxt ho h) hr hn
    | lookup t x y k => exact loud_wp (by rw [ho]; rfl) (l_lookup hT hr.ok hr.hp hr.nxt hr.fr ho h) hr hn
    | mapUpdate t x y z => exact loud_wp (by rw [ho]; rfl) (l_mapUpdate hT hr.ok hr.hp hr.nxt hr.fr ho h) hr hn
    | call cc =>
      obtain ⟨callee, args, argTypes⟩ := cc
      cases callee with
      | builtin b =>
        cases b with
        | append => exact loud_wp (by rw [ho]; rfl) (l_append hT hr.ok hr.hp hr.nxt hr.fr ho h) hr hn
        | unsafeSliceData => exact loud_wp (by rw [ho]; rfl) (l_sliceData hT hr.ok hr.hp hr.nxt hr.fr ho h) hr hn
        | unsafeString => exact loud_wp (by rw [ho]; rfl) (l_unsafeString hT hr.ok hr.hp hr.nxt hr.fr ho h) hr hn
        | len => rw [ho] at hq; exact absurd rfl hq
        | min => rw [ho] at hq; exact absurd rfl hq
        | max => rw [ho] at hq; exact absurd rfl hq
        | _ =>
          obtain ⟨dst, op, ty, pos, after, guard⟩ := o
          simp only at ho
          subst ho
          simp [evalOp, evBuiltin] at h
      | invoke x m =>
        obtain ⟨dst, op, ty, pos, after, guard⟩ := o
        simp only at ho
        subst ho
        simp [evalOp] at h
      | value f =>
        obtain ⟨dst, op, ty, pos, after, guard⟩ := o
        simp only at ho
        subst ho
        simp only [evalOp] at h
        refine ⟨about_FW _ c.w _, ?_⟩
        rw [semAt_of rfl]
        have h2 := hcall b0 rd _ _ dst st K r h c a ats (a.eval f) (args.map a.eval) hr (evalO_rel hr.fr f) (by
          have := VRels.map_eval (c := c) hr.fr args.toList
          simpa using this) ⟨dst, .call { callee := .value f, args := args, argTypes := argTypes }, ty, pos, after, guard⟩ next Q hn
        exact h2
    | _ =>
      obtain ⟨dst, op, ty, pos, after, guard⟩ := o
      simp only at ho
      subst ho
      first
        | (simp [quietOwn, quietOp] at hq; done)
        | (simp [evalOp] at h; done)

theorem yielded_eq (ops : Array Oper) (j d : Nat) (h : (ops[j]?).bind (·.dst) = some d) (tmps : Array Value) : yielded ops tmps j = (match tmps[d]? with | some (.bool b) => some b | _ => none) := by
  simp only [yielded, h, Option.bind_some]
  rfl

/-- the operations of a region -/
theorem ops_sound (hT : TOk P T) {cl : Bool} {call : CallFn R} (hcall : CallOk P W0 n call) (ops : Array Oper) {K : St → Option R} {Q : Exit → Act → World → Prop} : ∀ (l : List Oper) (c : Cx) (st : St) (a : Act), evalOps T cl call ops K l st = some r → Rel W0 b0 rd c st a ats →
    (∀ c' st' a', K st' = some r → Rel W0 b0 rd c' st' a' ats → c.Mono c' → Q .normal a' c'.w) → wpListIn (FW rd) n P ops Q l a c.w
  | [], c, st, a, h, hr, hQ => by
    simp only [evalOps] at h
    exact hQ c st a h hr (Cx.Mono.refl c)
  | o :: l, c, st, a, h, hr, hQ => by
    simp only [evalOps] at h
    have step : ∀ (c : Cx) (st : St) (a : Act), Rel W0 b0 rd c st a ats → (∀ c' st' a', K st' = some r → Rel W0 b0 rd c' st' a' ats → c.Mono c' → Q .normal a' c'.w) → evalOp T cl call o st (fun v st => evalOps T cl call ops K l (st.put o.dst v)) = some r →
        o.wpIn (FW rd) n P a c.w (wpListIn (FW rd) n P ops Q l) Q := fun c st a hr hQ h =>
      op_sound hT hcall h hr fun c' z u st' h1 h2 h3 h4 => ops_sound hT hcall ops l c' (st'.put o.dst z) (a.put o.dst u) h1 (h2.put h3) fun c'' st'' a'' k1 k2 k3 => hQ c'' st'' a'' k1 k2 (h4.trans k3)
    have skip : ∀ (st : St), Rel W0 b0 rd c st a ats → evalOps T cl call ops K l (st.put o.dst (.tup [])) = some r → (∀ f, o.about P c.w a.eval = some f → (FW rd).fn f) ∧ wpListIn (FW rd) n P ops Q l (a.put o.dst undef) c.w := fun st hr h =>
      ⟨about_FW o c.w _, ops_sound hT hcall ops l c (st.put o.dst (.tup [])) (a.put o.dst undef) h (hr.put (by simp only [VRel]; exact ⟨#[], rfl, by simp [VRels]⟩)) hQ⟩
    simp only [wpListIn]
    cases hg : o.guard with
    | none =>
      rw [hg] at h
      rw [if_pos (by simp [Region.wanted, hg])]
      exact step c st a hr hQ h
    | some jw =>
      obtain ⟨j, want⟩ := jw
      rw [hg] at h
      simp only at h
      split at h
      · cases h
      · rename_i d hd
        have hy := yielded_eq ops j d hd a.tmps
        have hsl := hr.fr.getD d
        have hsz := VRels.length _ _ hr.fr
        rw [Array.length_toList] at hsz
        split at h
        · rename_i b hb
          rw [hb] at hsl
          simp only [VRel] at hsl
          have hv := hsl.bool_inv
          have hdl : d < a.tmps.size := by
            rcases Nat.lt_or_ge d a.tmps.size with h1 | h1
            · exact h1
            · rw [Array.getD, dif_neg (by omega)] at hv
              simp [undef] at hv
          have hv2 : a.tmps[d]? = some (.bool b) := by
            rw [Array.getD, dif_pos hdl] at hv
            rw [Array.getElem?_eq_getElem hdl]
            simpa using hv
          rw [hv2] at hy
          simp only at hy
          have hself : a.put (some d) (.bool b) = a := by
            simp only [Act.put]
            obtain ⟨hh1, hh2⟩ := Array.getElem?_eq_some_iff.1 hv2
            have : a.tmps.setIfInBounds d (.bool b) = a.tmps := by
              apply Array.ext
              · rw [Array.size_setIfInBounds]
              · intro i h1 h2
                rw [Array.getElem_setIfInBounds (by rwa [Array.size_setIfInBounds] at h1)]
                split
                · rename_i hi
                  subst hi
                  exact hh2.symm
                · rfl
            rw [this]
          have hr2 : Rel W0 b0 rd c (st.put (some d) (.val .bool b)) a ats := by
            have := hr.put (dst := some d) (z := .val .bool b) (v := .bool b) (by simp only [VRel]; exact VD.bool_mk)
            rwa [hself] at this
          cases b <;> cases want <;> (try simp only [cond_true, cond_false] at h)
          · rw [if_pos (by simp [Region.wanted, hg, hy])]
            exact step c _ a hr2 hQ h
          · rw [if_neg (by simp [Region.wanted, hg, hy])]
            exact skip _ hr2 h
          · rw [if_neg (by simp [Region.wanted, hg, hy])]
            exact skip _ hr2 h
          · rw [if_pos (by simp [Region.wanted, hg, hy])]
            exact step c _ a hr2 hQ h
        · rename_i hb
          rw [hb] at hsl
          simp only [VRel] at hsl
          obtain ⟨vs, hv, _⟩ := hsl
          have hy2 : yielded ops a.tmps j = none := by
            rw [hy]
            cases he : a.tmps[d]? with
            | none => rfl
            | some x =>
              obtain ⟨hh1, hh2⟩ := Array.getElem?_eq_some_iff.1 he
              rw [Array.getD, dif_pos hh1] at hv
              simp at hv
              rw [← hh2, hv]
          rw [if_neg (by simp [Region.wanted, hg, hy2])]
          exact skip st hr h
        · cases h
end
end Go.Proofs.YtnmaceljkegenaaDoor
