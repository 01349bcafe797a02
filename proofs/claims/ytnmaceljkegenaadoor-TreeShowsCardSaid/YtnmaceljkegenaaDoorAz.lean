/-
  The plain machine: what is known of a function, out of a run; closed calls.
-/
import Derived.Test.YtnmaceljkegenaaDoorAy
namespace Go.Proofs.YtnmaceljkegenaaDoor
open Go.RowKit
set_option linter.unusedVariables false
set_option linter.unusedSimpArgs false

/-- an environment of which all is known to be so -/
structure EnvOk (E : Env) : Prop where
  T : TOk E.P E.T
  m : E.P.follows .mixedOrders = true
  ng : NoGor E.P
  S : ∀ g s, E.sg g = some s → SumOk E.P g s
  L : LoopsOk E.P E
  R : RfOk E
  B : ∀ g, E.bf g = true → CheckOk E.P g
  X : ∀ g s, E.sb g = some s → SumBOk E.P g s

/-- may the results be handed over as new memory? -/
def newsOk (rs : List (Ty × Bool)) : Bool := Nat.ble (news rs) 1 && rs.all fun r => !r.2 || (match r.1 with | .list e => Nat.blt 0 e.size | _ => false)

section
variable {P : Program} {T : TT} {W0 : World} {b0 : Nat} {rd : Option Nat} {R : Type} {r : R} {c : Cx} {ats : List (Array Value)}

theorem env_exec {E : Env} (h : EnvOk E) (m : Nat) (R : Type) (W0 : World) : CallsOk E.P W0 (exec E m (R := R)) :=
  (exec_sound h.T h.m h.ng rfl rfl (sums_ok h.T h.B h.S h.X) h.L h.R m R W0).1

theorem base0_rel {w : World} {bar : Nat → Prop} (hphi : Phi w) (hb : ∀ b, bar b → b < w.heap.size) : Rel w 0 none (base0 w bar) ⟨[], [], [], 0⟩ ⟨#[], []⟩ [] :=
  ⟨rfl, rfl, ⟨Below.refl _ _, fun id o h => by simp [base0, hget] at h, fun i j o p b h => by simp [base0, hget] at h, fun r hr => by simp [base0] at hr, fun b h => ⟨hb b h, (by rintro ⟨i, o, h, _⟩; simp [base0, hget] at h), by simp [base0]⟩, hphi⟩, by simp [base0, VRels], trivial, ⟨[], rfl, List.nodup_nil, fun r hr => by simp at hr⟩, fun l hl => by cases hl⟩

/-- one value out of a result -/
theorem res_val {own : Bool} {c' : Cx} (hw : c'.w = c.w) (hf : ∀ b, c.free b → c'.free b) (hf2 : own = false → ∀ b, b < c.w.heap.size → ¬ c.bar b → c'.free b) {t : Ty} {v : AVal} {x : t.den} {u : Value} (hok : c.Ok W0)
    (h : (bif own && (ownArg v && !t.rigid) then none else v.asR c.hp own t) = some x) (hv : VRel c v u) : VD c' t x u := by
  have hm : ∀ b, c.free b → c'.free b ∧ c'.w.heap[b]? = c.w.heap[b]? := fun b hb => ⟨hf b hb, by rw [hw]⟩
  rw [cond_eq_ite] at h
  split at h
  · cases h
  rename_i hc
  have slcCase : ∀ {id ver vw} {u : Value} {e : Ty} {x : List e.den}, own = false → (AVal.slc id ver vw).as c.hp (.list e) = some x → VRel c (.slc id ver vw) u → VD c' (.list e) x u := fun {id ver vw u e x} hown h hv => by
    obtain ⟨a, cp, zs, h1, h2, h3⟩ := src_rel2 hok h hv
    have h4 := src_cap hok h hv h1
    exact (VD.leaf rfl).2 ⟨a, cp, zs, by rw [h1], h4, LRel.mono (DRel.mono hm e) _ _ h2, h3.imp (fun h => h) fun ⟨b, off, q1, q2, q4, q3⟩ => ⟨b, off, q1, hf2 hown b q2 q4, q3.of_block (by rw [hw])⟩⟩
  cases own with
  | true =>
    have h : v.as c.hp t = some x := h
    cases ho : ownArg v with
    | false => exact as_free hm ho h hv
    | true =>
      cases v with
      | slc id ver vw =>
        cases t with
        | list e => simp [ownArg, Ty.rigid] at hc
        | _ => simp [AVal.as] at h
      | agg l =>
        simp only [AVal.as] at h
        rw [cond_eq_ite] at h
        split at h
        · rename_i ha
          simp only [VRel] at hv
          obtain ⟨vs, rfl, h1, h2⟩ := hv
          exact VD.move hw (.inl hf) ((VD.agg ha).2 ⟨vs, rfl, mkAll_rel h h1⟩)
        · cases h
      | _ => simp [ownArg] at ho
  | false =>
    cases v with
    | slc id ver vw =>
      have h : (AVal.slc id ver vw).as c.hp t = some x := h
      cases t with
      | list e => exact slcCase rfl h hv
      | _ => simp [AVal.as] at h
    | agg l =>
      have h : (bif t.isAgg then mkAll t (l.map (frozen c.hp)) else none) = some x := h
      obtain ⟨ha, h⟩ := bif_some h
      simp only [VRel] at hv
      obtain ⟨vs, rfl, h1, h2⟩ := hv
      have key : ∀ (l : List AVal) (vs : List Value), VRels c l vs → VRels c' (l.map (frozen c.hp)) vs := by
        intro l
        induction l with
        | nil => intro vs h; cases vs with
          | nil => simp [VRels]
          | cons _ _ => simp [VRels] at h
        | cons v l ih => intro vs h; cases vs with
          | nil => simp [VRels] at h
          | cons u vs =>
            simp only [VRels, List.map_cons] at h ⊢
            refine ⟨?_, ih vs h.2⟩
            have hv := h.1
            cases v with
            | val t x =>
              simp only [frozen, VRel] at hv ⊢
              exact VD.move hw (.inl hf) hv
            | nils => simpa only [frozen, VRel] using hv
            | slc id ver vw =>
              simp only [frozen]
              split
              · rename_i e v xs hg
                rw [cond_eq_ite]
                split
                · rename_i hver
                  simp only [VRel]
                  refine slcCase rfl ?_ hv
                  simp only [AVal.as, content, hg, hver, cond_true, castTy_same]
                · simp [VRel]
              · simp [VRel]
            | _ => simp [frozen, VRel]
      exact (VD.agg ha).2 ⟨vs, rfl, mkAll_rel h (key l _ h1)⟩
    | _ =>
      simp only [AVal.asR, cond_false] at h
      exact as_free hm rfl h hv

/-- results without new memory -/
theorem res_old {own : Bool} {c' : Cx} (hok : c.Ok W0) (hw : c'.w = c.w) (hf : ∀ b, c.free b → c'.free b) (hf2 : own = false → ∀ b, b < c.w.heap.size → ¬ c.bar b → c'.free b) : ∀ (rs : List (Ty × Bool)) (l : List AVal) (y) (us : List Value), resOf own rs l c.hp = some y → news rs = 0 → VRels c l us → VRels c' (vals 0 rs y) us
  | [], [], y, [], _, _, _ => by simp [vals, VRels]
  | [], [], _, _ :: _, _, _, hv => by simp [VRels] at hv
  | [], _ :: _, _, _, h, _, _ => by simp [resOf] at h
  | (t, true) :: rs, _, _, _, _, hn, _ => by simp [news] at hn
  | (t, false) :: rs, [], _, _, h, _, _ => by simp [resOf] at h
  | (t, false) :: rs, v :: l, y, [], h, _, hv => by simp [VRels] at hv
  | (t, false) :: rs, v :: l, y, u :: us, h, hn, hv => by
    simp only [resOf] at h
    split at h
    · rename_i x y' h1 h2
      cases h
      simp only [VRels] at hv
      simp only [vals, VRels, VRel]
      exact ⟨res_val hw hf hf2 hok h1 hv.1, res_old hok hw hf hf2 rs l y' us h2 (by simpa [news] using hn) hv.2⟩
    · cases h

/-- results with new memory -/
theorem res_new (hok : c.Ok W0) : ∀ (rs : List (Ty × Bool)) (l : List AVal) (y) (us : List Value), resOf true rs l c.hp = some y → news rs = 1 → VRels c l us →
    ∃ (id ver : Nat) (e : Ty) (xs : List e.den), hget c.hp id = some (.arr e ver xs) ∧ newOf rs y = some ⟨e, xs⟩ ∧
      ∀ c' : Cx, c'.w = c.w → (∀ b, c.free b → c'.free b) → c'.hp = [(0, .arr e 0 xs)] → (c'.mu 0).v = (c.mu id).v → VRels c' (vals 0 rs y) us
  | [], _, _, _, _, hn, _ => by simp [news] at hn
  | (t, false) :: rs, [], _, _, h, _, _ => by simp [resOf] at h
  | (t, false) :: rs, v :: l, y, [], h, _, hv => by simp [VRels] at hv
  | (t, false) :: rs, v :: l, y, u :: us, h, hn, hv => by
    simp only [resOf] at h
    split at h
    · rename_i x y' h1 h2
      cases h
      simp only [VRels] at hv
      obtain ⟨id, ver, e, xs, k1, k2, k3⟩ := res_new hok rs l y' us h2 (by simpa [news] using hn) hv.2
      refine ⟨id, ver, e, xs, k1, k2, fun c' hw hf hhp hmu => ?_⟩
      simp only [vals, VRels, VRel]
      exact ⟨res_val hw hf (fun h => by cases h) hok h1 hv.1, k3 c' hw hf hhp hmu⟩
    · cases h
  | (t, true) :: rs, [], _, _, h, _, _ => by cases t <;> simp [resOf] at h
  | (t, true) :: rs, v :: l, y, [], h, _, hv => by simp [VRels] at hv
  | (t, true) :: rs, v :: l, y, u :: us, h, hn, hv => by
    cases t with
    | list e =>
      cases v with
      | slc id ver vw =>
        cases vw with
        | none =>
          simp only [resOf] at h
          split at h
          · rename_i t' w xs hg
            rw [cond_eq_ite] at h
            split at h
            · rename_i hver
              have hver : w = ver := by simpa using hver
              subst hver
              split at h
              · rename_i x y' h1 h2
                cases h
                have ee := castTy_ty h1
                cases ee
                rw [castTy_same] at h1
                cases h1
                simp only [VRels] at hv
                refine ⟨id, w, e, x, hg, rfl, fun c' hw hf hhp hmu => ?_⟩
                simp only [vals, VRels]
                refine ⟨?_, res_old hok hw hf (fun h => by cases h) rs l y' us h2 (by simpa [news] using hn) hv.2⟩
                have hu := hv.1
                simp only [VRel] at hu ⊢
                have hu1 := (hu.2.2 _ _ _ hg).2 rfl
                simp only [ViewIs] at hu1
                refine ⟨hu.1, .inl ⟨.arr e 0 x, by rw [hhp]; simp [hget_cons]⟩, fun t u' xs' h => ?_⟩
                have : AObj.arr e 0 x = .arr t u' xs' := by rw [hhp] at h; simpa [hget_cons] using h
                cases this
                exact ⟨Nat.le_refl _, fun _ => by simp only [ViewIs]; rw [hmu]; exact hu1⟩
              · cases h
            · cases h
          · cases h
        | some p => simp [resOf] at h
      | _ => simp [resOf] at h
    | _ => simp [resOf] at h

theorem newOf_none : ∀ (rs : List (Ty × Bool)) y, news rs = 0 → newOf rs y = none
  | [], _, _ => rfl
  | (t, true) :: rs, _, h => by simp [news] at h
  | (t, false) :: rs, y, h => newOf_none rs y.2 (by simpa [news] using h)

theorem res_rel (hok : c.Ok W0) {rs : List (Ty × Bool)} {l : List AVal} {y} {us : List Value} (h : resOf (!Nat.beq (news rs) 0) rs l c.hp = some y) (hn : news rs ≤ 1) (hv : VRels c l us) :
    ∃ c' : Cx, c'.w = c.w ∧ c'.Ok W0 ∧ c'.bar = c.bar ∧ c'.mks = [] ∧ c'.hp = newHeap rs y ∧ VRels c' (vals 0 rs y) us := by
  by_cases h0 : news rs = 0
  · let c' : Cx := ⟨c.mu, [], c.nxt, c.w, [], c.bar⟩
    have hf : ∀ b, c.free b → c'.free b := fun b hb => ⟨hb.1, (by rintro ⟨i, o, h, _⟩; simp [c', hget] at h), by simp [c'], hb.2.2.2⟩
    exact ⟨c', rfl, ⟨hok.bel, fun id o h => by simp [c', hget] at h, fun i j o p b h => by simp [c', hget] at h, fun r hr => by simp [c'] at hr, fun b hb => ⟨(hok.bar b hb).1, (by rintro ⟨i, o, h, _⟩; simp [c', hget] at h), by simp [c']⟩, hok.phi⟩, rfl, rfl, by rw [newHeap, newOf_none rs y h0], res_old hok (c' := c') rfl hf (fun _ b h1 h2 => ⟨h1, (by rintro ⟨i, o, h, _⟩; simp [c', hget] at h), by simp [c'], h2⟩) rs l y us h h0 hv⟩
  · have h1' : news rs = 1 := by omega
    rw [show (!Nat.beq (news rs) 0) = true by rw [h1']; rfl] at h
    obtain ⟨id, ver, e, xs, k1, k2, k3⟩ := res_new hok rs l y us h h1' hv
    let c' : Cx := ⟨fun _ => c.mu id, [(0, .arr e 0 xs)], c.nxt, c.w, [], c.bar⟩
    have hf : ∀ b, c.free b → c'.free b := fun b hb => ⟨hb.1, (by
      rintro ⟨i, o, h1, h2⟩
      simp only [c', hget_cons] at h1 h2
      split at h1
      · cases h1; exact hb.2.1 ⟨id, _, k1, h2⟩
      · simp [hget] at h1), by simp [c'], hb.2.2.2⟩
    refine ⟨c', rfl, ⟨hok.bel, fun i o h => ?_, fun i j o p b h1 h2 _ _ => ?_, fun r hr => by simp [c'] at hr, fun b hb => ⟨(hok.bar b hb).1, (by
      rintro ⟨i, o, h1, h2⟩
      simp only [c', hget_cons] at h1 h2
      split at h1
      · cases h1; exact (hok.bar b hb).2.1 ⟨id, _, k1, h2⟩
      · simp [hget] at h1), by simp [c']⟩, hok.phi⟩, rfl, rfl, by rw [newHeap, k2], k3 c' rfl hf rfl rfl⟩
    · simp only [c', hget_cons] at h
      split at h
      · cases h
        obtain ⟨h0, e', zs, h1, h2, hty⟩ := hok.obj id _ k1
        exact ⟨h0, e', zs, h1, LRel.mono (DRel.mono (fun b hb => ⟨hf b hb, rfl⟩) e) _ _ h2, hty⟩
      · simp [hget] at h
    · simp only [c', hget_cons] at h1 h2
      split at h1
      · split at h2
        · rename_i e1 e2; omega
        · simp [hget] at h2
      · simp [hget] at h1

theorem sum_of_run_enter {E : Env} (hE : EnvOk E) {g : FuncId} {s : Sum} (hn : news s.rs ≤ 1) (h : ∀ x y, s.f x = some y → runF E g s.ps s.rs x = some y) (w : World) (bar : Nat → Prop) (args' : Array Value) (x) (y) (hphi : Phi w) (hbar : ∀ b, bar b → b < w.heap.size)
    (hdv : DVals (base0 w bar) s.ps x args'.toList) (hy : s.f x = some y) : (callFunc g args').run E.P w = .ok (.enter g args') w ∧ Calls E.P g args' w (SumPost w bar s.rs y) := by
  have h1 := h x y hy
  unfold runF at h1
  refine env_exec hE 1000000 _ w g (argVals s.ps x) _ _ y h1 0 none (base0 w bar) ⟨#[], []⟩ [] args' (base0_rel hphi hbar) (argVals_rel _ _ _ hdv) (SumPost w bar s.rs y) fun c1 z u st1 k1 k2 k3 k4 => ?_
  obtain ⟨us, rfl, h3⟩ := resL_rel (by rw [k1]; rfl) k3
  rw [← k2.hp] at k1
  obtain ⟨c', q1, q2, q3, q4, q5, q6⟩ := res_rel k2.ok k1 hn h3
  exact ⟨c', us, rfl, q1, q2, q3.trans k4.bar, q4, q5, q6⟩

/-- what is known of a function, out of a run -/
theorem sum_of_run {E : Env} (hE : EnvOk E) {g : FuncId} {s : Sum} (hn : news s.rs ≤ 1) (h : ∀ x y, s.f x = some y → runF E g s.ps s.rs x = some y) : SumOk E.P g s := fun w bar args' x y hphi hbar hdv hy => .inl (sum_of_run_enter hE hn h w bar args' x y hphi hbar hdv hy)

/-- a closed call, or one on data of one form: its answer -/
theorem call_of_run {E : Env} (hE : EnvOk E) {g : FuncId} {ps : List Ty} {x : (ps.foldr Ty.pair Ty.unit).den} {t : Ty} {y : t.den} (ht : t.rigid = true) (h : runF E g ps [(t, false)] x = some (y, ())) {w : World} {args : Array Value} (ha : DVals (base0 w fun _ => False) ps x args.toList) (hphi : Phi w := by exact trivial) :
    Calls E.P g args w fun e w' => e = .returned (dataVal t y) ∧ Below w.heap.size w w' := by
  obtain ⟨_, h2⟩ := sum_of_run_enter hE (g := g) (s := ⟨ps, [(t, false)], fun x' => runF E g ps [(t, false)] x'⟩) (by simp [news]) (fun x y h => h) w (fun _ => False) args x (y, ()) hphi (fun b h => h.elim) ha h
  refine h2.mono ?_
  rintro e w' ⟨c', us, rfl, rfl, hok, _, _, _, hv⟩
  refine ⟨?_, hok.bel⟩
  cases us with
  | nil => simp [vals, VRels] at hv
  | cons u us =>
    cases us with
    | cons _ _ => simp [vals, VRels] at hv
    | nil =>
      simp only [vals, VRels, VRel, and_true] at hv
      simp only [resV]
      rw [(VD.rigid ht u).1 hv]

/-- a function of one list that asks whether it is nil: its result as a list, if that is the same either way -/
theorem sum_of_lst {E : Env} (hE : EnvOk E) {g : FuncId} {e e2 : Ty} (hpos : 0 < e.size) {f : List e.den → Option (List e2.den)} (h1 : ∀ xs y, f xs = some y → exec E 1000000 (.call g [.lst e xs false]) ⟨[], [], [], 0⟩ (fun v st => resOf false [(.list e2, false)] (resL 1 v) st.hp) = some (y, ()))
    (h2 : ∀ y, f [] = some y → exec E 1000000 (.call g [.lst e [] true]) ⟨[], [], [], 0⟩ (fun v st => resOf false [(.list e2, false)] (resL 1 v) st.hp) = some (y, ())) :
    SumOk E.P g ⟨[.list e], [(.list e2, false)], fun x => match f x.1 with | some y => some (y, ()) | none => none⟩ := fun w bar args' x y hphi hbar hdv hy => .inl (by
  obtain ⟨u, us', hu, hx, hnil⟩ := hdv
  obtain ⟨a, n, zs, q1, q2, q3, q4⟩ := list_inv hx
  simp only at hy
  split at hy
  · rename_i y' hf
    cases hy
    have hrun : exec E 1000000 (.call g [.lst e x.1 a.isNone]) ⟨[], [], [], 0⟩ (fun v st => resOf false [(.list e2, false)] (resL 1 v) st.hp) = some (y', ()) := by
      cases ha : a with
      | some _ => exact h1 _ _ hf
      | none =>
        have hz : zs = [] := by
          rcases q4 with q4 | ⟨b, off, q4, _⟩
          · exact q4
          · rw [ha] at q4; cases q4
        have hl := LRel.length _ _ q3
        rw [hz] at hl
        have hx0 : x.1 = [] := by
          cases hxx : x.1 with
          | nil => rfl
          | cons a l => rw [hxx] at hl; have := Nat.mul_pos (show 0 < (a :: l).length by simp) hpos; rw [← hl] at this; exact absurd this (by simp)
        rw [hx0] at hf ⊢
        exact h2 _ hf
    have hv : VRels (base0 w bar) [.lst e x.1 a.isNone] args'.toList := by
      rw [hu, show us' = [] from hnil]
      simp only [VRels, VRel, and_true]
      exact ⟨hx, a, _, _, q1, rfl⟩
    refine env_exec hE 1000000 _ w g [.lst e x.1 a.isNone] _ _ _ hrun 0 none (base0 w bar) ⟨#[], []⟩ [] args' (base0_rel hphi hbar) hv (SumPost w bar [(.list e2, false)] (y', ())) fun c1 z u st1 k1 k2 k3 k4 => ?_
    obtain ⟨us, rfl, h3⟩ := resL_rel (own := false) (rs := [(.list e2, false)]) (hp := st1.hp) (by rw [show resOf false [(.list e2, false)] (resL [(Ty.list e2, false)].length z) st1.hp = some (y', ()) from k1]; rfl) k3
    rw [← k2.hp] at k1
    obtain ⟨c', q1, q2, q3, q4, q5, q6⟩ := res_rel (rs := [(.list e2, false)]) k2.ok k1 (by simp [news]) h3
    exact ⟨c', us, rfl, q1, q2, q3.trans k4.bar, q4, q5, q6⟩
  · cases hy)

/-- the same, its result as new memory, where the list isn't empty -/
theorem sum_of_lst_new {E : Env} (hE : EnvOk E) {g : FuncId} {e e2 : Ty} (hpos : 0 < e.size) {f : List e.den → Option (List e2.den)} (h0 : f [] = none) (h1 : ∀ xs y, f xs = some y → exec E 1000000 (.call g [.lst e xs false]) ⟨[], [], [], 0⟩ (fun v st => resOf true [(.list e2, true)] (resL 1 v) st.hp) = some (y, ())) :
    SumOk E.P g ⟨[.list e], [(.list e2, true)], fun x => match f x.1 with | some y => some (y, ()) | none => none⟩ := fun w bar args' x y hphi hbar hdv hy => .inl (by
  obtain ⟨u, us', hu, hx, hnil⟩ := hdv
  obtain ⟨a, n, zs, q1, q2, q3, q4⟩ := list_inv hx
  simp only at hy
  split at hy
  · rename_i y' hf
    cases hy
    have ha : a.isNone = false := by
      cases ha : a with
      | some _ => rfl
      | none =>
        have hz : zs = [] := by
          rcases q4 with q4 | ⟨b, off, q4, _⟩
          · exact q4
          · rw [ha] at q4; cases q4
        have hl := LRel.length _ _ q3
        rw [hz] at hl
        have hx0 : x.1 = [] := by
          cases hxx : x.1 with
          | nil => rfl
          | cons a l => rw [hxx] at hl; have := Nat.mul_pos (show 0 < (a :: l).length by simp) hpos; rw [← hl] at this; exact absurd this (by simp)
        rw [hx0, h0] at hf
        cases hf
    have hrun := h1 _ _ hf
    have hv : VRels (base0 w bar) [.lst e x.1 false] args'.toList := by
      rw [hu, show us' = [] from hnil]
      simp only [VRels, VRel, and_true]
      exact ⟨hx, a, _, _, q1, ha.symm⟩
    refine env_exec hE 1000000 _ w g [.lst e x.1 false] _ _ _ hrun 0 none (base0 w bar) ⟨#[], []⟩ [] args' (base0_rel hphi hbar) hv (SumPost w bar [(.list e2, true)] (y', ())) fun c1 z u st1 k1 k2 k3 k4 => ?_
    obtain ⟨us, rfl, h3⟩ := resL_rel (own := true) (rs := [(.list e2, true)]) (hp := st1.hp) (by rw [show resOf true [(.list e2, true)] (resL [(Ty.list e2, true)].length z) st1.hp = some (y', ()) from k1]; rfl) k3
    rw [← k2.hp] at k1
    obtain ⟨c', q1, q2, q3, q4, q5, q6⟩ := res_rel (rs := [(.list e2, true)]) k2.ok k1 (by simp [news]) h3
    exact ⟨c', us, rfl, q1, q2, q3.trans k4.bar, q4, q5, q6⟩
  · cases hy)

/-- as above, and the empty list, be it nil or not, gives an empty list -/
theorem sum_of_lst_new0 {E : Env} (hE : EnvOk E) {g : FuncId} {e e2 : Ty} (hpos : 0 < e.size) (hpos2 : 0 < e2.size) {f : List e.den → Option (List e2.den)} (h1 : ∀ xs y, f xs = some y → exec E 1000000 (.call g [.lst e xs false]) ⟨[], [], [], 0⟩ (fun v st => resOf true [(.list e2, true)] (resL 1 v) st.hp) = some (y, ()))
    (h2 : ∀ y, f [] = some y → y = [] ∧ exec E 1000000 (.call g [.lst e [] true]) ⟨[], [], [], 0⟩ (fun v st => match v, st.hp with | .nils, [] => some () | _, _ => none) = some ()) :
    SumOk E.P g ⟨[.list e], [(.list e2, true)], fun x => match f x.1 with | some y => some (y, ()) | none => none⟩ := fun w bar args' x y hphi hbar hdv hy => .inl (by
  obtain ⟨u, us', hu, hx, hnil⟩ := hdv
  obtain ⟨a, n, zs, q1, q2, q3, q4⟩ := list_inv hx
  simp only at hy
  split at hy
  · rename_i y' hf
    cases hy
    have hv : VRels (base0 w bar) [.lst e x.1 a.isNone] args'.toList := by
      rw [hu, show us' = [] from hnil]
      simp only [VRels, VRel, and_true]
      exact ⟨hx, a, _, _, q1, rfl⟩
    cases ha : a.isNone with
    | true =>
      have hz : zs = [] := by
        rcases q4 with q4 | ⟨b, off, q4, _⟩
        · exact q4
        · rw [q4] at ha; cases ha
      have hl := LRel.length _ _ q3
      rw [hz] at hl
      have hx0 : x.1 = [] := by
        cases hxx : x.1 with
        | nil => rfl
        | cons a l => rw [hxx] at hl; have := Nat.mul_pos (show 0 < (a :: l).length by simp) hpos; rw [← hl] at this; exact absurd this (by simp)
      rw [ha, hx0] at hv
      rw [hx0] at hf
      obtain ⟨rfl, hrun⟩ := h2 _ hf
      refine env_exec hE 1000000 _ w g [.lst e [] true] _ _ _ hrun 0 none (base0 w bar) ⟨#[], []⟩ [] args' (base0_rel hphi hbar) hv (SumPost w bar [(.list e2, true)] ([], ())) fun c1 z u st1 k1 k2 k3 k4 => ?_
      split at k1
      · rename_i hz0 hst
        simp only [VRel] at k3
        obtain ⟨c2, d1, d2, d3⟩ := new_arr (W0 := w) k2.ok k2.hp k2.nxt (id := st1.nxt) (n' := st1.nxt + 1) (by rw [hst]; rfl) (Nat.le_refl _) (by omega) hpos2 (xs := []) (Below.refl _ _) (if e2 = .int .u8 then byteTy else 0) [] (World.ownsRow_nil _ _ _ _) (by simp [LRel]) (v := .slice none 0 0) rfl (fun h => by simp [h])
        have k1' : resOf true [(.list e2, true)] [.slc st1.nxt 0 none] c2.hp = some (([], ()) : List e2.den × Unit) := by
          rw [d1.hp]
          simp only [resOf, hget, beq_self_eq_true, Nat.beq_refl, cond_true, castTy_same]
          rfl
        have h3 : VRels c2 [.slc st1.nxt 0 none] [.slice none 0 0] := by simp only [VRels, and_true]; exact d3
        obtain ⟨c', q1, q2, q3, q4, q5, q6⟩ := res_rel (rs := [(.list e2, true)]) d1.ok k1' (by simp [news]) h3
        exact ⟨c', [.slice none 0 0], by rw [k3]; rfl, q1.trans d2, q2, q3.trans (d1.le.bar.trans k4.bar), q4, q5, q6⟩
      · cases k1
    | false =>
      rw [ha] at hv
      have hrun := h1 _ _ hf
      refine env_exec hE 1000000 _ w g [.lst e x.1 false] _ _ _ hrun 0 none (base0 w bar) ⟨#[], []⟩ [] args' (base0_rel hphi hbar) hv (SumPost w bar [(.list e2, true)] (y', ())) fun c1 z u st1 k1 k2 k3 k4 => ?_
      obtain ⟨us, rfl, h3⟩ := resL_rel (own := true) (rs := [(.list e2, true)]) (hp := st1.hp) (by rw [show resOf true [(.list e2, true)] (resL [(Ty.list e2, true)].length z) st1.hp = some (y', ()) from k1]; rfl) k3
      rw [← k2.hp] at k1
      obtain ⟨c', q1, q2, q3, q4, q5, q6⟩ := res_rel (rs := [(.list e2, true)]) k2.ok k1 (by simp [news]) h3
      exact ⟨c', us, rfl, q1, q2, q3.trans k4.bar, q4, q5, q6⟩
  · cases hy)

/-- two of which each knows a part -/
theorem sum_or {P : Program} {g : FuncId} {ps : List Ty} {rs : List (Ty × Bool)} {f1 f2 : (ps.foldr Ty.pair Ty.unit).den → Option ((rs.map (·.1)).foldr Ty.pair Ty.unit).den} (c : (ps.foldr Ty.pair Ty.unit).den → Bool) (h1 : SumOk P g ⟨ps, rs, f1⟩) (h2 : SumOk P g ⟨ps, rs, f2⟩) :
    SumOk P g ⟨ps, rs, fun x => bif c x then f1 x else f2 x⟩ := fun w bar args' x y hphi hbar hdv hy => by
  cases hc : c x with
  | true => simp only [hc, cond_true] at hy; exact h1 w bar args' x y hphi hbar hdv hy
  | false => simp only [hc, cond_false] at hy; exact h2 w bar args' x y hphi hbar hdv hy

/-! ### functions that are given the address of a block -/

def resB : (rs : List Ty) → List AVal → Heap → Option (rs.foldr Ty.pair Ty.unit).den
  | [], [], _ => some ()
  | t :: rs, v :: l, hp => match (bif true && (ownArg v && !t.rigid) then none else v.as hp t), resB rs l hp with
    | some x, some y => some (x, y)
    | _, _ => none
  | _, _, _ => none

/-- what such a function computes, by the plain machine -/
def runB (E : Env) (g : FuncId) (bt : TypeId) (cs : List (Ty × Bool)) (ps rs : List Ty) (x : ((cs.map (·.1)).foldr Ty.pair Ty.unit).den) (y : (ps.foldr Ty.pair Ty.unit).den) : Option (((cs.map (·.1)).foldr Ty.pair Ty.unit).den × (rs.foldr Ty.pair Ty.unit).den) :=
  exec E 1000000 (.call g (.ptr 0 0 :: dvals ps y)) ⟨[.ptr 0 0], [], (0, .box bt (celC cs (firstP cs 1) x)) :: arrH cs (firstP cs 1) x, 0⟩ fun v st => match st.fr with
    | [.ptr 0 0] => match hget st.hp 0 with
      | some (.box t cells) => bif Nat.beq t bt && nodupN ((ownP cs cells).map (·.1)) then (match readC st.hp true cs cells with
        | some x' => match resB rs (resL rs.length v) st.hp with
          | some z' => some (x', z')
          | none => none
        | none => none) else none
      | _ => none
    | _ => none

theorem resB_some : ∀ (rs : List Ty) (l : List AVal) {hp : Heap}, (resB rs l hp).isSome = true → (resOf true (rs.map fun t => (t, false)) l hp).isSome = true
  | [], [], _, _ => rfl
  | [], _ :: _, _, h => by simp [resB] at h
  | _ :: _, [], _, h => by simp [resB] at h
  | t :: rs, v :: l, hp, h => by
    simp only [resB] at h
    split at h
    · rename_i x y h1 h2
      have := resB_some rs l (hp := hp) (by rw [h2]; rfl)
      change @Option.isSome ((((t, false) :: rs.map fun t => (t, false)).map (·.1)).foldr Ty.pair Ty.unit).den (resOf true ((t, false) :: rs.map fun t => (t, false)) (v :: l) hp) = true
      rw [resOf]
      rw [show AVal.asR hp true t v = v.as hp t from rfl, h1]
      cases h3 : resOf true (rs.map fun t => (t, false)) l hp with
      | none => rw [h3] at this; cases this
      | some z => rfl
    · cases h

theorem resB_rel (hok : c.Ok W0) : ∀ (rs : List Ty) (l : List AVal) (z) (us : List Value), resB rs l c.hp = some z → VRels c l us → DVals c rs z us
  | [], [], z, [], _, _ => rfl
  | [], [], _, _ :: _, _, hv => by simp [VRels] at hv
  | [], _ :: _, _, _, h, _ => by simp [resB] at h
  | _ :: _, [], _, _, h, _ => by simp [resB] at h
  | t :: rs, v :: l, z, [], _, hv => by simp [VRels] at hv
  | t :: rs, v :: l, z, u :: us, h, hv => by
    simp only [resB] at h
    split at h
    · rename_i x y h1 h2
      cases h
      simp only [VRels] at hv
      exact ⟨u, us, rfl, res_val (own := true) (c' := c) rfl (fun b h => h) (fun h => by cases h) hok h1 hv.1, resB_rel hok rs l y us h2 hv.2⟩
    · cases h

theorem sumB_of_run {E : Env} (hE : EnvOk E) {g : FuncId} {s : SumB} (h : ∀ x y z, s.f x y = some z → runB E g s.bt s.cs s.ps s.rs x y = some z) : SumBOk E.P g s := fun W0 c x y z hok hmk hnx hhp args' hv hz => by
  have h1 := h x y z hz
  unfold runB at h1
  obtain ⟨us⟩ := args'
  cases us with
  | nil => simp [VRels] at hv
  | cons u0 us =>
  have hv' := hv
  simp only [VRels] at hv'
  obtain ⟨hu0, _⟩ := hv'
  have hr : Rel W0 0 none c ⟨[.ptr 0 0], [], (0, .box s.bt (celC s.cs (firstP s.cs 1) x)) :: arrH s.cs (firstP s.cs 1) x, 0⟩ ⟨#[u0], []⟩ [] :=
    ⟨hhp, hnx, hok, by simp only [VRels]; exact ⟨hu0, trivial⟩, trivial, ⟨[], rfl, List.nodup_nil, fun r hr => by simp at hr⟩, fun l hl => by cases hl⟩
  refine env_exec hE 1000000 _ W0 g (.ptr 0 0 :: dvals s.ps y) _ _ z h1 0 none c ⟨#[u0], []⟩ [] ⟨u0 :: us⟩ hr hv (BPost W0 c s z) fun c1 v u st1 k1 k2 k3 k4 => ?_
  split at k1 <;> try (cases k1; done)
  rename_i hfr
  split at k1 <;> try (cases k1; done)
  rename_i t cells hb
  replace k1 := bif_some k1
  obtain ⟨hc, k1⟩ := k1
  simp only [Bool.and_eq_true] at hc
  obtain ⟨ht, hnd⟩ := hc
  have ht : t = s.bt := Nat.eq_of_beq_eq_true ht
  subst ht
  split at k1 <;> try (cases k1; done)
  rename_i x' hx'
  split at k1 <;> try (cases k1; done)
  rename_i z' hz'
  cases k1
  obtain ⟨us1, rfl, h3⟩ := resL_rel (own := true) (rs := s.rs.map fun t => (t, false)) (hp := st1.hp) (by rw [List.length_map]; exact resB_some _ _ (by rw [hz']; rfl)) k3
  rw [List.length_map] at h3
  rw [← k2.hp] at hb hx' hz'
  refine ⟨c1, us1, cells, rfl, rfl, k2.ok, k4, hb, ?_, nodupN_spec hnd, hx', resB_rel k2.ok s.rs _ z' us1 hz' h3⟩
  have hf := k2.fr
  rw [hfr] at hf
  simp only [VRels, VRel, and_true] at hf
  simp only [VRel] at hu0
  have e1 := hf.2.2 _ _ hb
  have e2 := hu0.2.2 _ _ (by rw [hhp]; simp [hget_cons]; exact ⟨rfl, rfl⟩)
  rw [e1] at e2
  simpa using e2
end
end Go.Proofs.YtnmaceljkegenaaDoor
