/-
  The plain machine: functions of which something is known.
-/
import Derived.Test.YtnmaceljkegenaaDoorAw
namespace Go.Proofs.YtnmaceljkegenaaDoor
open Go.RowKit
set_option linter.unusedVariables false
set_option linter.unusedSimpArgs false

def DVals (c : Cx) : (ps : List Ty) → (ps.foldr Ty.pair Ty.unit).den → List Value → Prop
  | [], _, us => us = []
  | t :: ps, x, us => ∃ u us', us = u :: us' ∧ VD c t x.1 u ∧ DVals c ps x.2 us'

def base0 (w : World) (bar : Nat → Prop) : Cx := ⟨fun _ => ⟨0, undef⟩, [], 0, w, [], bar⟩

def newHeap (rs : List (Ty × Bool)) (y : ((rs.map (·.1)).foldr Ty.pair Ty.unit).den) : Heap :=
  match newOf rs y with
  | some ⟨e, xs⟩ => [(0, .arr e 0 xs)]
  | none => []

def SumPost (w : World) (bar : Nat → Prop) (rs : List (Ty × Bool)) (y : ((rs.map (·.1)).foldr Ty.pair Ty.unit).den) : Ending → World → Prop := fun e w' =>
  ∃ (c' : Cx) (us : List Value), e = .returned (resV us) ∧ c'.w = w' ∧ c'.Ok w ∧ c'.bar = bar ∧ c'.mks = [] ∧ c'.hp = newHeap rs y ∧ VRels c' (vals 0 rs y) us

/-- what is known of a function is so -/
def SumOk (P : Program) (g : FuncId) (s : Sum) : Prop :=
  ∀ (w : World) (bar : Nat → Prop) (args' : Array Value) x y, Phi w → (∀ b, bar b → b < w.heap.size) → DVals (base0 w bar) s.ps x args'.toList → s.f x = some y →
    ((callFunc g args').run P w = .ok (.enter g args') w ∧ Calls P g args' w (SumPost w bar s.rs y)) ∨ ∃ u, (callFunc g args').run P w = .ok (.value u) w ∧ SumPost w bar s.rs y (.returned u) w

section
variable {P : Program} {T : TT} {W0 : World} {b0 : Nat} {rd : Option Nat} {R : Type} {r : R} {c : Cx} {ats : List (Array Value)}

theorem base0_free {w : World} {bar : Nat → Prop} {b : Nat} : (base0 w bar).free b ↔ b < w.heap.size ∧ ¬ bar b := by
  constructor
  · intro h; exact ⟨h.1, h.2.2.2⟩
  · rintro ⟨h1, h2⟩
    exact ⟨h1, (by rintro ⟨i, o, h, _⟩; simp [base0, hget] at h), by simp [base0], h2⟩

/-! ### arguments -/

theorem as_sees (hok : c.Ok W0) {cb : Cx} (hs : Sees c cb) {t : Ty} {v : AVal} {x : t.den} {u : Value} (h : v.as c.hp t = some x) (hv : VRel c v u) : VD cb t x u := by
  have hmono : ∀ {t : Ty} {x : t.den} {u : Value}, VD c t x u → VD cb t x u := fun {t x u} hv =>
    ⟨fun e => let ⟨cs, h1, h2⟩ := hv.1 e; ⟨cs, h1, DRel.mono (fun b hb => hs b hb.1) t x _ h2⟩, fun e => DRel.mono (fun b hb => hs b hb.1) t x _ (hv.2 e)⟩
  cases v with
  | val t' z =>
    simp only [AVal.as] at h
    have e := castTy_ty h
    subst e
    rw [castTy_same] at h
    cases h
    simp only [VRel] at hv
    exact hmono hv
  | nils =>
    cases t with
    | list e => exact list_sees hok hs (x := .nils) h hv
    | _ => simp [AVal.as] at h
  | lst t' z b =>
    simp only [AVal.as] at h
    have e := castTy_ty h
    subst e
    rw [castTy_same] at h
    cases h
    simp only [VRel] at hv
    exact hmono hv.1
  | emp =>
    cases t with
    | list e => exact list_sees hok hs (x := .emp) h hv
    | _ => simp [AVal.as] at h
  | slc id ver vw =>
    cases t with
    | list e => exact list_sees hok hs (x := .slc id ver vw) h hv
    | _ => simp [AVal.as] at h
  | agg l =>
    simp only [AVal.as] at h
    rw [cond_eq_ite] at h
    split at h
    · rename_i ha
      simp only [VRel] at hv
      obtain ⟨vs, rfl, h1, h2⟩ := hv
      exact hmono ((VD.agg ha).2 ⟨vs, rfl, mkAll_rel h h1⟩)
    · cases h
  | _ => simp [AVal.as] at h

theorem as_free {cb : Cx} (hs : ∀ b, c.free b → cb.free b ∧ cb.w.heap[b]? = c.w.heap[b]?) {t : Ty} {v : AVal} {x : t.den} {u : Value} (hno : ownArg v = false) {hp : Heap} (h : v.as hp t = some x) (hv : VRel c v u) : VD cb t x u := by
  cases v with
  | val t' z =>
    simp only [AVal.as] at h
    have e := castTy_ty h
    subst e
    rw [castTy_same] at h
    cases h
    simp only [VRel] at hv
    exact ⟨fun e => let ⟨cs, h1, h2⟩ := hv.1 e; ⟨cs, h1, DRel.mono hs t' _ _ h2⟩, fun e => DRel.mono hs t' _ _ (hv.2 e)⟩
  | nils =>
    cases t with
    | list e =>
      simp only [AVal.as, Option.some.injEq] at h
      subst h
      simp only [VRel] at hv
      subst hv
      exact (VD.leaf rfl).2 ⟨none, 0, [], rfl, Nat.le_refl _, rfl, .inl rfl⟩
    | _ => simp [AVal.as] at h
  | lst t' z b =>
    simp only [AVal.as] at h
    have e := castTy_ty h
    subst e
    rw [castTy_same] at h
    cases h
    simp only [VRel] at hv
    exact ⟨fun e => let ⟨cs, h1, h2⟩ := hv.1.1 e; ⟨cs, h1, DRel.mono hs _ _ _ h2⟩, fun e => DRel.mono hs _ _ _ (hv.1.2 e)⟩
  | emp =>
    cases t with
    | list e =>
      simp only [AVal.as, Option.some.injEq] at h
      subst h
      simp only [VRel] at hv
      obtain ⟨a, rfl⟩ := hv
      exact (VD.leaf rfl).2 ⟨a, 0, [], rfl, Nat.le_refl _, rfl, .inl rfl⟩
    | _ => simp [AVal.as] at h
  | slc id ver vw => simp [ownArg] at hno
  | agg l => simp [ownArg] at hno
  | _ => simp [AVal.as] at h

theorem asAll_rel {cb : Cx} {hp : Heap} : ∀ (ps : List Ty) (args : List AVal) x (us : List Value), asAll hp ps args = some x → VRels c args us →
    (∀ (t : Ty) (v : AVal) (x : t.den) (u : Value), v ∈ args → v.as hp t = some x → VRel c v u → VD cb t x u) → DVals cb ps x us
  | [], [], x, [], h, _, _ => rfl
  | t :: ps, v :: args, x, u :: us, h, hv, ha => by
    simp only [asAll] at h
    split at h
    · rename_i x1 h1
      split at h
      · rename_i y1 h2
        cases h
        simp only [VRels] at hv
        exact ⟨u, us, rfl, ha t v x1 u (by simp) h1 hv.1, asAll_rel ps args y1 us h2 hv.2 fun t v x u hm => ha t v x u (List.mem_cons_of_mem _ hm)⟩
      · cases h
    · cases h
  | [], [], _, _ :: _, _, hv, _ => by simp [VRels] at hv
  | [], _ :: _, _, _, h, _, _ => by simp [asAll] at h
  | _ :: _, [], _, _, h, _, _ => by simp [asAll] at h
  | _ :: _, _ :: _, _, [], _, hv, _ => by simp [VRels] at hv

/-! ### results -/

theorem VD.move {c' c2 : Cx} (hw : c2.w = c'.w) {t : Ty} {x : t.den} {u : Value} (h : (∀ b, c'.free b → c2.free b) ∨ t.rigid = true) (hv : VD c' t x u) : VD c2 t x u := by
  rcases h with h | h
  · exact ⟨fun e => let ⟨cs, h1, h2⟩ := hv.1 e; ⟨cs, h1, DRel.mono (fun b hb => ⟨h b hb, by rw [hw]⟩) t x _ h2⟩, fun e => DRel.mono (fun b hb => ⟨h b hb, by rw [hw]⟩) t x _ (hv.2 e)⟩
  · exact (VD.rigid h u).2 ((VD.rigid h u).1 hv)

theorem LRel.move {c' c2 : Cx} (hw : c2.w = c'.w) {e : Ty} {xs : List e.den} {zs : List Value} (h : (∀ b, c'.free b → c2.free b) ∨ e.rigid = true) (hv : LRel (DRel c'.w c'.free e) e.size xs zs) : LRel (DRel c2.w c2.free e) e.size xs zs := by
  rcases h with h | h
  · exact LRel.mono (DRel.mono (fun b hb => ⟨h b hb, by rw [hw]⟩) e) _ _ hv
  · exact LRel.mono (fun x cs hd => (rigid_cells e x h cs).2 ((rigid_cells e x h cs).1 hd)) _ _ hv

theorem vals_move {c' c2 : Cx} (hw : c2.w = c'.w) (id : Nat) : ∀ (rs : List (Ty × Bool)) y (us : List Value), (∀ t ∈ rs, (∀ b, c'.free b → c2.free b) ∨ t.1.rigid = true ∨ t.2 = true) →
    (news rs = 0 ∨ ∀ u, VRel c' (.slc 0 0 none) u → VRel c2 (.slc id 0 none) u) → VRels c' (vals 0 rs y) us → VRels c2 (vals id rs y) us
  | [], y, [], _, _, _ => by simp [vals, VRels]
  | [], y, _ :: _, _, _, hv => by simp [vals, VRels] at hv
  | (t, false) :: rs, y, us, h, hn, hv => by
    cases us with
    | nil => simp [vals, VRels] at hv
    | cons u us =>
      simp only [vals, VRels, VRel] at hv ⊢
      refine ⟨VD.move hw ?_ hv.1, vals_move hw id rs y.2 us (fun t ht => h t (List.mem_cons_of_mem _ ht)) hn hv.2⟩
      rcases h (t, false) (by simp) with h1 | h1 | h1
      · exact .inl h1
      · exact .inr h1
      · cases h1
  | (t, true) :: rs, y, us, h, hn, hv => by
    cases us with
    | nil => simp [vals, VRels] at hv
    | cons u us =>
      simp only [vals, VRels] at hv ⊢
      rcases hn with hn | hn
      · simp [news] at hn
      · exact ⟨hn u hv.1, vals_move hw id rs y.2 us (fun t ht => h t (List.mem_cons_of_mem _ ht)) (.inr hn) hv.2⟩

theorem vals_slc {c' : Cx} : ∀ (rs : List (Ty × Bool)) y (us : List Value), news rs ≠ 0 → VRels c' (vals 0 rs y) us → ∃ u, VRel c' (.slc 0 0 none) u
  | [], y, us, h, _ => by simp [news] at h
  | (t, false) :: rs, y, us, h, hv => by
    cases us with
    | nil => simp [vals, VRels] at hv
    | cons u us =>
      simp only [vals, VRels] at hv
      exact vals_slc rs y.2 us (by simpa [news] using h) hv.2
  | (t, true) :: rs, y, us, h, hv => by
    cases us with
    | nil => simp [vals, VRels] at hv
    | cons u us =>
      simp only [vals, VRels] at hv
      exact ⟨u, hv.1⟩

theorem newOf_rigid : ∀ (rs : List (Ty × Bool)) y {e : Ty} {xs : List e.den}, newOf rs y = some ⟨e, xs⟩ → (rs.all fun r => r.1.rigid || (r.2 && r.1.elem.rigid)) = true → e.rigid = true
  | [], y, e, xs, h, _ => by simp [newOf] at h
  | (t, false) :: rs, y, e, xs, h, ha => by
    simp only [newOf] at h
    simp only [List.all_cons, Bool.and_eq_true] at ha
    exact newOf_rigid rs y.2 h ha.2
  | (t, true) :: rs, y, e, xs, h, ha => by
    cases t with
    | list e' =>
      simp only [newOf, Option.some.injEq, Sigma.mk.injEq] at h
      obtain ⟨rfl, _⟩ := h
      simp only [List.all_cons, Bool.and_eq_true, Ty.rigid, Ty.elem, Bool.false_or, Bool.true_and] at ha
      exact ha.1
    | _ => simp [newOf] at h

/-- the place behind such a call -/
theorem sum_free {c' : Cx} (hok : c.Ok W0) (hok' : c'.Ok c.w) (hbar : c'.bar = fun b => b < c.w.heap.size ∧ ¬ c.free b) {b : Nat} (hb : c'.free b) : (c.at_ c'.w).free b := by
  refine ⟨hb.1, ?_⟩
  by_cases hlt : b < c.w.heap.size
  · have h1 := hb.2.2.2
    rw [hbar] at h1
    have h2 : c.free b := Classical.byContradiction fun h => h1 ⟨hlt, h⟩
    exact h2.2
  · refine ⟨fun ho => hlt (hok.own_lt ho).2, fun hm => hlt (hok.mark_lt hm), fun hb2 => hlt (hok.bar b hb2).1⟩

theorem sum_some {s : Sum} {cl : Bool} {args : List AVal} {dst : Option Nat} {st : St} {K : AVal → St → Option R} (h : s.call cl args dst st K = some r) :
    ((s.rs.all fun r => r.1.rigid || (r.2 && r.1.elem.rigid)) = true ∨ args.any ownArg = false) ∧ ∃ x y, asAll st.hp s.ps args = some x ∧ s.f x = some y ∧
      ((newOf s.rs y = none ∧ news s.rs = 0 ∧ K (resA (vals 0 s.rs y)) st = some r) ∨
       (∃ e xs id n', newOf s.rs y = some ⟨e, xs⟩ ∧ news s.rs = 1 ∧ hget st.hp id = none ∧ st.nxt ≤ id ∧ st.nxt ≤ n' ∧ K (resA (vals id s.rs y)) { st with hp := (id, .arr e 0 xs) :: st.hp, nxt := n' } = some r)) := by
  unfold Sum.call at h
  rw [cond_eq_ite] at h
  split at h
  · rename_i hc
    refine ⟨by simpa using hc, ?_⟩
    split at h
    · rename_i x hx
      cases hy : s.f x with
      | none => rw [hy] at h; cases h
      | some y =>
        rw [hy] at h
        simp only [obind] at h
        refine ⟨x, y, hx, hy, ?_⟩
        split at h
        · rename_i hn
          rw [cond_eq_ite] at h
          split at h
          · rename_i h0
            exact .inl ⟨hn, by simpa using h0, h⟩
          · cases h
        · rename_i e xs hn
          rw [cond_eq_ite] at h
          split at h
          · rename_i h0
            obtain ⟨id, n', h1, h2, h3, h4⟩ := alloc_some h
            exact .inr ⟨e, xs, id, n', hn, by simpa using h0, h1, h2, h3, h4⟩
          · cases h
    · cases h
  · cases h

end
end Go.Proofs.YtnmaceljkegenaaDoor
