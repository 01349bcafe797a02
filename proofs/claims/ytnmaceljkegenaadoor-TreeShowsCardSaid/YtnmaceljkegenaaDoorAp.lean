/-
  The plain machine: what is forgotten; versions; slices that become our own.
-/
import Derived.Test.YtnmaceljkegenaaDoorAo
namespace Go.Proofs.YtnmaceljkegenaaDoor
open Go.RowKit
set_option linter.unusedVariables false
set_option linter.unusedSimpArgs false

/-- the same for the names of a value alone -/
structure Cx.Keeps (c c' : Cx) (l : List Nat) : Prop where
  free : ∀ b, c.free b → c'.free b ∧ c'.w.heap[b]? = c.w.heap[b]?
  ref : ∀ id ∈ l, c.known id → c'.known id
  obj : ∀ id ∈ l, ∀ o', hget c'.hp id = some o' → ∃ o, hget c.hp id = some o ∧ o.like (c.mu id) o' (c'.mu id)

theorem Cx.Keeps.sub {c c' : Cx} {l m : List Nat} (h : c.Keeps c' l) (hs : ∀ i ∈ m, i ∈ l) : c.Keeps c' m := ⟨h.free, fun i hi => h.ref i (hs i hi), fun i hi => h.obj i (hs i hi)⟩
theorem Cx.Keeps.left {c c' : Cx} {l m : List Nat} (h : c.Keeps c' (l ++ m)) : c.Keeps c' l := h.sub fun i hi => List.mem_append_left _ hi
theorem Cx.Keeps.right {c c' : Cx} {l m : List Nat} (h : c.Keeps c' (l ++ m)) : c.Keeps c' m := h.sub fun i hi => List.mem_append_right _ hi

mutual
theorem VRel.keeps {c c' : Cx} : ∀ (v : AVal) (x : Value), c.Keeps c' (refs v) → VRel c v x → VRel c' v x
  | .undef, _, _, _ => by simp [VRel]
  | .val t x, v, h, hv => by
    simp only [VRel] at hv ⊢
    exact ⟨fun e => let ⟨cs, h1, h2⟩ := hv.1 e; ⟨cs, h1, DRel.mono h.free t x _ h2⟩, fun e => DRel.mono h.free t x _ (hv.2 e)⟩
  | .nils, _, _, hv => by simpa only [VRel] using hv
  | .emp, _, _, hv => by simpa only [VRel] using hv
  | .lst t x b, v, h, hv => by
    simp only [VRel] at hv ⊢
    exact ⟨⟨fun e => let ⟨cs, h1, h2⟩ := hv.1.1 e; ⟨cs, h1, DRel.mono h.free (.list t) x _ h2⟩, fun e => DRel.mono h.free (.list t) x _ (hv.1.2 e)⟩, hv.2⟩
  | .nilp, _, _, hv => by simpa only [VRel] using hv
  | .nilfn, _, _, hv => by simpa only [VRel] using hv
  | .tup l, v, h, hv => by simp only [VRel] at hv ⊢; obtain ⟨vs, h1, h2⟩ := hv; exact ⟨vs, h1, VRels.keeps l _ (by simpa [refs] using h) h2⟩
  | .agg l, v, h, hv => by simp only [VRel] at hv ⊢; obtain ⟨vs, h1, h2, h3⟩ := hv; exact ⟨vs, h1, VRels.keeps l _ (by simpa [refs] using h) h2, h3⟩
  | .cellp t x, v, h, hv => by
    simp only [VRel] at hv ⊢
    obtain ⟨b, o, zs, h1, h2, h3, h4⟩ := hv
    exact ⟨b, o, zs, h1, (h.free b h2).1, h3.of_block (h.free b h2).2, DRel.mono h.free t x _ h4⟩
  | .ptr id off, v, h, hv => by
    simp only [VRel] at hv ⊢
    obtain ⟨hone, hv⟩ := hv
    refine ⟨hone, h.ref id (by simp [refs]) hv.1, fun t cs hc => ?_⟩
    obtain ⟨o, h1, h2⟩ := h.obj id (by simp [refs]) _ hc
    cases o <;> simp only [AObj.like] at h2
    rw [h2]; exact hv.2 _ _ h1
  | .slf id, v, h, hv => by
    simp only [VRel] at hv ⊢
    obtain ⟨hone, hv⟩ := hv
    refine ⟨hone, h.ref id (by simp [refs]) hv.1, fun t cs hc => ?_⟩
    obtain ⟨o, h1, h2⟩ := h.obj id (by simp [refs]) _ hc
    cases o <;> simp only [AObj.like] at h2
    rw [h2]; exact hv.2 _ _ h1
  | .sd id ver, v, h, hv => by
    simp only [VRel] at hv ⊢
    obtain ⟨hone, hv⟩ := hv
    refine ⟨hone, h.ref id (by simp [refs]) hv.1, fun t u xs hc => ?_⟩
    obtain ⟨o, h1, h2⟩ := h.obj id (by simp [refs]) _ hc
    cases o with
    | arr t' v' xs' =>
      simp only [AObj.like] at h2
      have h3 := hv.2 _ _ _ h1
      have := h2.1
      refine ⟨by omega, fun e => ?_⟩
      obtain ⟨e1, e2⟩ := h2.2 (by omega)
      rw [e2]; exact h3.2 (by omega)
    | box _ _ => simp [AObj.like] at h2
    | lp _ _ _ _ _ _ _ _ => simp [AObj.like] at h2
    | dead => simp [AObj.like] at h2
    | mp _ _ _ => simp [AObj.like] at h2
  | .slc id ver vw, v, h, hv => by
    simp only [VRel] at hv ⊢
    obtain ⟨hone, hv⟩ := hv
    refine ⟨hone, h.ref id (by simp [refs]) hv.1, fun t u xs hc => ?_⟩
    obtain ⟨o, h1, h2⟩ := h.obj id (by simp [refs]) _ hc
    cases o with
    | arr t' v' xs' =>
      simp only [AObj.like] at h2
      have h3 := hv.2 _ _ _ h1
      have := h2.1
      refine ⟨by omega, fun e => ?_⟩
      obtain ⟨e1, e2⟩ := h2.2 (by omega)
      rw [e2, ← e1]; exact h3.2 (by omega)
    | box _ _ => simp [AObj.like] at h2
    | lp _ _ _ _ _ _ _ _ => simp [AObj.like] at h2
    | dead => simp [AObj.like] at h2
    | mp _ _ _ => simp [AObj.like] at h2
  | .ep id ver i off, v, h, hv => by
    simp only [VRel] at hv ⊢
    obtain ⟨hone, hv⟩ := hv
    refine ⟨hone, h.ref id (by simp [refs]) hv.1, fun t u xs hc => ?_⟩
    obtain ⟨o, h1, h2⟩ := h.obj id (by simp [refs]) _ hc
    cases o with
    | arr t' v' xs' =>
      simp only [AObj.like] at h2
      have h3 := hv.2 _ _ _ h1
      have := h2.1
      refine ⟨by omega, fun e => ?_⟩
      obtain ⟨e1, e2⟩ := h2.2 (by omega)
      rw [e2, ← e1]; exact h3.2 (by omega)
    | box _ _ => simp [AObj.like] at h2
    | lp _ _ _ _ _ _ _ _ => simp [AObj.like] at h2
    | dead => simp [AObj.like] at h2
    | mp _ _ _ => simp [AObj.like] at h2
  | .fn f l, v, h, hv => by simp only [VRel] at hv ⊢; obtain ⟨vs, h1, h2⟩ := hv; exact ⟨vs, h1, VRels.keeps l _ (by simpa [refs] using h) h2⟩
  | .mfn f l, v, h, hv => by simp only [VRel] at hv ⊢; obtain ⟨vs, h1, h2⟩ := hv; exact ⟨vs, h1, VRels.keeps l _ (by simpa [refs] using h) h2⟩
  | .mpv id, v, h, hv => by
    simp only [VRel] at hv ⊢
    obtain ⟨hone, hv⟩ := hv
    refine ⟨hone, h.ref id (by simp [refs]) hv.1, fun kk vk es hc => ?_⟩
    obtain ⟨o, h1, h2⟩ := h.obj id (by simp [refs]) _ hc
    cases o <;> simp only [AObj.like] at h2
    rw [h2]; exact hv.2 _ _ _ h1
  | .yld id, v, h, hv => by
    simp only [VRel] at hv ⊢
    obtain ⟨hone, hv⟩ := hv
    refine ⟨hone, h.ref id (by simp [refs]) hv.1, fun f fr ps asg bd ky n p hc => ?_⟩
    obtain ⟨o, h1, h2⟩ := h.obj id (by simp [refs]) _ hc
    cases o <;> simp only [AObj.like] at h2
    rw [h2]; exact hv.2 _ _ _ _ _ _ _ _ h1
theorem VRels.keeps {c c' : Cx} : ∀ (l : List AVal) (xs : List Value), c.Keeps c' (refsL l) → VRels c l xs → VRels c' l xs
  | [], [], _, _ => by simp [VRels]
  | v :: l, x :: xs, h, hv => by
    simp only [refsL] at h
    simp only [VRels] at hv ⊢; exact ⟨VRel.keeps v x h.left hv.1, VRels.keeps l xs h.right hv.2⟩
  | [], _ :: _, _, hv => by simp [VRels] at hv
  | _ :: _, [], _, hv => by simp [VRels] at hv
end

theorem Stk.keeps {c c' : Cx} : ∀ (fs : List (List AVal)) (ts : List (Array Value)), c.Keeps c' (refsLL fs) → Stk c fs ts → Stk c' fs ts
  | [], [], _, _ => trivial
  | f :: fs, t :: ts, h, hh => by
    simp only [refsLL] at h
    exact ⟨VRels.keeps _ _ h.left hh.1, Stk.keeps fs ts h.right hh.2⟩
  | [], _ :: _, _, hh => hh.elim
  | _ :: _, [], _, hh => hh.elim

theorem hget_filter (p : Nat → Bool) : ∀ (h : Heap) (i : Nat), hget (h.filter fun e => p e.1) i = if p i = true then hget h i else none
  | [], i => by simp [hget]
  | (k, o) :: h, i => by
    rw [List.filter_cons]
    by_cases hk : p k = true
    · simp only [hk, if_true, hget_cons, hget_filter p h i]
      by_cases e : k = i
      · subst e; simp [hk]
      · simp [e]
    · rw [if_neg hk, hget_filter p h i, hget_cons]
      by_cases e : k = i
      · subst e; simp [hk]
      · simp [e]

theorem hget_mem : ∀ (h : Heap) (i : Nat) (o : AObj), hget h i = some o → (i, o) ∈ h
  | [], i, o, hh => by simp [hget] at hh
  | (k, o') :: h, i, o, hh => by
    rw [hget_cons] at hh
    split at hh
    · rename_i e; subst e; cases hh; simp
    · exact List.mem_cons_of_mem _ (hget_mem h i o hh)

theorem refsH_mem : ∀ (h : Heap) (e : Nat × AObj), e ∈ h → ∀ i ∈ e.2.refs, i ∈ refsH h
  | [], e, he, i, hi => by simp at he
  | (k, o) :: h, e, he, i, hi => by
    simp only [refsH, List.mem_append]
    rcases List.mem_cons.1 he with e1 | e1
    · left; rw [e1] at hi; exact hi
    · right; exact refsH_mem h e e1 i hi

theorem noneOf_spec {d l : List Nat} (h : noneOf d l = true) : ∀ i ∈ l, i ∉ d := by
  intro i hi hd
  have := List.all_eq_true.1 h i hi
  simp only [Bool.not_eq_true', memN] at this
  have h2 : d.any (Nat.beq i) = true := List.any_eq_true.2 ⟨i, hd, by simp⟩
  rw [h2] at this; cases this

/-- what is left of the memory -/
theorem Cx.keeps_filter {c : Cx} {p : Nat → Bool} {l : List Nat} (hno : ∀ i ∈ l, i ∉ ((c.hp.filter fun e => !p e.1).map (·.1))) : c.Keeps { c with hp := c.hp.filter fun e => p e.1 } l := by
  refine ⟨fun b hb => ⟨⟨hb.1, ?_, hb.2.2⟩, rfl⟩, fun i hi hk => ?_, fun i hi o' ho => ?_⟩
  · rintro ⟨i, o, h1, h2⟩
    rw [hget_filter] at h1
    split at h1
    · exact hb.2.1 ⟨i, o, h1, h2⟩
    · cases h1
  · rcases hk with ⟨o, ho⟩ | hk
    · left
      refine ⟨o, ?_⟩
      rw [hget_filter]
      split
      · exact ho
      · rename_i hp
        exfalso
        refine hno i hi (List.mem_map.2 ⟨(i, o), List.mem_filter.2 ⟨hget_mem _ _ _ ho, by simp [hp]⟩, rfl⟩)
    · exact .inr hk
  · rw [hget_filter] at ho
    split at ho
    · exact ⟨o', ho, o'.like_refl _⟩
    · cases ho

section
variable {P : Program} {T : TT} {W0 : World} {b0 n : Nat} {rd : Option Nat} {c : Cx} {R : Type} {r : R} {st : St} {a : Act} {ats : List (Array Value)}

theorem out_filter (c : Cx) (p : Nat → Bool) : ∀ b, c.out b → ({ c with hp := c.hp.filter fun e => p e.1 } : Cx).out b ∧ ({ c with hp := c.hp.filter fun e => p e.1 } : Cx).w.heap[b]? = c.w.heap[b]? := fun b hb => ⟨⟨hb.1, (by
  rintro ⟨i, o, h1, h2⟩
  simp only at h1 h2
  rw [hget_filter] at h1
  split at h1
  · exact hb.2.1 ⟨i, o, h1, h2⟩
  · cases h1), hb.2.2⟩, rfl⟩

theorem Cx.Ok.filter (hc : c.Ok W0) {p : Nat → Bool} (hk : c.Keeps { c with hp := c.hp.filter fun e => p e.1 } (refsH (c.hp.filter fun e => p e.1))) : ({ c with hp := c.hp.filter fun e => p e.1 } : Cx).Ok W0 := by
  have sub : ∀ i o, hget (c.hp.filter fun e => p e.1) i = some o → hget c.hp i = some o := fun i o h => by
    rw [hget_filter] at h
    split at h
    · exact h
    · cases h
  refine ⟨hc.bel, fun i o ho => ?_, fun i j o q b h1 h2 => hc.inj i j o q b (sub i o h1) (sub j q h2), hc.mks, fun b hb => ⟨(hc.bar b hb).1, (fun ⟨i, o, h1, h2⟩ => (hc.bar b hb).2.1 ⟨i, o, sub i o h1, h2⟩), (hc.bar b hb).2.2⟩, hc.phi⟩
  have h0 := hc.obj i o (sub i o ho)
  have hm := hget_mem _ _ _ ho
  cases o with
  | box e cs =>
    obtain ⟨h1, vs, h2, h3, h4⟩ := h0
    exact ⟨h1, vs, h2, VRels.keeps _ _ (hk.sub fun j hj => refsH_mem _ _ hm j hj) h3, h4⟩
  | arr t ver xs =>
    obtain ⟨h0, e, zs, h1, h2, h3⟩ := h0
    exact ⟨h0, e, zs, h1, LRel.mono (DRel.mono hk.free t) _ _ h2, h3⟩
  | lp f fr ps asg bd ky n p =>
    obtain ⟨h0, h1, L, h2, h3, h4⟩ := h0
    exact ⟨h0, h1, L, h2, VRels.keeps _ _ (hk.sub fun j hj => refsH_mem _ _ hm j hj) h3, h4⟩
  | dead => trivial
  | mp kk vk es => exact h0

theorem Rel.gc (hr : Rel W0 b0 rd c st a ats) {mark : Nat} {v : AVal} {u : Value} (hv : VRel c v u) {st' : St} (h : gc mark v st = some st') :
    ∃ c', Rel W0 b0 rd c' st' a ats ∧ VRel c' v u ∧ c.Mono c' ∧ c'.w = c.w ∧ st'.stk = st.stk ∧ st'.fr = st.fr := by
  obtain ⟨fr, stk, hp, nxt⟩ := st
  simp only [Go.Proofs.YtnmaceljkegenaaDoor.gc] at h
  rw [cond_eq_ite] at h
  split at h
  · rename_i hno
    cases h
    have hhp := hr.hp
    simp only at hhp
    subst hhp
    have key : ∀ p : Nat → Bool, noneOf ((c.hp.filter fun e => !p e.1).map (·.1)) (refs v ++ refsL fr ++ refsLL stk ++ refsH (c.hp.filter fun e => p e.1)) = true →
        ∃ c', Rel W0 b0 rd c' ⟨fr, stk, c.hp.filter fun e => p e.1, nxt⟩ a ats ∧ VRel c' v u ∧ c.Mono c' ∧ c'.w = c.w ∧ stk = stk ∧ fr = fr := fun p hno => by
      have hno' := noneOf_spec hno
      have hk := Cx.keeps_filter (c := c) (p := p) hno'
      exact ⟨{ c with hp := c.hp.filter fun e => p e.1 }, ⟨rfl, hr.nxt, hr.ok.filter (p := p) hk.right, VRels.keeps _ _ hk.left.left.right hr.fr, Stk.keeps _ _ hk.left.right hr.stk, hr.df, hr.rd⟩, VRel.keeps _ _ hk.left.left.left hv, ⟨fun _ h => h, fun b L h => ⟨L, h⟩, Nat.le_refl _, rfl, out_filter c p⟩, rfl, rfl, rfl⟩
    exact key (fun i => Nat.blt i mark || memN (reach (c.hp.filter fun e => !Nat.blt e.1 mark) 3 (refs v ++ refsL fr ++ refsLL stk ++ refsH (c.hp.filter fun e => Nat.blt e.1 mark))) i) hno
  · cases h

/-! ### versions -/

theorem hget_map (f : AObj → AObj) : ∀ (h : Heap) (i : Nat), hget (h.map fun e => (e.1, f e.2)) i = (hget h i).map f
  | [], i => rfl
  | (k, o) :: h, i => by
    simp only [List.map_cons, hget_cons, hget_map f h i]
    split <;> rfl

def Cx.anew (c : Cx) : Cx := { c with hp := c.hp.map fun e => (e.1, e.2.anew c.hp) }

theorem AObj.anew_blk (h : Heap) (o : AObj) (l : Loc) : (o.anew h).blk l = o.blk l := by cases o <;> rfl

theorem Cx.anew_get (c : Cx) (i : Nat) : hget c.anew.hp i = (hget c.hp i).map (AObj.anew c.hp) := hget_map _ _ _

theorem Cx.anew_free (c : Cx) : ∀ b, c.free b → c.anew.free b ∧ c.anew.w.heap[b]? = c.w.heap[b]? := fun b hb => ⟨⟨hb.1, by
  rintro ⟨i, o, h1, h2⟩
  rw [Cx.anew_get] at h1
  obtain ⟨o', h3, rfl⟩ := Option.map_eq_some_iff.1 h1
  rw [AObj.anew_blk] at h2
  exact hb.2.1 ⟨i, o', h3, h2⟩, hb.2.2⟩, rfl⟩

theorem Cx.anew_out (c : Cx) : ∀ b, c.out b → c.anew.out b ∧ c.anew.w.heap[b]? = c.w.heap[b]? := fun b hb => ⟨⟨hb.1, (by
  rintro ⟨i, o, h1, h2⟩
  rw [Cx.anew_get] at h1
  obtain ⟨o', h3, rfl⟩ := Option.map_eq_some_iff.1 h1
  rw [AObj.anew_blk] at h2
  exact hb.2.1 ⟨i, o', h3, h2⟩), hb.2.2⟩, rfl⟩

theorem Cx.anew_known (c : Cx) {i : Nat} (h : c.known i) : c.anew.known i := by
  rcases h with ⟨o, ho⟩ | h
  · exact .inl ⟨_, by rw [Cx.anew_get, ho]; rfl⟩
  · exact .inr h

theorem fresh1_spec {h : Heap} {id ver : Nat} (hf : fresh1 h id ver = true) : ∃ t xs, hget h id = some (.arr t ver xs) := by
  simp only [fresh1, verOf] at hf
  cases ho : hget h id with
  | none => rw [ho] at hf; cases hf
  | some o =>
    rw [ho] at hf
    cases o with
    | arr t v xs => simp only [beq_iff_eq] at hf; subst hf; exact ⟨t, xs, rfl⟩
    | _ => cases hf

mutual
theorem VRel.anew {c : Cx} : ∀ (v : AVal) (x : Value), VRel c v x → VRel c.anew (Go.Proofs.YtnmaceljkegenaaDoor.anew c.hp v) x
  | .undef, _, _ => by simp [VRel, Go.Proofs.YtnmaceljkegenaaDoor.anew]
  | .val t x, v, hv => by
    simp only [VRel, Go.Proofs.YtnmaceljkegenaaDoor.anew] at hv ⊢
    exact ⟨fun e => let ⟨cs, h1, h2⟩ := hv.1 e; ⟨cs, h1, DRel.mono c.anew_free t x _ h2⟩, fun e => DRel.mono c.anew_free t x _ (hv.2 e)⟩
  | .nils, _, hv => by simpa only [VRel, Go.Proofs.YtnmaceljkegenaaDoor.anew] using hv
  | .emp, _, hv => by simpa only [VRel, Go.Proofs.YtnmaceljkegenaaDoor.anew] using hv
  | .lst t x b, v, hv => by
    simp only [VRel, Go.Proofs.YtnmaceljkegenaaDoor.anew] at hv ⊢
    exact ⟨⟨fun e => let ⟨cs, h1, h2⟩ := hv.1.1 e; ⟨cs, h1, DRel.mono c.anew_free (.list t) x _ h2⟩, fun e => DRel.mono c.anew_free (.list t) x _ (hv.1.2 e)⟩, hv.2⟩
  | .nilp, _, hv => by simpa only [VRel, Go.Proofs.YtnmaceljkegenaaDoor.anew] using hv
  | .nilfn, _, hv => by simpa only [VRel, Go.Proofs.YtnmaceljkegenaaDoor.anew] using hv
  | .tup l, v, hv => by simp only [VRel, Go.Proofs.YtnmaceljkegenaaDoor.anew] at hv ⊢; obtain ⟨vs, h1, h2⟩ := hv; exact ⟨vs, h1, VRels.anew l _ h2⟩
  | .agg l, v, hv => by simp only [VRel, Go.Proofs.YtnmaceljkegenaaDoor.anew] at hv ⊢; obtain ⟨vs, h1, h2, h3⟩ := hv; exact ⟨vs, h1, VRels.anew l _ h2, h3⟩
  | .cellp t x, v, hv => by
    simp only [VRel, Go.Proofs.YtnmaceljkegenaaDoor.anew] at hv ⊢
    obtain ⟨b, o, zs, h1, h2, h3, h4⟩ := hv
    exact ⟨b, o, zs, h1, (c.anew_free b h2).1, h3.of_block (c.anew_free b h2).2, DRel.mono c.anew_free t x _ h4⟩
  | .ptr id off, v, hv => by
    simp only [VRel, Go.Proofs.YtnmaceljkegenaaDoor.anew] at hv ⊢
    obtain ⟨hone, hv⟩ := hv
    refine ⟨hone, c.anew_known hv.1, fun t cs hc => ?_⟩
    rw [Cx.anew_get] at hc
    obtain ⟨o, h1, h2⟩ := Option.map_eq_some_iff.1 hc
    cases o <;> simp only [AObj.anew, reduceCtorEq] at h2
    exact hv.2 _ _ h1
  | .slf id, v, hv => by
    simp only [VRel, Go.Proofs.YtnmaceljkegenaaDoor.anew] at hv ⊢
    obtain ⟨hone, hv⟩ := hv
    refine ⟨hone, c.anew_known hv.1, fun t cs hc => ?_⟩
    rw [Cx.anew_get] at hc
    obtain ⟨o, h1, h2⟩ := Option.map_eq_some_iff.1 hc
    cases o <;> simp only [AObj.anew, reduceCtorEq] at h2
    exact hv.2 _ _ h1
  | .sd id ver, v, hv => by
    simp only [VRel, Go.Proofs.YtnmaceljkegenaaDoor.anew] at hv ⊢
    rw [cond_eq_ite]
    split
    · rename_i hf
      obtain ⟨t0, xs0, h0⟩ := fresh1_spec hf
      simp only [VRel]
      obtain ⟨hone, hv⟩ := hv
      refine ⟨hone, c.anew_known hv.1, fun t u xs hc => ⟨Nat.zero_le _, fun hu => ?_⟩⟩
      exact (hv.2 _ _ _ h0).2 rfl
    · simp [VRel]
  | .slc id ver vw, v, hv => by
    simp only [VRel, Go.Proofs.YtnmaceljkegenaaDoor.anew] at hv ⊢
    rw [cond_eq_ite]
    split
    · rename_i hf
      obtain ⟨t0, xs0, h0⟩ := fresh1_spec hf
      simp only [VRel]
      obtain ⟨hone, hv⟩ := hv
      refine ⟨hone, c.anew_known hv.1, fun t u xs hc => ⟨Nat.zero_le _, fun hu => ?_⟩⟩
      rw [Cx.anew_get, h0] at hc
      simp only [Option.map_some, AObj.anew, Option.some.injEq, AObj.arr.injEq] at hc
      obtain ⟨e1, _, _⟩ := hc
      rw [← e1]
      exact (hv.2 _ _ _ h0).2 rfl
    · simp [VRel]
  | .ep id ver i off, v, hv => by
    simp only [VRel, Go.Proofs.YtnmaceljkegenaaDoor.anew] at hv ⊢
    rw [cond_eq_ite]
    split
    · rename_i hf
      obtain ⟨t0, xs0, h0⟩ := fresh1_spec hf
      simp only [VRel]
      obtain ⟨hone, hv⟩ := hv
      refine ⟨hone, c.anew_known hv.1, fun t u xs hc => ⟨Nat.zero_le _, fun hu => ?_⟩⟩
      rw [Cx.anew_get, h0] at hc
      simp only [Option.map_some, AObj.anew, Option.some.injEq, AObj.arr.injEq] at hc
      obtain ⟨e1, _, _⟩ := hc
      rw [← e1]
      exact (hv.2 _ _ _ h0).2 rfl
    · simp [VRel]
  | .fn f l, v, hv => by simp only [VRel, Go.Proofs.YtnmaceljkegenaaDoor.anew] at hv ⊢; obtain ⟨vs, h1, h2⟩ := hv; exact ⟨vs, h1, VRels.anew l _ h2⟩
  | .mfn f l, v, hv => by simp only [VRel, Go.Proofs.YtnmaceljkegenaaDoor.anew] at hv ⊢; obtain ⟨vs, h1, h2⟩ := hv; exact ⟨vs, h1, VRels.anew l _ h2⟩
  | .mpv id, v, hv => by
    simp only [VRel, Go.Proofs.YtnmaceljkegenaaDoor.anew] at hv ⊢
    obtain ⟨hone, hv⟩ := hv
    refine ⟨hone, c.anew_known hv.1, fun kk vk es hc => ?_⟩
    rw [Cx.anew_get] at hc
    obtain ⟨o, h1, h2⟩ := Option.map_eq_some_iff.1 hc
    cases o <;> simp only [AObj.anew, reduceCtorEq] at h2
    exact hv.2 _ _ _ h1
  | .yld id, v, hv => by
    simp only [VRel, Go.Proofs.YtnmaceljkegenaaDoor.anew] at hv ⊢
    obtain ⟨hone, hv⟩ := hv
    refine ⟨hone, c.anew_known hv.1, fun f fr ps asg bd ky n p hc => ?_⟩
    rw [Cx.anew_get] at hc
    obtain ⟨o, h1, h2⟩ := Option.map_eq_some_iff.1 hc
    cases o <;> simp only [AObj.anew, reduceCtorEq] at h2
    exact hv.2 _ _ _ _ _ _ _ _ h1
theorem VRels.anew {c : Cx} : ∀ (l : List AVal) (xs : List Value), VRels c l xs → VRels c.anew (anewL c.hp l) xs
  | [], [], _ => by simp [VRels, anewL]
  | v :: l, x :: xs, hv => by
    simp only [VRels, anewL] at hv ⊢; exact ⟨VRel.anew v x hv.1, VRels.anew l xs hv.2⟩
  | [], _ :: _, hv => by simp [VRels] at hv
  | _ :: _, [], hv => by simp [VRels] at hv
end

theorem Stk.anew {c : Cx} : ∀ (fs : List (List AVal)) (ts : List (Array Value)), Stk c fs ts → Stk c.anew (fs.map (anewL c.hp)) ts
  | [], [], _ => trivial
  | f :: fs, t :: ts, hh => ⟨VRels.anew _ _ hh.1, Stk.anew fs ts hh.2⟩
  | [], _ :: _, hh => hh.elim
  | _ :: _, [], hh => hh.elim

theorem Rel.anew (hr : Rel W0 b0 rd c st a ats) : ∃ c', Rel W0 b0 rd c' (anewSt st) a ats ∧ c.Mono c' ∧ c'.w = c.w := by
  obtain ⟨fr, stk, hp, nxt⟩ := st
  have hhp := hr.hp
  simp only at hhp
  subst hhp
  refine ⟨c.anew, ⟨rfl, hr.nxt, ⟨hr.ok.bel, fun i o ho => ?_, fun i j o q b h1 h2 h3 h4 => ?_, hr.ok.mks, fun b hb => (Cx.anew_out c b (hr.ok.bar b hb)).1, hr.ok.phi⟩, VRels.anew _ _ hr.fr, Stk.anew _ _ hr.stk, hr.df, hr.rd⟩, ⟨fun _ h => h, fun b L h => ⟨L, h⟩, Nat.le_refl _, rfl, Cx.anew_out c⟩, rfl⟩
  · rw [Cx.anew_get] at ho
    obtain ⟨o', h1, rfl⟩ := Option.map_eq_some_iff.1 ho
    have h0 := hr.ok.obj i o' h1
    cases o' with
    | box e cs =>
      obtain ⟨h1, vs, h2, h3, h4⟩ := h0
      exact ⟨h1, vs, h2, VRels.anew _ _ h3, h4⟩
    | arr t ver xs =>
      obtain ⟨h0, e, zs, h1, h2, h3⟩ := h0
      exact ⟨h0, e, zs, h1, LRel.mono (DRel.mono c.anew_free t) _ _ h2, h3⟩
    | lp f fr ps asg bd ky n p =>
      obtain ⟨h0, h1, L, h2, h3, h4⟩ := h0
      exact ⟨h0, h1, L, h2, VRels.anew _ _ h3, h4⟩
    | dead => trivial
    | mp kk vk es => exact h0
  · rw [Cx.anew_get] at h1 h2
    obtain ⟨o1, h5, rfl⟩ := Option.map_eq_some_iff.1 h1
    obtain ⟨q1, h6, rfl⟩ := Option.map_eq_some_iff.1 h2
    rw [AObj.anew_blk] at h3 h4
    exact hr.ok.inj i j o1 q1 b h5 h6 h3 h4

/-! ### what stays -/

theorem keepL_rel {l : List Nat} : ∀ (i : Nat) (fr : List AVal) (xs : List Value), VRels c fr xs → VRels c (keepL l i fr) xs
  | i, [], [], _ => by simp [VRels, keepL]
  | i, v :: fr, x :: xs, h => by
    simp only [VRels, keepL] at h ⊢
    refine ⟨?_, keepL_rel (i + 1) fr xs h.2⟩
    rw [cond_eq_ite]
    split
    · exact h.1
    · simp [VRel]
  | i, [], _ :: _, h => by simp [VRels] at h
  | i, _ :: _, [], h => by simp [VRels] at h

end
end Go.Proofs.YtnmaceljkegenaaDoor
