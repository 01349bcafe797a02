/-
  The plain machine: parts, places, fields, lengths.
-/
import Derived.Test.YtnmaceljkegenaaDoorAf
namespace Go.Proofs.YtnmaceljkegenaaDoor
open Go.RowKit
set_option linter.unusedVariables false
set_option linter.unusedSimpArgs false

section
variable {P : Program} {T : TT} {W0 : World} {c : Cx} {R : Type} {r : R} {t : TypeId}

theorem intOf_rel {v : AVal} {n : Int} (h : intOf v = some n) {u : Value} (hv : VRel c v u) : ∃ k, u = .int k n := by
  cases v with
  | val t x =>
    cases t <;> simp only [intOf, reduceCtorEq] at h
    cases h
    simp only [VRel] at hv
    exact ⟨_, hv.int_inv⟩
  | _ => simp [intOf] at h

def OptRel (c : Cx) : Option AVal → Option Value → Prop
  | none, none => True
  | some v, some u => VRel c v u
  | _, _ => False

theorem OptRel.map {fr : List AVal} {a : Act} (h : VRels c fr a.tmps.toList) (x : Option Operand) : OptRel c (x.map (evalO fr)) (x.map a.eval) := by
  cases x with
  | none => trivial
  | some x => exact evalO_rel h x

theorem OptRel.none_inv {u : Option Value} (h : OptRel c none u) : u = none := by
  cases u with
  | none => rfl
  | some _ => exact h.elim

theorem bound_rel {d l : Int} {x : Option AVal} {u : Option Value} (h : bound d x = some l) (hr : OptRel c x u) : (u = none ∧ l = d) ∨ ∃ k, u = some (.int k l) := by
  cases x with
  | none =>
    cases u with
    | none => simp only [bound, Option.some.injEq] at h; exact .inl ⟨rfl, h.symm⟩
    | some _ => exact hr.elim
  | some x =>
    cases u with
    | none => exact hr.elim
    | some u =>
      obtain ⟨k, rfl⟩ := intOf_rel h hr
      exact .inr ⟨k, rfl⟩

theorem run_sliceBounds {w : World} {isS : Bool} {n cap : Nat} {l h : Int} {lo hi : Option Value} (hl : (lo = none ∧ l = 0) ∨ ∃ k, lo = some (.int k l)) (hh : (hi = none ∧ h = (n : Int)) ∨ ∃ k, hi = some (.int k h))
    (h0 : 0 ≤ l) (h1 : l ≤ h) (h2 : h ≤ (n : Int)) (h3 : n ≤ cap) : (Instr.sliceBounds isS n cap lo hi none).run P w = .ok (l.toNat, h.toNat, cap) w := by
  have b1 : ∀ k code, (Instr.sliceBound (.int k h) cap code).run P w = .ok h.toNat w := fun k code => by
    simp only [Instr.sliceBound, asIntOf, Sem.run_bind, Sem.run_pure, Result.andThen_ok]
    rw [if_pos ⟨by omega, by omega⟩]; rfl
  have b2 : ∀ k code, (Instr.sliceBound (.int k l) h.toNat code).run P w = .ok l.toNat w := fun k code => by
    simp only [Instr.sliceBound, asIntOf, Sem.run_bind, Sem.run_pure, Result.andThen_ok]
    rw [if_pos ⟨by omega, by omega⟩]; rfl
  rcases hl with ⟨rfl, rfl⟩ | ⟨k, rfl⟩ <;> rcases hh with ⟨rfl, rfl⟩ | ⟨k', rfl⟩ <;> simp [Instr.sliceBounds, Sem.run_bind, b1, b2]
  · have := b2 k .sliceB
    simp at this
    simp [this]

theorem run_sliceBounds3 {w : World} {n cap : Nat} {lo : Option Value} {q k : IntKind} (hl : (lo = none ∧ (0 : Int) = 0) ∨ ∃ k, lo = some (.int k 0)) :
    (Instr.sliceBounds true n cap lo (some (.int q 0)) (some (.int k 0))).run P w = .ok (0, 0, 0) w := by
  have b1 : ∀ k c code, (Instr.sliceBound (.int k 0) c code).run P w = .ok 0 w := fun k c code => by
    simp only [Instr.sliceBound, asIntOf, Sem.run_bind, Sem.run_pure, Result.andThen_ok]
    rw [if_pos ⟨by omega, by omega⟩]; rfl
  rcases hl with ⟨rfl, _⟩ | ⟨k', rfl⟩ <;> simp [Instr.sliceBounds, Sem.run_bind, b1]

theorem partI_spec {n lo hi : Int} (h : partI n lo hi = true) : 0 ≤ lo ∧ lo ≤ hi ∧ hi ≤ n := by
  simp only [partI, Bool.and_eq_true, decide_eq_true_eq] at h
  exact ⟨h.1, h.2.1, h.2.2⟩

theorem sub_length {α : Type} (l : List α) {lo hi : Int} (h1 : 0 ≤ lo) (h2 : lo ≤ hi) (h3 : hi ≤ (l.length : Int)) : (sub l lo hi).length = hi.toNat - lo.toNat := by
  unfold sub; simp; omega

theorem list_inv {e : Ty} {xs : List e.den} {v : Value} (h : VD c (.list e) xs v) : ∃ a n zs, v = .slice a xs.length n ∧ xs.length ≤ n ∧ LRel (DRel c.w c.free e) e.size xs zs ∧ (zs = [] ∨ ∃ b off, a = some ⟨b, off, none⟩ ∧ c.free b ∧ CellsAt c.w b off zs) := by
  obtain ⟨a, n, zs, h1, h2, h3, h4⟩ := h.2 rfl
  simp only [List.cons.injEq, and_true] at h1
  exact ⟨a, n, zs, h1, h2, h3, h4⟩

theorem VD.sub_list {e : Ty} {xs : List e.den} {a : Option Addr} {n : Nat} {zs : List Value} (h2 : xs.length ≤ n) (h3 : LRel (DRel c.w c.free e) e.size xs zs) (h4 : zs = [] ∨ ∃ b off, a = some ⟨b, off, none⟩ ∧ c.free b ∧ CellsAt c.w b off zs)
    {l h : Int} (p1 : 0 ≤ l) (p2 : l ≤ h) (p3 : h ≤ (xs.length : Int)) :
    VD c (.list e) (sub xs l h) (.slice (if n = l.toNat then a else a.map (·.add (l.toNat * e.size))) (h.toNat - l.toNat) (n - l.toNat)) := by
  refine (VD.leaf rfl).2 ⟨_, _, (zs.take (h.toNat * e.size)).drop (l.toNat * e.size), by rw [sub_length xs p1 p2 p3], by rw [sub_length xs p1 p2 p3]; omega, LRel.drop _ _ _ (LRel.take _ _ _ h3), ?_⟩
  by_cases hn : n = l.toNat
  · left
    have : h.toNat = l.toNat := by omega
    rw [this]
    apply List.drop_of_length_le
    simp; omega
  · rw [if_neg hn]
    rcases h4 with h4 | ⟨b, off, h5, h6, h7⟩
    · left; rw [h4]; simp
    · right
      refine ⟨b, off + l.toNat * e.size, by rw [h5]; simp [addr_add'], h6, ?_⟩
      have := h7.sub (l.toNat * e.size) (h.toNat * e.size - l.toNat * e.size)
      rw [List.drop_take]
      exact this

theorem q_slice (hT : TOk P T) (hok : c.Ok W0) {x : AVal} {v : Value} {lo hi mx : Option AVal} {lo' hi' mx' : Option Value} {K : AVal → Option R} (h : evSlice T c.hp t x lo hi mx K = some r) (hx : VRel c x v)
    (hlo : OptRel c lo lo') (hhi : OptRel c hi hi') (hmx : OptRel c mx mx') : ∃ z u, K z = some r ∧ VRel c z u ∧ ∀ w, (Instr.sliceAt t v lo' hi' mx').run P w = .ok u w := by
  unfold evSlice at h
  split at h
  · rename_i s
    split at h
    · rename_i l hh hl hhh
      replace h := need_some h
      obtain ⟨h1, h⟩ := h
      simp only [Bool.and_eq_true] at h1
      obtain ⟨p1, p2, p3⟩ := partI_spec h1.2
      simp only [VRel] at hx
      obtain rfl := hx.str_inv
      have hm : mx' = none := OptRel.none_inv hmx
      subst hm
      have hu := isStr_und hT h1.1
      refine ⟨_, .string ⟨(sub s l hh).toArray⟩, h, by simp only [VRel]; exact VD.str_mk, fun w => ?_⟩
      have hs : (⟨s.toArray⟩ : ByteArray).size = s.length := by simp [ByteArray.size]
      have hb := run_sliceBounds (P := P) (w := w) (isS := false) (cap := s.length) (bound_rel hl hlo) (bound_rel hhh hhi) p1 p2 p3 (Nat.le_refl _)
      have he : (⟨s.toArray⟩ : ByteArray).extract l.toNat hh.toNat = ⟨(sub s l hh).toArray⟩ := by
        apply ByteArray.ext
        rw [ByteArray.data_extract]
        apply Array.ext'
        simp [sub, List.extract_eq_take_drop, List.drop_take]
      simp only [Instr.sliceAt, Instr.slice, Sem.run_bind, run_underlying hu, Result.andThen_ok, Option.isSome_none, Bool.false_eq_true, if_false, hs, hb, Sem.run_pure, he]
    · cases h
  · rename_i e xs
    split at h
    · rename_i l hh hl hhh
      replace h := need_some h
      obtain ⟨h1, h⟩ := h
      simp only [Bool.and_eq_true] at h1
      obtain ⟨p1, p2, p3⟩ := partI_spec h1.2
      simp only [lenI] at p3
      simp only [VRel] at hx
      obtain ⟨a, n, zs, rfl, h2, h3, h4⟩ := list_inv hx
      have hm : mx' = none := OptRel.none_inv hmx
      subst hm
      obtain ⟨et, hu, hk, hsz, _, _⟩ := rowOf_und hT h1.1
      refine ⟨_, _, h, by simp only [VRel]; exact VD.sub_list h2 h3 h4 p1 p2 p3, fun w => ?_⟩
      have hb := run_sliceBounds (P := P) (w := w) (isS := true) (n := xs.length) (cap := n) (bound_rel hl hlo) (bound_rel hhh hhi) p1 p2 p3 h2
      simp only [Instr.sliceAt, Instr.slice, Sem.run_bind, run_underlying hu, Result.andThen_ok, hb, hT.sizeOf hk w, Sem.run_pure, hsz]
    · cases h
  · rename_i e xs mv
    split at h
    · rename_i l hh k hl hhh hk3
      replace h := need_some h
      obtain ⟨h1, h⟩ := h
      simp only [Bool.and_eq_true, beq_iff_eq] at h1
      obtain ⟨h1, rfl, rfl, rfl⟩ := h1
      simp only [VRel] at hx
      obtain ⟨a, n, zs, rfl, h2, h3, h4⟩ := list_inv hx
      obtain ⟨et, hu, hk, hsz, _, _⟩ := rowOf_und hT h1
      obtain ⟨hv, rfl, hhv⟩ := Option.bind_eq_some_iff.1 hhh
      cases hmx' : mx' with
      | none => rw [hmx'] at hmx; exact absurd hmx (by simp [OptRel])
      | some m2 =>
        rw [hmx'] at hmx
        cases hhi' : hi' with
        | none => rw [hhi'] at hhi; exact absurd hhi (by simp [OptRel])
        | some h2' =>
          rw [hhi'] at hhi
          obtain ⟨q, rfl⟩ := intOf_rel hhv (show VRel c hv h2' from hhi)
          obtain ⟨k', rfl⟩ := intOf_rel hk3 (show VRel c mv m2 from hmx)
          refine ⟨_, .slice a 0 0, h, by simp only [VRel]; exact ⟨a, rfl⟩, fun w => ?_⟩
          have hb := run_sliceBounds3 (P := P) (w := w) (n := xs.length) (cap := n) (q := q) (k := k') (bound_rel hl hlo)
          simp only [Instr.sliceAt, Instr.slice, Sem.run_bind, run_underlying hu, Result.andThen_ok, hb, hT.sizeOf hk w, Sem.run_pure]
          simp
    · cases h
  · split at h
    · rename_i l hh hl hhh
      replace h := need_some h
      obtain ⟨h1, h⟩ := h
      simp only [Bool.and_eq_true, eqI, beq_iff_eq] at h1
      obtain ⟨h1, rfl, rfl⟩ := h1
      simp only [VRel] at hx
      subst hx
      have hm : mx' = none := OptRel.none_inv hmx
      subst hm
      obtain ⟨et, hu, hk, hsz, _, _⟩ := rowOf_und hT h1
      refine ⟨_, .slice none 0 0, h, by simp only [VRel], fun w => ?_⟩
      have hb := run_sliceBounds (P := P) (w := w) (isS := true) (n := 0) (cap := 0) (bound_rel hl hlo) (bound_rel hhh hhi) (Int.le_refl _) (Int.le_refl _) (Int.le_refl _) (Nat.le_refl _)
      simp only [Instr.sliceAt, Instr.slice, Sem.run_bind, run_underlying hu, Result.andThen_ok, hb, hT.sizeOf hk w, Sem.run_pure]
      simp
    · cases h
  · rename_i id ver
    split at h
    · rename_i e u xs harr
      replace h := bif_some h
      obtain ⟨h0, h⟩ := h
      have h0 : u = ver := by simpa using h0
      subst h0
      split at h
      · rename_i l hh hl hhh
        replace h := need_some h
        obtain ⟨h1, h⟩ := h
        simp only [Bool.and_eq_true] at h1
        obtain ⟨p1, p2, p3⟩ := partI_spec h1.2
        simp only [lenI] at p3
        simp only [VRel] at hx
        have hx1 := (hx.2.2 _ _ _ harr).2 rfl
        simp only [ViewIs] at hx1
        have hm : mx' = none := OptRel.none_inv hmx
        subst hm
        obtain ⟨et, hu, hk, hsz, _, _⟩ := rowOf_und hT h1.1
        obtain ⟨_, e', zs, hown, hL, hty⟩ := hok.obj id _ harr
        obtain ⟨a, n, hv, hn⟩ : ∃ a n, (c.mu id).v = .slice a xs.length n ∧ xs.length ≤ n := by
          rcases hown.2 with ⟨e1, e2⟩ | ⟨g, cap, cur, e1, _, _, e2, _⟩
          · exact ⟨none, 0, by rw [e1, e2], by omega⟩
          · exact ⟨_, _, e1, e2⟩
        rw [hv] at hx1
        subst hx1
        refine ⟨_, .slice (if n = l.toNat then a else a.map (·.add (l.toNat * e.size))) (hh.toNat - l.toNat) (n - l.toNat), h, ?_, fun w => ?_⟩
        · simp only [VRel]
          refine ⟨rfl, hx.2.1, fun t' u' xs' h' => ?_⟩
          rw [harr] at h'
          cases h'
          exact ⟨Nat.le_refl _, fun _ => ⟨a, xs.length, n, hv, p1, p2, p3, rfl⟩⟩
        · have hb := run_sliceBounds (P := P) (w := w) (isS := true) (n := xs.length) (cap := n) (bound_rel hl hlo) (bound_rel hhh hhi) p1 p2 p3 hn
          simp only [Instr.sliceAt, Instr.slice, Sem.run_bind, run_underlying hu, Result.andThen_ok, hb, hT.sizeOf hk w, Sem.run_pure, hsz]
      · cases h
    · cases h
  · cases h
end
end Go.Proofs.YtnmaceljkegenaaDoor
