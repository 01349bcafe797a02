/-
  The plain machine: an argument that reads as a tree of data is a datum.
-/
import Derived.Test.YtnmaceljkegenaaDoorBc
import Derived.ChangeArms
import Derived.WideShapes
namespace Go.Proofs.YtnmaceljkegenaaDoor
open Go.RowKit
set_option linter.unusedVariables false
set_option linter.unusedSimpArgs false

/-- all types of a table are known -/
def TT.allK : TT → Bool
  | .nil => true
  | .node _ i l r => i.known && (l.allK && r.allK)

theorem TT.allK_at : ∀ (T : TT) (t : TypeId), T.allK = true → (T.at t).ty.isSome = true → (T.at t).known = true
  | .nil, t, _, h => by simp [TT.at] at h; cases h
  | .node k i l r, t, h, h2 => by
    simp only [TT.allK, Bool.and_eq_true] at h
    simp only [TT.at] at h2 ⊢
    by_cases e : Nat.beq k t = true
    · simp only [e, cond_true] at h2 ⊢; exact h.1
    · have e' : Nat.beq k t = false := (Bool.not_eq_true _).mp e
      simp only [e', cond_false] at h2 ⊢
      by_cases e2 : Nat.blt t k = true
      · simp only [e2, cond_true] at h2 ⊢; exact TT.allK_at l t h.2.1 h2
      · have e2' : Nat.blt t k = false := (Bool.not_eq_true _).mp e2
        simp only [e2', cond_false] at h2 ⊢; exact TT.allK_at r t h.2.2 h2

/-- a datum whose numbers, texts and rows are of the sizes that there are -/
def wfD : (t : Ty) → t.den → Prop
  | .unit, _ => True
  | .bool, _ => True
  | .int k, x => (Lit.int k x).wf = true
  | .str, x => x.length ≤ maxLen
  | .list e, xs => xs.length ≤ maxLen ∧ ∀ x ∈ xs, wfD e x
  | .pair a b, x => wfD a x.1 ∧ wfD b x.2

section
variable {P : Program} {T : TT} {w : World} {H : Type} {enc : TypeId × Value → H} {spare : Nat → Bool} {held : Bool}

theorem und_of {t : TypeId} {k : TK} (h : (P.underlying t).map descK = some (some k)) : ∃ d, P.underlying t = some d ∧ descK d = some k := by
  cases hu : P.underlying t with
  | none => rw [hu] at h; cases h
  | some d => rw [hu] at h; exact ⟨d, rfl, by simpa using h⟩

theorem cellsOf_of (hT : TOk P T) {t : TypeId} (hk : (T.at t).known = true) : P.cellsOf t = (T.at t).size := by
  obtain ⟨h, _⟩ := hT t hk
  unfold Program.cellsOf
  cases hi : P.info? t with
  | none => rw [hi] at h; cases h
  | some f =>
    rw [hi] at h
    simp only [Option.map_some, Option.some.injEq, Prod.mk.injEq] at h
    simp [h.1]

theorem cell_lt {a : Addr} {v : Value} (h : w.cell? a = some v) : a.block < w.heap.size ∧ a.spot = none := by
  unfold World.cell? at h
  split at h
  · rename_i hb
    refine ⟨(Array.getElem?_eq_some_iff.1 hb).1, ?_⟩
    split at h
    · cases h
    · rename_i hs
      cases hsp : a.spot with
      | none => rfl
      | some _ => rw [hsp] at hs; simp at hs
  · cases h

theorem addr_add_add (a : Addr) (x m : Nat) : (a.add x).add m = a.add (x + m) := by
  unfold Addr.add
  by_cases h1 : x = 0 <;> by_cases h2 : m = 0 <;> simp_all [Nat.add_assoc]

theorem rows_rel {e : Ty} {size : Nat} (hsz : e.size = size) {a : Addr} {len : Nat} {F : List Value → Option (DataW H × List MemPlace)} (hF : ∀ cs y, F cs = some y → ∃ x : e.den, DRel w (fun b => b < w.heap.size) e x cs ∧ wfD e x)
    (h : ∀ i, i < len → ∃ y, (w.cells? 0 (a.add (i * size)) size).bind F = some y) : ∀ (k j : Nat), j + k ≤ len →
    ∃ (xs : List e.den) (zs : List Value), xs.length = k ∧ LRel (DRel w (fun b => b < w.heap.size) e) e.size xs zs ∧ (∀ m (hm : m < zs.length), w.cell? (a.add (j * size + m)) = some zs[m]) ∧ ∀ x ∈ xs, wfD e x
  | 0, j, _ => ⟨[], [], rfl, rfl, fun m hm => absurd hm (by simp), fun x hx => by cases hx⟩
  | k + 1, j, hj => by
    obtain ⟨xs, zs, h1, h2, h3, h4⟩ := rows_rel hsz hF h k (j + 1) (by omega)
    obtain ⟨y, hy⟩ := h j (by omega)
    obtain ⟨c, hc, hy⟩ := Option.bind_eq_some_iff.1 hy
    obtain ⟨x, hx, hwf⟩ := hF c y hy
    have hcl : c.length = e.size := DRel.length e x c hx
    have hcell : ∀ m (hm : m < c.length), w.cell? (a.add (j * size + m)) = some c[m] := fun m hm => by
      simp only [World.cells?, Nat.zero_le, if_true] at hc
      have := mapM_some_get hc m m (by rw [List.getElem?_range (by omega)])
      rw [List.getElem?_eq_getElem hm] at this
      rw [← this, addr_add_add]
    refine ⟨x :: xs, c ++ zs, by simp [h1], ⟨c, zs, rfl, hcl, hx, h2⟩, fun m hm => ?_, fun z hz => ?_⟩
    · by_cases hmc : m < c.length
      · rw [List.getElem_append_left hmc]; exact hcell m hmc
      · rw [List.getElem_append_right (by omega)]
        have := h3 (m - c.length) (by simp at hm; omega)
        rw [← this, hcl, hsz]
        congr 2
        have : size ≤ m := by omega
        rw [Nat.add_mul]; omega
    · rcases List.mem_cons.1 hz with rfl | hz
      · exact hwf
      · exact h4 z hz

theorem fields_rel (hT : TOk P T) {n : Nat} {cs : List Value} (ih : ∀ (t : TypeId) (cs : List Value) (y : DataW H × List MemPlace) (ty : Ty), (T.at t).known = true → (T.at t).ty = some ty → DataW.trod enc P w 0 spare held n t cs = some y → ∃ x : ty.den, DRel w (fun b => b < w.heap.size) ty x cs ∧ wfD ty x) :
    ∀ (fs : List (Nat × TypeId)) (off : Nat) (ty : Ty), tyFields T off fs = some ty → (∀ p ∈ fs, ∃ y, DataW.trod enc P w 0 spare held n p.2 ((cs.drop p.1).take (P.cellsOf p.2)) = some y) →
      ∃ x : ty.den, DRel w (fun b => b < w.heap.size) ty x ((cs.drop off).take ty.size) ∧ wfD ty x
  | [], off, ty, h, _ => by
    simp only [tyFields, Option.some.injEq] at h
    subst h
    exact ⟨(), by simp [DRel, Ty.size], trivial⟩
  | (o, ft) :: rest, off, ty, h, hall => by
    simp only [tyFields] at h
    split at h
    · rename_i ho
      split at h
      · rename_i a ha
        split at h
        · rename_i hs
          split at h
          · rename_i b hb
            simp only [Option.some.injEq] at h
            subst h ho
            obtain ⟨y, hy⟩ := hall (o, ft) (by simp)
            simp only [cellsOf_of hT hs.2, ← hs.1] at hy
            obtain ⟨x1, h1, h2⟩ := ih ft _ y a hs.2 ha hy
            obtain ⟨x2, h3, h4⟩ := fields_rel hT ih rest _ b hb fun p hp => hall p (List.mem_cons_of_mem _ hp)
            refine ⟨(x1, x2), ⟨_, _, ?_, h1, h3⟩, h2, h4⟩
            simp only [Ty.size]
            rw [List.take_add, List.drop_drop]
          · cases h
        · cases h
      · cases h
    · cases h

theorem trod_rel (hT : TOk P T) (hK : T.allK = true) : ∀ (fuel : Nat) (t : TypeId) (cs : List Value) (y : DataW H × List MemPlace) (ty : Ty), (T.at t).known = true → (T.at t).ty = some ty → DataW.trod enc P w 0 spare held fuel t cs = some y →
    ∃ x : ty.den, DRel w (fun b => b < w.heap.size) ty x cs ∧ wfD ty x
  | 0, t, cs, y, ty, _, _, h => by simp [DataW.trod] at h
  | fuel + 1, t, cs, y, ty, hk, hty, h => by
    obtain ⟨hinfo, hund, hty2, hsz, -, -, -, -⟩ := hT t hk
    obtain ⟨d, hd, hdk⟩ := und_of hund
    have hty3 : tyOfK T (T.at t).k = some ty := by
      rcases hty2 with h1 | h1
      · rw [h1] at hty; cases hty
      · rw [← h1, hty]
    have hc := cellsOf_of hT hk
    have hsize := hsz ty hty
    cases d with
    | bool =>
      simp only [descK, Option.some.injEq] at hdk
      rw [← hdk] at hty3
      simp only [tyOfK, Option.some.injEq] at hty3
      subst hty3
      obtain ⟨b, rfl, _⟩ := DataW.trod_bool hd h
      exact ⟨b, rfl, trivial⟩
    | int k =>
      simp only [descK, Option.some.injEq] at hdk
      rw [← hdk] at hty3
      simp only [tyOfK, Option.some.injEq] at hty3
      subst hty3
      obtain ⟨b, rfl, _, hw⟩ := DataW.trod_int hd h
      exact ⟨b, rfl, hw⟩
    | string =>
      simp only [descK, Option.some.injEq] at hdk
      rw [← hdk] at hty3
      simp only [tyOfK, Option.some.injEq] at hty3
      subst hty3
      obtain ⟨s, rfl, _, hw⟩ := DataW.trod_string hd h
      exact ⟨s.data.toList, by simp [DRel], (show s.data.toList.length ≤ maxLen from by rw [Array.length_toList]; exact hw)⟩
    | slice e =>
      simp only [descK, Option.some.injEq] at hdk
      rw [← hdk] at hty3
      simp only [tyOfK, Option.map_eq_some_iff] at hty3
      obtain ⟨ety, hety, rfl⟩ := hty3
      have hek := TT.allK_at T e hK (by rw [hety]; rfl)
      have hes : ety.size = (T.at e).size := (hT e hek).2.2.2.1 ety hety
      have hec := cellsOf_of hT hek
      rcases DataW.trod_slice hd h with ⟨rfl, _⟩ | ⟨a, len, cap, elems, rest, n, hn, rfl, _, _, hl, hm, hlen, hel, _, _⟩
      · exact ⟨[], ⟨none, 0, [], rfl, Nat.le_refl _, rfl, .inl rfl⟩, Nat.zero_le _, fun x hx => by cases hx⟩
      · obtain rfl : n = fuel := by omega
        have hrow : ∀ i, i < len → ∃ y, (w.cells? 0 (a.add (i * P.cellsOf e)) (P.cellsOf e)).bind (DataW.trod enc P w 0 spare held n e) = some y := fun i hi => by
          rw [hel i hi, List.getElem?_eq_getElem (by omega)]
          exact ⟨_, rfl⟩
        obtain ⟨xs, zs, h1, h2, h3, h4⟩ := rows_rel (w := w) (e := ety) (hes.trans hec.symm) (fun cs y hy => trod_rel hT hK n e cs y ety hek hety hy) hrow len 0 (by omega)
        refine ⟨xs, ⟨some a, cap, zs, by rw [h1], by omega, h2, ?_⟩, by rw [h1]; omega, h4⟩
        by_cases hz : zs = []
        · exact .inl hz
        · have h0 := h3 0 (List.length_pos_iff.2 hz)
          rw [show a.add (0 * P.cellsOf e + 0) = a by simp [Addr.add]] at h0
          obtain ⟨q1, q2⟩ := cell_lt h0
          obtain ⟨ab, ao, asp⟩ := a
          simp only at q1 q2
          subst q2
          refine .inr ⟨ab, ao, rfl, q1, fun j hj => ?_⟩
          have := h3 j hj
          rwa [show (0 * P.cellsOf e + j) = j by omega, addr_add'] at this
    | struct fs =>
      simp only [descK, Option.some.injEq] at hdk
      rw [← hdk] at hty3
      simp only [tyOfK] at hty3
      obtain ⟨xs, n, hn, _, hlen, hxl, hf⟩ := DataW.trod_struct hd h
      obtain rfl : n = fuel := by omega
      obtain ⟨x, h1, h2⟩ := fields_rel (P := P) (T := T) (w := w) (enc := enc) (spare := spare) (held := held) (cs := cs) hT (fun t cs y ty a b c => trod_rel hT hK n t cs y ty a b c) _ 0 ty hty3 (fun p hp => by
        obtain ⟨f, hfm, rfl⟩ := List.mem_map.1 hp
        obtain ⟨i, hi⟩ := List.getElem?_of_mem hfm
        have := hf i f (by simpa using hi)
        rw [this, List.getElem?_eq_getElem (by have := (List.getElem?_eq_some_iff.1 hi).1; simp at this; omega)]
        exact ⟨_, rfl⟩)
      refine ⟨x, ?_, h2⟩
      rw [List.drop_zero, List.take_of_length_le (by omega)] at h1
      exact h1
    | func a b c =>
      simp only [descK, Option.some.injEq] at hdk
      rw [← hdk] at hty3
      simp [tyOfK] at hty3
    | array a b => simp [descK] at hdk
    | _ =>
      simp only [descK, Option.some.injEq] at hdk
      rw [← hdk] at hty3
      simp [tyOfK] at hty3

/-- an argument is a datum -/
theorem open_plain (hT : TOk P T) (hK : T.allK = true) {t : TypeId} {v : Value} {d : DataW H} {ps : List MemPlace} {r : Reach} {b0 : Nat} {ty : Ty} (hty : (T.at t).ty = some ty) (hval : Value.okWide P w r b0 t v) (h : DataW.Trod enc P w 0 spare held t v d ps) :
    ∃ x : ty.den, VD (base0 w fun _ => False) ty x v ∧ wfD ty x := by
  have hk := TT.allK_at T t hK (by rw [hty]; rfl)
  obtain ⟨fuel, hf⟩ := h
  obtain ⟨x, h1, h2⟩ := trod_rel hT hK fuel t _ _ ty hk hty hf
  have h3 : DRel w (base0 w fun _ => False).free ty x v.cells.toList := DRel.mono (fun b hb => ⟨⟨hb, (by rintro ⟨i, o, h, _⟩; simp [base0, hget] at h), by simp [base0], fun h => h⟩, rfl⟩) ty x _ h1
  refine ⟨x, ?_, h2⟩
  obtain ⟨hinfo, hund, hty2, -⟩ := hT t hk
  obtain ⟨d', hd, hdk⟩ := und_of hund
  have hty3 : tyOfK T (T.at t).k = some ty := by
    rcases hty2 with h1 | h1
    · rw [h1] at hty; cases hty
    · rw [← h1, hty]
  cases ha : ty.isAgg with
  | true =>
    cases d' with
    | struct fs =>
      obtain ⟨cs, rfl, _⟩ := Go.WideShapes.okWide_struct hd hval
      exact (VD.agg ha).2 ⟨cs, rfl, h3⟩
    | array a b => simp [descK] at hdk
    | slice e =>
      simp only [descK, Option.some.injEq] at hdk
      rw [← hdk] at hty3
      simp only [tyOfK, Option.map_eq_some_iff] at hty3
      obtain ⟨ety, _, rfl⟩ := hty3
      cases ha
    | _ =>
      simp only [descK, Option.some.injEq] at hdk
      rw [← hdk] at hty3
      simp [tyOfK] at hty3
      all_goals (subst hty3; cases ha)
  | false =>
    rw [VD.leaf ha]
    have hv : v.cells = #[v] := by
      cases d' with
      | struct fs =>
        simp only [descK, Option.some.injEq] at hdk
        rw [← hdk] at hty3
        simp only [tyOfK] at hty3
        exfalso
        cases hfs : (fs.toList.map fun f => (f.offset, f.type)) with
        | nil => rw [hfs] at hty3; simp only [tyFields, Option.some.injEq] at hty3; subst hty3; cases ha
        | cons p l =>
          rw [hfs] at hty3
          simp only [tyFields] at hty3
          split at hty3
          · split at hty3
            · split at hty3
              · split at hty3
                · simp only [Option.some.injEq] at hty3; subst hty3; cases ha
                · cases hty3
              · cases hty3
            · cases hty3
          · cases hty3
      | array a b => simp [descK] at hdk
      | bool => obtain ⟨b, rfl⟩ := Go.WideShapes.okWide_bool hd hval; rfl
      | int k => obtain ⟨b, rfl⟩ := Go.WideShapes.okWide_int hd hval; rfl
      | string => obtain ⟨b, rfl⟩ := Go.WideShapes.okWide_string hd hval; rfl
      | slice e => obtain ⟨a, b, c, rfl⟩ := Go.WideShapes.okWide_slice hd hval; rfl
      | _ =>
        simp only [descK, Option.some.injEq] at hdk
        rw [← hdk] at hty3
        simp [tyOfK] at hty3
    rw [hv] at h3
    exact h3
end
end Go.Proofs.YtnmaceljkegenaaDoor
