/-
  The plain machine: operations that make nothing and write nothing: each yields one value in every world that goes on from this one.
-/
import Derived.Test.YtnmaceljkegenaaDoorAd
namespace Go.Proofs.YtnmaceljkegenaaDoor
open Go.RowKit
set_option linter.unusedVariables false
set_option linter.unusedSimpArgs false

theorem bif_some {R : Type} {b : Bool} {x : Option R} {r : R} (h : (bif b then x else none) = some r) : b = true ∧ x = some r := by
  cases b
  · cases h
  · exact ⟨rfl, h⟩

theorem need_some {R : Type} {b : Bool} {x : Option R} {r : R} (h : need b x = some r) : b = true ∧ x = some r := bif_some h

/-- a world that goes on from here -/
abbrev Ext (c : Cx) (w : World) : Prop := Below c.w.heap.size c.w w

def valOf (agg : Bool) (zs : List Value) : Value := if agg then .agg zs.toArray else zs.headD undef

theorem addr_add' (b o n : Nat) : (⟨b, o, none⟩ : Addr).add n = ⟨b, o + n, none⟩ := by
  unfold Addr.add; split <;> simp_all

section
variable {P : Program} {T : TT} {W0 : World} {c : Cx} {R : Type} {r : R} {t : TypeId}

theorem run_loadVar_cells (hT : TOk P T) (hk : (T.at t).known = true) {w : World} {b o : Nat} {zs : List Value} (hc : CellsAt w b o zs) (hl : zs.length = (T.at t).size) :
    (loadVar t ⟨b, o, none⟩).run P w = .ok (valOf (T.at t).isAgg zs) w := by
  have h1 := hT.isAgg hk w
  have h2 := hT.sizeOf hk w
  have hcells : ∀ j v, zs[j]? = some v → w.cell? ((⟨b, o, none⟩ : Addr).add j) = some v := fun j v hj => by
    rw [addr_add']
    obtain ⟨hj1, hj2⟩ := List.getElem?_eq_some_iff.1 hj
    rw [hc j hj1, hj2]
  simp only [loadVar, Sem.run_bind, h1, Result.andThen_ok]
  cases e : (T.at t).isAgg
  · have h3 : zs.length = 1 := by
      rcases hT.one hk with h | h
      · rw [e] at h; cases h
      · omega
    match zs, h3 with
    | [z], _ =>
      have h4 := hcells 0 z rfl
      simp only [addr_add', Nat.add_zero] at h4
      simp [h4, valOf]
  · simp only [if_true, Sem.run_bind, h2, Result.andThen_ok, ← hl, run_loadCells_list (P := P) w ⟨b, o, none⟩ zs hcells, Sem.run_pure, valOf]

theorem run_loadAt_cells (hT : TOk P T) (hk : (T.at t).known = true) {w : World} {b o : Nat} {zs : List Value} (hc : CellsAt w b o zs) (hl : zs.length = (T.at t).size) :
    (Instr.loadAt t (.pointer (some ⟨b, o, none⟩))).run P w = .ok (valOf (T.at t).isAgg zs) w := by
  simp only [Instr.loadAt, Instr.sureAddr, Sem.run_bind, Sem.run_pure, Result.andThen_ok]
  exact run_loadVar_cells hT hk hc hl

theorem valOf_VD (hT : TOk P T) (hk : (T.at t).known = true) {y : Ty} (hy : (T.at t).ty = some y) {x : y.den} {zs : List Value} (h : DRel c.w c.free y x zs) : VD c y x (valOf (T.at t).isAgg zs) := by
  have h1 := hT.ty_agg hk hy
  cases e : (T.at t).isAgg
  · rw [e] at h1
    refine (VD.leaf h1).2 ?_
    have h2 := DRel.length _ _ _ h
    have h3 : zs.length = 1 := by
      rw [h2]
      cases y <;> first | rfl | (simp [Ty.isAgg] at h1)
    match zs, h3 with
    | [z], _ => exact h
  · rw [e] at h1
    exact (VD.agg h1).2 ⟨zs.toArray, rfl, by simpa using h⟩

theorem norm_rel (hT : TOk P T) (hk : (T.at t).known = true) {l : List AVal} {zs : List Value} (h : VRels c l zs) (h1 : ∀ u ∈ zs, u.oneCell' = true) : VRel c (norm (T.at t) l) (valOf (T.at t).isAgg zs) := by
  unfold norm valOf TI.isAgg
  have key : VRel c (.agg l) (.agg zs.toArray) := by simp only [VRel]; exact ⟨zs.toArray, rfl, by simpa using h, by simpa using h1⟩
  cases hkk : (T.at t).k with
  | struct fs =>
    simp only [if_true]
    split
    · rename_i y hy
      split
      · rename_i x hx
        rw [cond_eq_ite]
        split
        · exact key
        simp only [VRel]
        have h2 := mkAll_rel hx h
        have h3 := hT.ty_agg hk hy
        rw [TI.isAgg, hkk] at h3
        exact (VD.agg h3).2 ⟨zs.toArray, rfl, by simpa using h2⟩
      · exact key
    · exact key
  | _ =>
    simp only [Bool.false_eq_true, if_false]
    split
    · rename_i v
      match zs, h with
      | [z], h => simp only [VRels] at h; exact h.1
      | [], h => simp [VRels] at h
      | _ :: _ :: _, h => simp [VRels] at h
    · simp [VRel]

theorem cellsAt_some {cs l : List AVal} {off k : Nat} (h : cellsAt cs off k = some l) : off + k ≤ cs.length ∧ l = (cs.drop off).take k := by
  unfold cellsAt at h
  obtain ⟨h1, h2⟩ := bif_some h
  exact ⟨by simpa using h1, (Option.some.inj h2).symm⟩

theorem CellsAt.sub {w : World} {b o : Nat} {zs : List Value} (h : CellsAt w b o zs) (off k : Nat) : CellsAt w b (o + off) ((zs.drop off).take k) := by
  intro j hj
  have h1 : off + j < zs.length := by simp at hj; omega
  rw [Nat.add_assoc, h (off + j) h1]; simp

/-- the cells of a block of our own -/
theorem CellsAt.of_block_cells {w : World} {b : Nat} {vs : Array Value} {e : TypeId} {f : Nat × Nat} (h : w.heap[b]? = some (.cells vs e f)) : CellsAt w b 0 vs.toList := by
  intro j hj
  rw [Nat.zero_add]
  simp only [World.cell?, h]
  simp at hj ⊢

theorem Ext.cells {c : Cx} {w : World} (h : Ext c w) {b o : Nat} {zs : List Value} (hb : b < c.w.heap.size) (hc : CellsAt c.w b o zs) : CellsAt w b o zs := hc.of_block (h.block b hb)

/-- an element of a row of our own -/
theorem row_elem (hok : c.Ok W0) {id ver : Nat} {y : Ty} {xs : List y.den} (h : hget c.hp id = some (.arr y ver xs)) {i : Nat} (hi : i < xs.length) :
    ∃ g n cp zs, (c.mu id).v = .slice (some ⟨g, 0, none⟩) n cp ∧ c.own g ∧ DRel c.w c.free y xs[i] zs ∧ CellsAt c.w g (i * y.size) zs := by
  obtain ⟨h0, e, zs, h1, h2, hty⟩ := hok.obj id _ h
  obtain ⟨d, d1, d2, l1, l2, d3, d4⟩ := LRel.at_ i xs zs hi h2
  rcases h1.2 with ⟨h3, h4⟩ | ⟨g, cap, cur, h3, h4, h5, h6, h7, h8, h9⟩
  · omega
  · refine ⟨g, _, _, d, h3, ⟨id, _, h, by simp [AObj.blk, h3, Value.ownBlock]⟩, d2, ?_⟩
    have hc := CellsAt.of_block_cells h5
    intro j hj
    have e1 : zs[i * y.size + j]? = some d[j] := by
      rw [d3, List.append_assoc, List.getElem?_append_right (by omega), d4, Nat.add_sub_cancel_left, List.getElem?_append_left hj]
      simp
    have hlt : i * y.size + j < zs.length := (List.getElem?_eq_some_iff.1 e1).1
    rw [← h9] at e1 hlt
    have hlt2 : i * y.size + j < cur.toList.length := by simp only [List.length_take] at hlt; omega
    have := hc (i * y.size + j) hlt2
    rw [Nat.zero_add] at this
    rw [this]
    rw [List.getElem?_take_of_lt (by simp only [List.length_take] at hlt; omega)] at e1
    rw [List.getElem?_eq_getElem hlt2] at e1
    exact e1

theorem q_load (hT : TOk P T) (hok : c.Ok W0) {av : AVal} {v : Value} {K : AVal → Option R} (h : evLoad T c.hp t av K = some r) (hv : VRel c av v) :
    ∃ z u, K z = some r ∧ VRel c z u ∧ ∀ w', Ext c w' → (Instr.loadAt t v).run P w' = .ok u w' := by
  unfold evLoad at h
  cases hk : (T.at t).known
  · rw [hk] at h; cases h
  rw [hk] at h
  simp only [Bool.not_true, cond_false] at h
  cases av with
  | cellp y x =>
    simp only at h
    split at h
    · rename_i y' hy
      split at h
      · rename_i x' hx
        obtain ⟨e, h2⟩ := castTy_spec hx
        subst e
        subst h2
        simp only [VRel] at hv
        obtain ⟨b, o, zs, rfl, hb, hc, hd⟩ := hv
        refine ⟨_, _, h, ?_, fun w' hw => run_loadAt_cells hT hk (hw.cells hb.1 hc) ?_⟩
        · simp only [VRel]; exact valOf_VD hT hk hy hd
        · rw [DRel.length _ _ _ hd, hT.ty_size hk hy]
      · cases h
    · cases h
  | ptr id off =>
    simp only at h
    split at h
    · rename_i bt cs hcs
      split at h
      · rename_i l hl
        obtain ⟨h1, rfl⟩ := cellsAt_some hl
        simp only [VRel] at hv
        have hv' := hv.2.2 _ _ hcs
        subst hv'
        obtain ⟨hB, vs, h3, h4, h5⟩ := hok.obj id _ hcs
        have hlen := VRels.length _ _ h4
        have hc := (CellsAt.of_block_cells h3).sub off (T.at t).size
        rw [Nat.zero_add] at hc
        refine ⟨_, _, h, norm_rel hT hk (VRels.take _ _ _ (VRels.drop off _ _ h4)) (fun u hu => h5 u (List.mem_of_mem_drop (List.mem_of_mem_take hu))), fun w' hw => run_loadAt_cells hT hk (hw.cells (Array.getElem?_eq_some_iff.1 h3).1 hc) ?_⟩
        simp; simp at hlen; omega
      · cases h
    · cases h
  | ep id ver i off =>
    simp only at h
    split at h
    · rename_i y u xs harr
      replace h := bif_some h
      obtain ⟨h1, h⟩ := h
      replace h := bif_some h
      obtain ⟨h2, h⟩ := h
      have h1 : u = ver := by simpa using h1
      subst h1
      have hi : i < xs.length := by simpa [ltN] using h2
      split at h
      · rename_i l hl
        obtain ⟨h3, rfl⟩ := cellsAt_some hl
        simp only [VRel] at hv
        obtain ⟨g', n', cp', e1, e2⟩ := (hv.2.2 _ _ _ harr).2 rfl
        obtain ⟨g, n, cp, zs, e3, hown, hd, hc⟩ := row_elem hok harr hi
        rw [e1] at e3
        cases e3
        subst e2
        have hx : xs.getD i y.dflt = xs[i] := by simp [List.getD, hi]
        rw [hx] at h h3
        have hf := flat_rel y _ _ hd
        have hlen := VRels.length _ _ hf
        have hc2 := hc.sub off (T.at t).size
        refine ⟨_, _, h, norm_rel hT hk (VRels.take _ _ _ (VRels.drop off _ _ hf)) (fun u hu => DRel.one _ _ _ hd u (List.mem_of_mem_drop (List.mem_of_mem_take hu))), fun w' hw => run_loadAt_cells hT hk (hw.cells (hok.own_lt hown).2 hc2) ?_⟩
        simp; omega
      · cases h
    · cases h
  | _ => cases h
end
end Go.Proofs.YtnmaceljkegenaaDoor
