/-
  The plain machine: rows that are made, appended to, written.
-/
import Derived.Test.YtnmaceljkegenaaDoorAj
namespace Go.Proofs.YtnmaceljkegenaaDoor
open Go.RowKit
set_option linter.unusedVariables false
set_option linter.unusedSimpArgs false

section
variable {P : Program} {T : TT} {W0 : World} {c : Cx} {R : Type} {r : R} {t : TypeId}

theorem rowOf_elem (hT : TOk P T) {n : Nat} {et : TypeId} (hkk : (T.at t).k = .slice et) (h : T.rowOf t n = true) : P.underlying t = some (.slice et) ∧ (T.at et).known = true ∧ (T.at et).size = n ∧ 0 < n ∧ 0 < (T.at et).bytes := by
  obtain ⟨e, h1, h2, h3, h4, h5, h6⟩ := rowOf_und hT h
  rw [hkk] at h5
  cases h5
  exact ⟨h1, h2, h3, h4, h6⟩

/-- the zero of an element -/
theorem zero_elem (hT : TOk P T) {et : TypeId} (hk : (T.at et).known = true) {e : Ty} {d : e.den} (hd : mkAll e (T.at et).zero = some d) :
    ∃ i z, P.info? et = some i ∧ i.zero = some z ∧ i.size = (T.at et).size ∧ i.bytes = (T.at et).bytes ∧ DRel c.w c.free e d z.cells.toList := by
  obtain ⟨i, z, hi, hsz, hby, hz, hzero, hz1⟩ := hT.info hk
  exact ⟨i, z, hi, hz, hsz, hby, mkAll_rel hd (by rw [← hzero]; exact constC_rels c _)⟩

theorem ownsRow_new (w : World) (zs : List Value) (e : TypeId) (size n : Nat) (hl : zs.length = n * size) (hn : n ≤ maxLen) :
    (w.alloc (.cells zs.toArray e)).ownsRow w.heap.size e size (.slice (some ⟨w.heap.size, 0, none⟩) n n) n zs :=
  ⟨hl, .inr ⟨w.heap.size, n, zs.toArray, rfl, Nat.le_refl _, heap_alloc_new w _, Nat.le_refl _, hn, by simpa using hl, by simp [← hl]⟩⟩

theorem l_buildSlice (hT : TOk P T) (hok : c.Ok W0) {cl : Bool} {call : CallFn R} {o : Oper} {st : St} {a : Act} {K : AVal → St → Option R} {n : Nat} {parts : Array (Nat × Operand)} (hhp : c.hp = st.hp) (hnx : c.nxt = st.nxt) (hfr : VRels c st.fr a.tmps.toList)
    (ho : o.op = .buildSlice t n parts) (h : evalOp T cl call o st K = some r) : Loud P W0 c st o a K r := by
  obtain ⟨dst, op, ty, pos, after, guard⟩ := o
  simp only at ho
  subst ho
  simp only [evalOp] at h
  split at h
  · rename_i et hkk
    split at h
    · rename_i e he
      split at h
      · rename_i d hd
        replace h := bif_some h
        obtain ⟨hrow, h⟩ := h
        simp only [Bool.and_eq_true, leN, decide_eq_true_eq] at hrow
        obtain ⟨hu, hk, hsz, hpos, _⟩ := rowOf_elem hT hkk hrow.1
        split at h
        · rename_i xs hxs
          obtain ⟨id, n', e1, e2, e3, e4⟩ := alloc_some h
          obtain ⟨i, z, hi, hz, his, _, hzd⟩ := zero_elem (c := c) hT hk hd
          have hzl := DRel.length _ _ _ hzd
          have hzs : z.cells.size = e.size := by simpa using hzl
          have hL0 := LRel.replicate (Q := DRel c.w c.free e) hzl hzd n
          obtain ⟨zs', g1, g2, g3⟩ := parts_rel (c := c) (fun i => some (i * e.size, e.size)) (fun _ => rfl) _ (parts.toList.map fun p => (p.1, a.eval p.2)) _ _ _ hxs hL0 (by simp [Function.comp_def]) (by
            simp only [List.map_map, Function.comp_def]
            have := VRels.map_eval (c := c) hfr (parts.toList.map (·.2))
            simpa [List.map_map, Function.comp_def] using this)
          have hxl : xs.length = n := by rw [g3]; simp
          have hzl' := LRel.length _ _ g2
          rw [hxl] at hzl'
          have hn1 : n ≤ n * e.size := Nat.le_mul_of_pos_right n hpos
          have hown := ownsRow_new c.w zs' et e.size n hzl' (by simp only [maxLen]; omega)
          rw [← hxl] at hown
          obtain ⟨c', d1, d2, d3⟩ := new_arr hok hhp hnx e1 e2 e3 hpos (below_alloc c.w (.cells zs'.toArray et)) et zs' hown g2 rfl (fun h => hT.byte hk (by rw [he, h]))
          refine loud_val rfl e4 d1 d3 ?_
          rw [d2]
          have hsize : (sizeOf et).run P c.w = .ok e.size c.w := by rw [hT.sizeOf hk, hsz]
          have hzv : (zeroValue et).run P c.w = .ok z c.w := by simp [zeroValue, typeInfo, hi, hz]
          have hsmall : n * e.size ≤ 2 ^ 24 := by omega
          have hfill : Instr.fill (fun i => some (i * e.size, e.size)) ((Array.range (n * e.size)).map (z.cells[· % z.cells.size]!)) (Array.map (fun p => (p.1, a.eval p.2)) parts).toList = some zs'.toArray := by
            rw [← g1]
            have := madeCells_flat z.cells n
            rw [hzs] at this
            have h3 : (Array.range (n * e.size)).map (z.cells[· % z.cells.size]!) = (List.replicate n z.cells.toList).flatten.toArray := by
              apply Array.ext'
              rw [← this]; rfl
            rw [h3]; simp
          by_cases h0 : n * e.size = 0
          · have hn0 : n = 0 := by
              rcases Nat.mul_eq_zero.1 h0 with h | h
              · exact h
              · omega
            subst hn0
            simp only [Instr.buildSlice, Sem.run_bind, run_underlying hu, Result.andThen_ok, hsize, Sem.run_ite, Nat.zero_mul, if_true, Sem.run_pure]
            simp only [Nat.zero_mul] at hfill
            rw [if_neg (by omega)]
            have hfill' : Instr.fill (fun i => some (i * e.size, e.size)) ((Array.range 0).map ((#[] : Array Value)[· % (#[] : Array Value).size]!)) (Array.map (fun p => (p.1, a.eval p.2)) parts).toList = some zs'.toArray := by
              rw [← hfill, show Array.range 0 = #[] from rfl, Array.map_empty, Array.map_empty]
            simp only [Sem.run_pure, Result.andThen_ok, hfill']
            simp [newRow, hxl]
          · simp only [Instr.buildSlice, Sem.run_bind, run_underlying hu, Result.andThen_ok, hsize, Sem.run_ite]
            rw [if_neg (by omega)]
            simp only [Sem.run_pure, Result.andThen_ok, if_neg h0, Sem.run_bind, hzv, hfill]
            simp [newRow, hxl]
        · cases h
      · cases h
    · cases h
  · cases h

theorem l_makeSlice (hT : TOk P T) (hok : c.Ok W0) {cl : Bool} {call : CallFn R} {o : Oper} {st : St} {a : Act} {K : AVal → St → Option R} {l cp : Operand} (hhp : c.hp = st.hp) (hnx : c.nxt = st.nxt) (hfr : VRels c st.fr a.tmps.toList)
    (ho : o.op = .makeSlice t l cp) (h : evalOp T cl call o st K = some r) : Loud P W0 c st o a K r := by
  obtain ⟨dst, op, ty, pos, after, guard⟩ := o
  simp only at ho
  subst ho
  simp only [evalOp] at h
  split at h
  · rename_i et hkk
    split at h
    · rename_i e ln cn he hl hc
      split at h
      · rename_i d hd
        replace h := need_some h
        obtain ⟨hb, h⟩ := h
        simp only [Bool.and_eq_true, decide_eq_true_eq] at hb
        obtain ⟨hrow, b1, b2, b3⟩ := hb
        obtain ⟨hu, hk, hsz, hpos, hbp⟩ := rowOf_elem hT hkk hrow
        obtain ⟨id, n', e1, e2, e3, e4⟩ := alloc_some h
        obtain ⟨i, z, hi, hz, his, hib, hzd⟩ := zero_elem (c := c) hT hk hd
        have hzl := DRel.length _ _ _ hzd
        have hzs : z.cells.size = e.size := by simpa using hzl
        have hL0 := LRel.replicate (Q := DRel c.w c.free e) hzl hzd ln.toNat
        obtain ⟨k, r1⟩ := intOf_rel hl (evalO_rel hfr l)
        obtain ⟨k', r2⟩ := intOf_rel hc (evalO_rel hfr cp)
        have hcn : cn.toNat ≤ cn.toNat * (T.at et).bytes := Nat.le_mul_of_pos_right _ hbp
        have hcl : cn.toNat ≤ 140737488355328 := by unfold roomN at b3; omega
        have hcap : cn ≤ 9223372036854775807 := by unfold roomN at b3; omega
        have hcb : (i.bytes : Int) * cn ≤ 281474976710656 := by
          unfold roomN at b3
          have e0 : cn = (cn.toNat : Int) := by omega
          rw [hib, e0, ← Int.natCast_mul, Nat.mul_comm]
          omega
        have hrun := run_make (P := P) c.w t et i z hu hi hz k k' ln cn b1 b2 hcb hcap
        have hmade := madeCells_flat z.cells cn.toNat
        rw [hzs] at hmade
        have hflen : ((List.replicate cn.toNat z.cells.toList).flatten).length = cn.toNat * e.size := by simp [hzs]
        have hown : (c.w.alloc (.cells (madeCells z.cells (cn.toNat * i.size)) et)).ownsRow c.w.heap.size et e.size (.slice (some ⟨c.w.heap.size, 0, none⟩) ln.toNat cn.toNat) (List.replicate ln.toNat d).length (List.replicate ln.toNat z.cells.toList).flatten := by
          refine ⟨by simp [hzs], .inr ⟨c.w.heap.size, cn.toNat, madeCells z.cells (cn.toNat * i.size), by simp, Nat.le_refl _, heap_alloc_new _ _, by simp; omega, by simp only [maxLen]; omega, ?_, ?_⟩⟩
          · rw [size_madeCells, his, hsz]
          · rw [his, hsz, hmade]
            have : cn.toNat = ln.toNat + (cn.toNat - ln.toNat) := by omega
            rw [this, ← List.replicate_append_replicate, List.flatten_append]
            rw [List.take_append]
            simp [hzs]
            rw [List.take_of_length_le (by simp [hzs])]
        obtain ⟨c', d1, d2, d3⟩ := new_arr hok hhp hnx e1 e2 e3 hpos (below_alloc c.w _) et _ hown hL0 rfl (fun h => hT.byte hk (by rw [he, h]))
        refine loud_val rfl e4 d1 d3 ?_
        rw [d2]
        show (Instr.makeSlice t (a.eval l) (a.eval cp)).run P c.w = _
        rw [r1, r2, hrun]
      · cases h
    · cases h
  · cases h
end
end Go.Proofs.YtnmaceljkegenaaDoor
