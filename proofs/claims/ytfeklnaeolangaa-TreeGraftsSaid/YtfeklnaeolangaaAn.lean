/-
  The plain machine: storing, converting, functions; all operations of our own together.
-/
import Derived.Test.YtfeklnaeolangaaAm
namespace Go.Proofs.Ytfeklnaeolangaa
open Go.RowKit
set_option linter.unusedVariables false
set_option linter.unusedSimpArgs false

section
variable {P : Program} {T : TT} {W0 : World} {c : Cx} {R : Type} {r : R} {t : TypeId}

theorem putCells_some {cs vs cs' : List AVal} {off : Nat} (h : putCells cs off vs = some cs') : off + vs.length ≤ cs.length ∧ cs' = cs.take off ++ vs ++ cs.drop (off + vs.length) := by
  unfold putCells at h
  replace h := bif_some h
  exact ⟨by simpa using h.1, (Option.some.inj h.2).symm⟩

theorem run_storeAt (hT : TOk P T) (hk : (T.at t).known = true) {w : World} {g o : Nat} {cur : Array Value} {e : TypeId} (hg : w.heap[g]? = some (.cells cur e (0, 0))) {v : Value} (hl : v.cells.size = (T.at t).size) (hfit : o + v.cells.size ≤ cur.size)
    (h1 : ∀ u ∈ v.cells.toList, u.oneCell' = true) :
    (Instr.storeAt t (.pointer (some ⟨g, o, none⟩)) v).run P w = .ok () (w.setRow g (cur.toList.take o ++ v.cells.toList ++ cur.toList.drop (o + v.cells.size)).toArray) := by
  have hst := run_storeCells_at P g o e v.cells.toList 0 cur w hg (by simpa using hfit) h1
  simp only [Nat.add_zero, Array.length_toList] at hst
  simp only [Instr.storeAt, Instr.sureAddr, Sem.run_bind, Sem.run_pure, Result.andThen_ok, storeVar, hT.sizeOf hk w, Sem.run_ite]
  rw [if_neg (by simp [hl])]
  exact hst

theorem l_store (hT : TOk P T) (hok : c.Ok W0) {cl : Bool} {call : CallFn R} {o : Oper} {st : St} {a : Act} {K : AVal → St → Option R} {x y : Operand} (hhp : c.hp = st.hp) (hnx : c.nxt = st.nxt) (hfr : VRels c st.fr a.tmps.toList)
    (ho : o.op = .store t x y) (h : evalOp T cl call o st K = some r) : Loud P W0 c st o a K r := by
  obtain ⟨dst, op, ty, pos, after, guard⟩ := o
  simp only at ho
  subst ho
  simp only [evalOp, evStore] at h
  split at h
  · cases h
  rename_i vs hvs
  replace h := bif_some h
  obtain ⟨hk, h⟩ := h
  simp only [Bool.and_eq_true, beq_iff_eq] at hk
  obtain ⟨hk, hlen⟩ := hk
  obtain ⟨r1, r2⟩ := cells_rel hvs (evalO_rel hfr y)
  have hl : vs.length = (a.eval y).cells.size := by simpa using VRels.length _ _ r1
  have hx := evalO_rel hfr x
  have hexec : ∀ w w', (Instr.storeAt t (a.eval x) (a.eval y)).run P w = .ok () w' → (execOp a.eval ⟨dst, .store t x y, ty, pos, after, guard⟩).run P w = .ok .skip w' := fun w w' hw => by
    simp [execOp, Sem.run_bind, hw]
  split at h
  · rename_i id off hid
    rw [hid] at hx
    split at h
    · rename_i cs hcs
      split at h
      · rename_i cs' hput
        obtain ⟨p1, rfl⟩ := putCells_some hput
        rw [← hhp] at hcs
        simp only [VRel] at hx
        have hv := hx.2.2 _ hcs
        obtain ⟨hB, us, e, h3, h4, h5⟩ := hok.obj id _ hcs
        have hlu : cs.length = us.size := by simpa using VRels.length _ _ h4
        have hrun := run_storeAt (o := off) hT hk h3 (v := a.eval y) (by rw [← hl, hlen]) (by omega) r2
        rw [← hv] at hrun
        have hlike : (AObj.box cs).like (c.mu id) (.box (cs.take off ++ vs ++ cs.drop (off + vs.length))) (c.mu id) := rfl
        have hsz : c.w.heap.size ≤ (c.w.setRow (c.mu id).blk (us.toList.take off ++ (a.eval y).cells.toList ++ us.toList.drop (off + (a.eval y).cells.size)).toArray).heap.size := by simp
        have hbb : ∀ b, b < c.w.heap.size → (AObj.box cs).blk (c.mu id) ≠ some b → (c.w.setRow (c.mu id).blk (us.toList.take off ++ (a.eval y).cells.toList ++ us.toList.drop (off + (a.eval y).cells.size)).toArray).heap[b]? = c.w.heap[b]? :=
          fun b _ hne => setRow_other _ _ _ _ (fun e => hne (by simp [AObj.blk, e]))
        have hll : ∀ b, (AObj.box (cs.take off ++ vs ++ cs.drop (off + vs.length))).blk (c.mu id) = some b → (AObj.box cs).blk (c.mu id) = some b ∨ c.w.heap.size ≤ b := fun b hb => .inl hb
        have hlp : ∀ (b : Nat) (L : Loop), (AObj.box cs).blk (c.mu id) = some b → c.w.heap[b]? = some (Obj.loop L) → ∃ L' : Loop, (c.w.setRow (c.mu id).blk (us.toList.take off ++ (a.eval y).cells.toList ++ us.toList.drop (off + (a.eval y).cells.size)).toArray).heap[b]? = some (Obj.loop L') := fun b L hb hL => absurd hL ((hok.obj id _ hcs).no_loop (by simp) hb)
        have hle := Cx.Le.put (w := c.w.setRow (c.mu id).blk (us.toList.take off ++ (a.eval y).cells.toList ++ us.toList.drop (off + (a.eval y).cells.size)).toArray) hok hcs hlike hsz hbb hll hlp
        have hBel : Below W0.heap.size W0 (c.w.setRow (c.mu id).blk (us.toList.take off ++ (a.eval y).cells.toList ++ us.toList.drop (off + (a.eval y).cells.size)).toArray) :=
          hok.bel.trans ⟨rfl, rfl, rfl, by simp, fun k hk => setRow_other _ _ _ _ (by omega)⟩
        refine ⟨_, undef, c.put id _ (c.mu id) _, _, h, ⟨by simp [Cx.put, hhp], hnx, rfl, rfl, hok.put hcs hlike hBel hsz hbb hll hlp ?_, hle⟩, by simp [VRel], .inr ⟨hexec _ _ hrun, rfl⟩⟩
        refine ⟨by simp only [Cx.put, upd_same]; exact hB, (us.toList.take off ++ (a.eval y).cells.toList ++ us.toList.drop (off + (a.eval y).cells.size)).toArray, e, ?_, ?_, ?_⟩
        · simp only [Cx.put, upd_same]
          exact setRow_heap c.w _ us _ e _ h3
        · have := VRels.append _ _ _ _ (VRels.append _ _ _ _ (VRels.take off _ _ h4) r1) (VRels.drop (off + vs.length) _ _ h4)
          have this' : VRels c (cs.take off ++ vs ++ cs.drop (off + vs.length)) (us.toList.take off ++ (a.eval y).cells.toList ++ us.toList.drop (off + (a.eval y).cells.size)) := by
            rw [← hl]; exact this
          exact VRels.le hle _ _ this'
        · intro u hu
          simp only [List.toList_toArray] at hu
          rcases List.mem_append.1 hu with hu | hu
          · rcases List.mem_append.1 hu with hu | hu
            · exact h5 u (List.mem_of_mem_take hu)
            · exact r2 u hu
          · exact h5 u (List.mem_of_mem_drop hu)
      · cases h
    · cases h
  · rename_i id ver i off hid
    rw [hid] at hx
    split at h
    · rename_i e u xs harr
      rw [← hhp] at harr
      replace h := bif_some h
      obtain ⟨hver, h⟩ := h
      have hver : u = ver := by simpa using hver
      subst hver
      replace h := bif_some h
      obtain ⟨hi, h⟩ := h
      have hi : i < xs.length := by simpa [ltN] using hi
      split at h
      · rename_i cs hput
        split at h
        · rename_i x' hmk
          simp only [VRel] at hx
          obtain ⟨g', n', cp', q1, q2⟩ := (hx.2.2 _ _ _ harr).2 rfl
          obtain ⟨hpos, e0, zs, hown, hL⟩ := hok.obj id _ harr
          rcases hown.2 with ⟨e1, e2⟩ | ⟨g, cap, cur, e1, e2, e3, e4, e5, e6, e7⟩
          · omega
          rw [q1] at e1
          simp only [Value.slice.injEq, Option.some.injEq, Addr.mk.injEq, and_true] at e1
          obtain ⟨rfl, rfl, rfl⟩ := e1
          obtain ⟨d, d1, d2, l1, l2, d3, d4⟩ := LRel.at_ i xs zs hi hL
          have hgx : xs.getD i e.dflt = xs[i] := by simp [List.getD, hi]
          rw [hgx] at hput
          obtain ⟨p1, rfl⟩ := putCells_some hput
          have hf := flat_rel (c := c) e _ _ d2
          have hfl := VRels.length _ _ hf
          have hod : off + vs.length ≤ d.length := by rw [← hfl]; exact p1
          have hnew := VRels.append _ _ _ _ (VRels.append _ _ _ _ (VRels.take off _ _ hf) r1) (VRels.drop (off + vs.length) _ _ hf)
          have hd' := mkAll_rel hmk hnew
          have hdl := DRel.length _ _ _ hd'
          have hcl : cur.toList = l1 ++ d ++ l2 ++ cur.toList.drop (xs.length * e.size) := by
            rw [← d3, ← e7, List.take_append_drop]
          have hcs : cur.size = xs.length * e.size + (cur.toList.drop (xs.length * e.size)).length := by
            have h1 := congrArg List.length hcl
            have h2 := congrArg List.length d3
            rw [hown.1] at h2
            simp only [List.length_append, Array.length_toList] at h1 h2
            omega
          have hzl := congrArg List.length d3
          rw [hown.1] at hzl
          simp only [List.length_append] at hzl
          have hrun := run_storeAt (o := i * e.size + off) hT hk e3 (v := a.eval y) (by rw [← hl, hlen]) (by omega) r2
          rw [← q2] at hrun
          have hseg : cur.toList.take (i * e.size + off) ++ (a.eval y).cells.toList ++ cur.toList.drop (i * e.size + off + (a.eval y).cells.size) = l1 ++ (d.take off ++ (a.eval y).cells.toList ++ d.drop (off + vs.length)) ++ l2 ++ cur.toList.drop (xs.length * e.size) := by
            have t1 : cur.toList.take (i * e.size + off) = l1 ++ d.take off := by
              rw [hcl, List.append_assoc, List.append_assoc, List.take_append, List.take_of_length_le (by omega), d4, Nat.add_sub_cancel_left, List.take_append_of_le_length (by omega)]
            have t2 : cur.toList.drop (i * e.size + off + (a.eval y).cells.size) = d.drop (off + vs.length) ++ l2 ++ cur.toList.drop (xs.length * e.size) := by
              conv => lhs; rw [hcl]
              rw [List.append_assoc, List.append_assoc, List.drop_append, List.drop_of_length_le (by omega), List.nil_append, d4, List.drop_append, List.drop_append]
              have z1 : i * e.size + off + (a.eval y).cells.size - i * e.size = off + vs.length := by omega
              have z2 : off + vs.length - d.length = 0 := by omega
              rw [z1, z2]
              simp
            rw [t1, t2]; simp
          rw [hseg] at hrun
          have hL2 := LRel.set x' (d.take off ++ (a.eval y).cells.toList ++ d.drop (off + vs.length)) hdl hd' i xs l1 d l2 hi (by rw [← d3]; exact hL) d4 d1
          generalize d.take off ++ (a.eval y).cells.toList ++ d.drop (off + vs.length) = d' at *
          have hlike : (AObj.arr e u xs).like (c.mu id) (.arr e u (setI xs i x')) (c.mu id) := ⟨Nat.le_refl _, fun _ => ⟨rfl, rfl⟩⟩
          have hblk : (AObj.arr e u xs).blk (c.mu id) = some g' := by simp [AObj.blk, q1, Value.ownBlock]
          have hsz : c.w.heap.size ≤ (c.w.setRow g' (l1 ++ d' ++ l2 ++ cur.toList.drop (xs.length * e.size)).toArray).heap.size := by simp
          have hbb : ∀ b, b < c.w.heap.size → (AObj.arr e u xs).blk (c.mu id) ≠ some b → (c.w.setRow g' (l1 ++ d' ++ l2 ++ cur.toList.drop (xs.length * e.size)).toArray).heap[b]? = c.w.heap[b]? :=
            fun b _ hne => setRow_other _ _ _ _ (fun e => hne (by rw [hblk, e]))
          have hll : ∀ b, (AObj.arr e u (setI xs i x')).blk (c.mu id) = some b → (AObj.arr e u xs).blk (c.mu id) = some b ∨ c.w.heap.size ≤ b := fun b hb => .inl hb
          have hlp : ∀ (b : Nat) (L : Loop), (AObj.arr e u xs).blk (c.mu id) = some b → c.w.heap[b]? = some (Obj.loop L) → ∃ L' : Loop, (c.w.setRow g' (l1 ++ d' ++ l2 ++ cur.toList.drop (xs.length * e.size)).toArray).heap[b]? = some (Obj.loop L') := fun b L hb hL => absurd hL ((hok.obj id _ harr).no_loop (by simp) hb)
          have hle := Cx.Le.put (w := c.w.setRow g' (l1 ++ d' ++ l2 ++ cur.toList.drop (xs.length * e.size)).toArray) hok harr hlike hsz hbb hll hlp
          have hBel : Below W0.heap.size W0 (c.w.setRow g' (l1 ++ d' ++ l2 ++ cur.toList.drop (xs.length * e.size)).toArray) :=
            hok.bel.trans ⟨rfl, rfl, rfl, by simp, fun k hk => setRow_other _ _ _ _ (by omega)⟩
          refine ⟨_, undef, c.put id _ (c.mu id) _, _, h, ⟨by simp [Cx.put, hhp], hnx, rfl, rfl, hok.put harr hlike hBel hsz hbb hll hlp ?_, hle⟩, by simp [VRel], .inr ⟨hexec _ _ hrun, rfl⟩⟩
          refine ⟨hpos, e0, l1 ++ d' ++ l2, ?_, LRel.mono (DRel.mono hle.free e) _ _ hL2⟩
          have hlen2 : (l1 ++ d' ++ l2).length = xs.length * e.size := by
            rw [LRel.length _ _ hL2]; simp
          simp only [Cx.put, upd_same, setI, List.length_set]
          refine ⟨hlen2, .inr ⟨g', cp', _, q1, e2, setRow_heap c.w _ cur _ e0 _ e3, e4, e5, ?_, ?_⟩⟩
          · simp only [List.size_toArray, List.length_append] at hlen2 ⊢
            omega
          · simp only [List.toList_toArray]
            rw [← hlen2]
            exact List.take_left
        · cases h
      · cases h
    · cases h
  · cases h

end
end Go.Proofs.Ytfeklnaeolangaa
