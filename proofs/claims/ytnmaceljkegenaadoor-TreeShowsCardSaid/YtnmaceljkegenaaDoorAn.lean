/-
  The plain machine: storing, converting, functions; all operations of our own together.
-/
import Derived.Test.YtnmaceljkegenaaDoorAm
import Derived.Lib.UnsafeStr
namespace Go.Proofs.YtnmaceljkegenaaDoor
open Go.RowKit
set_option linter.unusedVariables false
set_option linter.unusedSimpArgs false

section
variable {P : Program} {T : TT} {W0 : World} {c : Cx} {R : Type} {r : R} {t : TypeId}

theorem putCells_some {cs vs cs' : List AVal} {off : Nat} (h : putCells cs off vs = some cs') : off + vs.length ≤ cs.length ∧ cs' = cs.take off ++ vs ++ cs.drop (off + vs.length) := by
  unfold putCells at h
  replace h := bif_some h
  exact ⟨by simpa using h.1, (Option.some.inj h.2).symm⟩

theorem run_storeAt (hT : TOk P T) (hk : (T.at t).known = true) {w : World} {g o : Nat} {cur : Array Value} {e : TypeId} (hg : w.heap[g]? = some (.cells cur e (0, 0))) {v : Value} (hl : v.cells.size = (T.at t).size) (hfit : o + v.cells.size ≤ cur.size)
    (h1 : ∀ u ∈ v.cells.toList, u.oneCell' = true) :
    (Instr.storeAt t (.pointer (some ⟨g, o, none⟩)) v).run P w = .ok () (w.setRow g (cur.toList.take o ++ v.cells.toList ++ cur.toList.drop (o + v.cells.size)).toArray) := by
  have hst := run_storeCells_at P g o e v.cells.toList 0 cur w hg (by simpa using hfit) h1
  simp only [Nat.add_zero, Array.length_toList] at hst
  simp only [Instr.storeAt, Instr.sureAddr, Sem.run_bind, Sem.run_pure, Result.andThen_ok, storeVar, hT.sizeOf hk w, Sem.run_ite]
  rw [if_neg (by simp [hl])]
  exact hst

theorem l_store0 (hT : TOk P T) (hok : c.Ok W0) {dst : Option Nat} {ty : TypeId} {pos} {after} {guard} {st : St} {a : Act} {K : St → Option R} {x y : Operand} (hhp : c.hp = st.hp) (hnx : c.nxt = st.nxt) (hfr : VRels c st.fr a.tmps.toList)
    (h : evStore T st t (evalO st.fr x) (evalO st.fr y) K = some r) : ∃ c' st', K st' = some r ∧ Did W0 c st c' st' ∧ (execOp a.eval ⟨dst, .store t x y, ty, pos, after, guard⟩).run P c.w = .ok .skip c'.w := by
  simp only [evStore] at h
  split at h
  · cases h
  rename_i vs hvs
  replace h := bif_some h
  obtain ⟨hk, h⟩ := h
  simp only [Bool.and_eq_true, beq_iff_eq] at hk
  obtain ⟨hk, hlen⟩ := hk
  obtain ⟨r1, r2⟩ := cells_rel hvs (evalO_rel hfr y)
  have hl : vs.length = (a.eval y).cells.size := by simpa using VRels.length _ _ r1
  have hx := evalO_rel hfr x
  have hexec : ∀ w w', (Instr.storeAt t (a.eval x) (a.eval y)).run P w = .ok () w' → (execOp a.eval ⟨dst, .store t x y, ty, pos, after, guard⟩).run P w = .ok .skip w' := fun w w' hw => by
    simp [execOp, Sem.run_bind, hw]
  split at h
  · rename_i id off hid
    rw [hid] at hx
    split at h
    · rename_i bt cs hcs
      split at h
      · rename_i cs' hput
        obtain ⟨p1, rfl⟩ := putCells_some hput
        rw [← hhp] at hcs
        simp only [VRel] at hx
        have hv := hx.2.2 _ _ hcs
        obtain ⟨hB, us, h3, h4, h5⟩ := hok.obj id _ hcs
        have hlu : cs.length = us.size := by simpa using VRels.length _ _ h4
        have hrun := run_storeAt (o := off) hT hk h3 (v := a.eval y) (by rw [← hl, hlen]) (by omega) r2
        rw [← hv] at hrun
        have hlike : (AObj.box bt cs).like (c.mu id) (.box bt (cs.take off ++ vs ++ cs.drop (off + vs.length))) (c.mu id) := rfl
        have hsz : c.w.heap.size ≤ (c.w.setRow (c.mu id).blk (us.toList.take off ++ (a.eval y).cells.toList ++ us.toList.drop (off + (a.eval y).cells.size)).toArray).heap.size := by simp
        have hbb : ∀ b, b < c.w.heap.size → (AObj.box bt cs).blk (c.mu id) ≠ some b → (c.w.setRow (c.mu id).blk (us.toList.take off ++ (a.eval y).cells.toList ++ us.toList.drop (off + (a.eval y).cells.size)).toArray).heap[b]? = c.w.heap[b]? :=
          fun b _ hne => setRow_other _ _ _ _ (fun e => hne (by simp [AObj.blk, e]))
        have hll : ∀ b, (AObj.box bt (cs.take off ++ vs ++ cs.drop (off + vs.length))).blk (c.mu id) = some b → (AObj.box bt cs).blk (c.mu id) = some b ∨ c.w.heap.size ≤ b := fun b hb => .inl hb
        have hlp : ∀ (b : Nat) (L : Loop), (AObj.box bt cs).blk (c.mu id) = some b → c.w.heap[b]? = some (Obj.loop L) → ∃ L' : Loop, (c.w.setRow (c.mu id).blk (us.toList.take off ++ (a.eval y).cells.toList ++ us.toList.drop (off + (a.eval y).cells.size)).toArray).heap[b]? = some (Obj.loop L') := fun b L hb hL => absurd hL ((hok.obj id _ hcs).no_loop (by simp) hb)
        have hle := Cx.Le.put (w := c.w.setRow (c.mu id).blk (us.toList.take off ++ (a.eval y).cells.toList ++ us.toList.drop (off + (a.eval y).cells.size)).toArray) hok hcs hlike hsz hbb hll hlp
        have hBel : Below W0.heap.size W0 (c.w.setRow (c.mu id).blk (us.toList.take off ++ (a.eval y).cells.toList ++ us.toList.drop (off + (a.eval y).cells.size)).toArray) :=
          hok.bel.trans ⟨rfl, rfl, rfl, by simp, fun k hk => setRow_other _ _ _ _ (by omega)⟩
        refine ⟨c.put id _ (c.mu id) _, _, h, ⟨by simp [Cx.put, hhp], hnx, rfl, rfl, hok.put hcs hlike hBel hsz hbb hll hlp ?_, hle⟩, hexec _ _ hrun⟩
        refine ⟨by simp only [Cx.put, upd_same]; exact hB, (us.toList.take off ++ (a.eval y).cells.toList ++ us.toList.drop (off + (a.eval y).cells.size)).toArray, ?_, ?_, ?_⟩
        · simp only [Cx.put, upd_same]
          exact setRow_heap c.w _ us _ bt _ h3
        · have := VRels.append _ _ _ _ (VRels.append _ _ _ _ (VRels.take off _ _ h4) r1) (VRels.drop (off + vs.length) _ _ h4)
          have this' : VRels c (cs.take off ++ vs ++ cs.drop (off + vs.length)) (us.toList.take off ++ (a.eval y).cells.toList ++ us.toList.drop (off + (a.eval y).cells.size)) := by
            rw [← hl]; exact this
          exact VRels.le hle _ _ this'
        · intro u hu
          simp only [List.toList_toArray] at hu
          rcases List.mem_append.1 hu with hu | hu
          · rcases List.mem_append.1 hu with hu | hu
            · exact h5 u (List.mem_of_mem_take hu)
            · exact r2 u hu
          · exact h5 u (List.mem_of_mem_drop hu)
      · cases h
    · cases h
  · rename_i id ver i off hid
    rw [hid] at hx
    split at h
    · rename_i e u xs harr
      rw [← hhp] at harr
      replace h := bif_some h
      obtain ⟨hver, h⟩ := h
      have hver : u = ver := by simpa using hver
      subst hver
      replace h := bif_some h
      obtain ⟨hi, h⟩ := h
      have hi : i < xs.length := by simpa [ltN] using hi
      split at h
      · rename_i cs hput
        split at h
        · rename_i x' hmk
          simp only [VRel] at hx
          obtain ⟨g', n', cp', q1, q2⟩ := (hx.2.2 _ _ _ harr).2 rfl
          obtain ⟨hpos, e0, zs, hown, hL, hty⟩ := hok.obj id _ harr
          rcases hown.2 with ⟨e1, e2⟩ | ⟨g, cap, cur, e1, e2, e3, e4, e5, e6, e7⟩
          · omega
          rw [q1] at e1
          simp only [Value.slice.injEq, Option.some.injEq, Addr.mk.injEq, and_true] at e1
          obtain ⟨rfl, rfl, rfl⟩ := e1
          obtain ⟨d, d1, d2, l1, l2, d3, d4⟩ := LRel.at_ i xs zs hi hL
          have hgx : xs.getD i e.dflt = xs[i] := by simp [List.getD, hi]
          rw [hgx] at hput
          obtain ⟨p1, rfl⟩ := putCells_some hput
          have hf := flat_rel (c := c) e _ _ d2
          have hfl := VRels.length _ _ hf
          have hod : off + vs.length ≤ d.length := by rw [← hfl]; exact p1
          have hnew := VRels.append _ _ _ _ (VRels.append _ _ _ _ (VRels.take off _ _ hf) r1) (VRels.drop (off + vs.length) _ _ hf)
          have hd' := mkAll_rel hmk hnew
          have hdl := DRel.length _ _ _ hd'
          have hcl : cur.toList = l1 ++ d ++ l2 ++ cur.toList.drop (xs.length * e.size) := by
            rw [← d3, ← e7, List.take_append_drop]
          have hcs : cur.size = xs.length * e.size + (cur.toList.drop (xs.length * e.size)).length := by
            have h1 := congrArg List.length hcl
            have h2 := congrArg List.length d3
            rw [hown.1] at h2
            simp only [List.length_append, Array.length_toList] at h1 h2
            omega
          have hzl := congrArg List.length d3
          rw [hown.1] at hzl
          simp only [List.length_append] at hzl
          have hrun := run_storeAt (o := i * e.size + off) hT hk e3 (v := a.eval y) (by rw [← hl, hlen]) (by omega) r2
          rw [← q2] at hrun
          have hseg : cur.toList.take (i * e.size + off) ++ (a.eval y).cells.toList ++ cur.toList.drop (i * e.size + off + (a.eval y).cells.size) = l1 ++ (d.take off ++ (a.eval y).cells.toList ++ d.drop (off + vs.length)) ++ l2 ++ cur.toList.drop (xs.length * e.size) := by
            have t1 : cur.toList.take (i * e.size + off) = l1 ++ d.take off := by
              rw [hcl, List.append_assoc, List.append_assoc, List.take_append, List.take_of_length_le (by omega), d4, Nat.add_sub_cancel_left, List.take_append_of_le_length (by omega)]
            have t2 : cur.toList.drop (i * e.size + off + (a.eval y).cells.size) = d.drop (off + vs.length) ++ l2 ++ cur.toList.drop (xs.length * e.size) := by
              conv => lhs; rw [hcl]
              rw [List.append_assoc, List.append_assoc, List.drop_append, List.drop_of_length_le (by omega), List.nil_append, d4, List.drop_append, List.drop_append]
              have z1 : i * e.size + off + (a.eval y).cells.size - i * e.size = off + vs.length := by omega
              have z2 : off + vs.length - d.length = 0 := by omega
              rw [z1, z2]
              simp
            rw [t1, t2]; simp
          rw [hseg] at hrun
          have hL2 := LRel.set x' (d.take off ++ (a.eval y).cells.toList ++ d.drop (off + vs.length)) hdl hd' i xs l1 d l2 hi (by rw [← d3]; exact hL) d4 d1
          generalize d.take off ++ (a.eval y).cells.toList ++ d.drop (off + vs.length) = d' at *
          have hlike : (AObj.arr e u xs).like (c.mu id) (.arr e u (setI xs i x')) (c.mu id) := ⟨Nat.le_refl _, fun _ => ⟨rfl, rfl⟩⟩
          have hblk : (AObj.arr e u xs).blk (c.mu id) = some g' := by simp [AObj.blk, q1, Value.ownBlock]
          have hsz : c.w.heap.size ≤ (c.w.setRow g' (l1 ++ d' ++ l2 ++ cur.toList.drop (xs.length * e.size)).toArray).heap.size := by simp
          have hbb : ∀ b, b < c.w.heap.size → (AObj.arr e u xs).blk (c.mu id) ≠ some b → (c.w.setRow g' (l1 ++ d' ++ l2 ++ cur.toList.drop (xs.length * e.size)).toArray).heap[b]? = c.w.heap[b]? :=
            fun b _ hne => setRow_other _ _ _ _ (fun e => hne (by rw [hblk, e]))
          have hll : ∀ b, (AObj.arr e u (setI xs i x')).blk (c.mu id) = some b → (AObj.arr e u xs).blk (c.mu id) = some b ∨ c.w.heap.size ≤ b := fun b hb => .inl hb
          have hlp : ∀ (b : Nat) (L : Loop), (AObj.arr e u xs).blk (c.mu id) = some b → c.w.heap[b]? = some (Obj.loop L) → ∃ L' : Loop, (c.w.setRow g' (l1 ++ d' ++ l2 ++ cur.toList.drop (xs.length * e.size)).toArray).heap[b]? = some (Obj.loop L') := fun b L hb hL => absurd hL ((hok.obj id _ harr).no_loop (by simp) hb)
          have hle := Cx.Le.put (w := c.w.setRow g' (l1 ++ d' ++ l2 ++ cur.toList.drop (xs.length * e.size)).toArray) hok harr hlike hsz hbb hll hlp
          have hBel : Below W0.heap.size W0 (c.w.setRow g' (l1 ++ d' ++ l2 ++ cur.toList.drop (xs.length * e.size)).toArray) :=
            hok.bel.trans ⟨rfl, rfl, rfl, by simp, fun k hk => setRow_other _ _ _ _ (by omega)⟩
          refine ⟨c.put id _ (c.mu id) _, _, h, ⟨by simp [Cx.put, hhp], hnx, rfl, rfl, hok.put harr hlike hBel hsz hbb hll hlp ?_, hle⟩, hexec _ _ hrun⟩
          refine ⟨hpos, e0, l1 ++ d' ++ l2, ?_, LRel.mono (DRel.mono hle.free e) _ _ hL2, hty⟩
          have hlen2 : (l1 ++ d' ++ l2).length = xs.length * e.size := by
            rw [LRel.length _ _ hL2]; simp
          simp only [Cx.put, upd_same, setI, List.length_set]
          refine ⟨hlen2, .inr ⟨g', cp', _, q1, e2, setRow_heap c.w _ cur _ e0 _ e3, e4, e5, ?_, ?_⟩⟩
          · simp only [List.size_toArray, List.length_append] at hlen2 ⊢
            omega
          · simp only [List.toList_toArray]
            rw [← hlen2]
            exact List.take_left
        · cases h
      · cases h
    · cases h
  · cases h

/-- the front of a row of our own -/
theorem ownsRow_front {w : World} {B : Nat} {e : TypeId} {size n : Nat} {v v' : Value} {zs : List Value} (h : w.ownsRow B e size v n zs) {hi : Int} (h0 : 0 ≤ hi) (hn : hi ≤ n) (hv : ViewIs size v (some (0, hi)) v') :
    w.ownsRow B e size v' hi.toNat (zs.take (hi.toNat * size)) ∧ ∀ b, v'.ownBlock = some b → v.ownBlock = some b := by
  obtain ⟨a, m, cp, e1, _, _, e4, e5⟩ := hv
  have hk : hi.toNat ≤ n := by omega
  have hlen : (zs.take (hi.toNat * size)).length = hi.toNat * size := by
    rw [List.length_take, h.1]
    exact Nat.min_eq_left (Nat.mul_le_mul_right _ hk)
  rcases h.2 with ⟨h1, h2⟩ | ⟨g, cap, cur, h1, h2, h3, h4, h5, h6, h7⟩
  · rw [e1] at h1
    cases h1
    subst h2
    have : hi.toNat = 0 := by omega
    have hv' : v' = .slice none 0 0 := by rw [e5, this]; rfl
    subst hv'
    refine ⟨⟨hlen, .inl ⟨rfl, this⟩⟩, fun b hb => by cases hb⟩
  · rw [e1] at h1
    cases h1
    have hv' : v' = .slice (some ⟨g, 0, none⟩) hi.toNat cp := by
      rw [e5]
      simp [Addr.add]
    subst hv'
    subst e1
    refine ⟨⟨hlen, .inr ⟨g, cp, cur, rfl, h2, h3, by omega, h5, h6, ?_⟩⟩, fun b hb => hb⟩
    rw [← h7, List.take_take, Nat.min_eq_left (Nat.mul_le_mul_right _ hk)]

/-- a slice's own cell that holds its own front: the slice is cut short -/
theorem cut_did {st : St} {c' : Cx} {st' : St} (hd : Did W0 c st c' st') {id off i : Nat} {bt : TypeId} {cs : List AVal} {e : Ty} {w : Nat} {xs : List e.den} {hi : Int} (hne : id ≠ i)
    (hbox : hget st'.hp id = some (.box bt cs)) (harr : hget st'.hp i = some (.arr e w xs)) (hcell : cs.getD off .undef = .slc i w (some (0, hi))) :
    ∃ c'', Did W0 c st c'' { st' with hp := hset (hset st'.hp i (.arr e (w + 1) (xs.take hi.toNat))) id (.box bt (cs.set off (.slc i (w + 1) none))) } ∧ c''.w = c'.w := by
  have hok := hd.ok
  rw [← hd.hp] at hbox harr
  obtain ⟨hB, us, h3, h4, h5⟩ := hok.obj id _ hbox
  have hlu : cs.length = us.toList.length := VRels.length _ _ h4
  have hoff : off < cs.length := by
    rcases Nat.lt_or_ge off cs.length with h | h
    · exact h
    · rw [List.getD_eq_getElem?_getD, List.getElem?_eq_none h] at hcell; cases hcell
  have hou : off < us.toList.length := by omega
  have hv : VRel c' (.slc i w (some (0, hi))) us.toList[off] := by
    have := VRels.getD h4 off
    rw [hcell, Array.getD, dif_pos (by simpa using hou)] at this
    exact this
  obtain ⟨hpos, e0, zs, hown, hL, hty⟩ := hok.obj i _ harr
  have hv1 := hv
  simp only [VRel] at hv1
  have hview := (hv1.2.2 _ _ _ harr).2 rfl
  have ⟨hb1, hb2⟩ : 0 ≤ hi ∧ hi ≤ lenI xs := by
    obtain ⟨a1, n1, c1, e1, _, p2, p3, _⟩ := hview
    obtain ⟨a2, c2, e2, _⟩ := row_form hown
    rw [e2] at e1
    cases e1
    exact ⟨p2, p3⟩
  obtain ⟨hown', hblk⟩ := ownsRow_front hown hb1 hb2 hview
  have hk : (AObj.arr e w xs).like (c'.mu i) (.arr e (w + 1) (xs.take hi.toNat)) ⟨(c'.mu i).blk, us.toList[off]⟩ := ⟨by omega, fun e => by omega⟩
  have hle := Cx.Le.put (w := c'.w) hok harr hk (Nat.le_refl _) (fun _ _ _ => rfl) (fun b hb => .inl (hblk b hb)) (fun b L _ hL => ⟨L, hL⟩)
  have hok1 := Cx.Ok.put (w := c'.w) hok harr hk hok.bel (Nat.le_refl _) (fun _ _ _ => rfl) (fun b hb => .inl (hblk b hb)) (fun b L _ hL => ⟨L, hL⟩) (by
    refine ⟨hpos, e0, zs.take (hi.toNat * e.size), ?_, LRel.take _ _ _ (LRel.mono (DRel.mono hle.free e) _ _ hL), hty⟩
    have : (xs.take hi.toNat).length = hi.toNat := by rw [List.length_take]; simp only [lenI] at hb2; omega
    rw [this]
    simp only [Cx.put, upd_same]
    exact hown')
  have hnew : VRel (c'.put i (AObj.arr e (w + 1) (List.take hi.toNat xs)) ⟨(c'.mu i).blk, us.toList[off]⟩ c'.w) (.slc i (w + 1) none) us.toList[off] := by
    simp only [VRel]
    refine ⟨hv1.1, .inl ⟨_, Cx.put_get harr⟩, fun t' u' xs' hg' => ?_⟩
    rw [Cx.put_get harr] at hg'
    cases hg'
    exact ⟨Nat.le_refl _, fun _ => by simp [ViewIs, Cx.put, upd_same]⟩
  have hbox1 : hget (c'.put i (AObj.arr e (w + 1) (List.take hi.toNat xs)) ⟨(c'.mu i).blk, us.toList[off]⟩ c'.w).hp id = some (.box bt cs) := by
    simp only [Cx.put, hget_hset]
    rw [if_neg (fun e => hne e.symm)]
    exact hbox
  have hmu1 : (c'.put i (AObj.arr e (w + 1) (List.take hi.toNat xs)) ⟨(c'.mu i).blk, us.toList[off]⟩ c'.w).mu id = c'.mu id := by
    simp only [Cx.put]
    exact upd_ne _ _ hne
  generalize hc1 : c'.put i (AObj.arr e (w + 1) (List.take hi.toNat xs)) ⟨(c'.mu i).blk, us.toList[off]⟩ c'.w = c1 at *
  have hw1 : c1.w = c'.w := by rw [← hc1]; rfl
  have hhp1 : c1.hp = hset c'.hp i (.arr e (w + 1) (xs.take hi.toNat)) := by rw [← hc1]; rfl
  have hnx1 : c1.nxt = c'.nxt := by rw [← hc1]; rfl
  have hk2 : (AObj.box bt cs).like (c1.mu id) (.box bt (cs.set off (.slc i (w + 1) none))) (c1.mu id) := rfl
  have hle2 := Cx.Le.put (w := c1.w) hok1 hbox1 hk2 (Nat.le_refl _) (fun _ _ _ => rfl) (fun b hb => .inl hb) (fun b L _ hL => ⟨L, hL⟩)
  have hok2 := Cx.Ok.put (w := c1.w) hok1 hbox1 hk2 hok1.bel (Nat.le_refl _) (fun _ _ _ => rfl) (fun b hb => .inl hb) (fun b L _ hL => ⟨L, hL⟩) (by
    refine ⟨by simp only [Cx.put, upd_same]; rw [hmu1]; exact hB, us, by simp only [Cx.put, upd_same]; rw [hmu1, hw1]; exact h3, ?_, h5⟩
    exact VRels.le hle2 _ _ (VRels.setL off _ _ (VRels.le hle _ _ h4) fun _ => hnew))
  refine ⟨_, ⟨?_, ?_, hd.fr, hd.stk, hok2, (hd.le.trans hle).trans hle2⟩, hw1⟩
  · simp only [Cx.put]
    rw [hhp1, hd.hp]
  · show c1.nxt = st'.nxt
    rw [hnx1, hd.nxt]

theorem evCut_did {old : Heap} {st : St} {x y : AVal} {K : St → Option R} {c' : Cx} {st' : St} (hd : Did W0 c st c' st') (h : evCut old st' x y K = some r) : ∃ c'' st'', K st'' = some r ∧ Did W0 c st c'' st'' ∧ c''.w = c'.w := by
  have same : K st' = some r → ∃ c'' st'', K st'' = some r ∧ Did W0 c st c'' st'' ∧ c''.w = c'.w := fun h => ⟨c', st', h, hd, rfl⟩
  unfold evCut at h
  split at h
  · split at h
    · split at h
      · rw [cond_eq_ite] at h
        split at h
        · rename_i hne
          simp only [Bool.and_eq_true, Bool.not_eq_true'] at hne
          split at h
          · rename_i hbox harr
            split at h
            · rename_i hcell
              rw [cond_eq_ite] at h
              split at h
              · rename_i hb
                simp only [Bool.and_eq_true, beq_iff_eq] at hb
                obtain ⟨b1, b2, b3⟩ := hb
                have b1 := Nat.eq_of_beq_eq_true b1
                subst b1 b2 b3
                obtain ⟨c'', k1, k2⟩ := cut_did hd (fun e => by subst e; simp at hne) hbox harr hcell
                exact ⟨c'', _, h, k1, k2⟩
              · exact same h
            · exact same h
          · exact same h
        · exact same h
      · exact same h
    · exact same h
  · exact same h

theorem l_store (hT : TOk P T) (hok : c.Ok W0) {cl : Bool} {call : CallFn R} {o : Oper} {st : St} {a : Act} {K : AVal → St → Option R} {x y : Operand} (hhp : c.hp = st.hp) (hnx : c.nxt = st.nxt) (hfr : VRels c st.fr a.tmps.toList)
    (ho : o.op = .store t x y) (h : evalOp T cl call o st K = some r) : Loud P W0 c st o a K r := by
  obtain ⟨dst, op, ty, pos, after, guard⟩ := o
  simp only at ho
  subst ho
  simp only [evalOp] at h
  obtain ⟨c', st', h1, hd, hx⟩ := l_store0 (dst := dst) (ty := ty) (pos := pos) (after := after) (guard := guard) hT hok hhp hnx hfr h
  obtain ⟨c'', st'', h2, hd2, hw⟩ := evCut_did hd h1
  exact ⟨_, undef, c'', st'', h2, hd2, by simp [VRel], .inr ⟨by rw [hw]; exact hx, rfl⟩⟩

/-! ### the first element's address, and the text of bytes -/

theorem run_sliceData (w : World) (t et ty : TypeId) (B : Nat) (size n : Nat) (v : Value) (zs : List Value) (e0 : TypeId) (h : w.ownsRow B e0 size v n zs) (hty : P.underlying ty = some (.pointer et)) :
    ∃ u w', (Builtin.unsafeSliceData_ #[t] ty #[v]).run P w = .ok u w' ∧ Below w.heap.size w w' ∧ u.oneCell' = true ∧ (∃ p, u = .pointer p) ∧ ∀ a m cp, v = .slice a m cp → m ≠ 0 → u = .pointer a := by
  rcases h.2 with ⟨rfl, rfl⟩ | ⟨g, cap, cur, rfl, _, hg, hnc, _⟩
  · exact ⟨_, w, Lib.run_unsafeSliceData_nil w _ _ 0 0, Below.refl _ _, rfl, ⟨_, rfl⟩, fun a m cp h hm => by cases h; exact absurd rfl hm⟩
  · by_cases hc : cap = 0
    · subst hc
      refine ⟨_, _, Lib.run_unsafeSliceData_zero w _ _ et hty ⟨g, 0, none⟩ n (e0, cur.size) (by simp [World.shape?, hg]), below_alloc _ _, rfl, ⟨_, rfl⟩, fun a m cp h hm => ?_⟩
      cases h
      omega
    · exact ⟨_, w, Lib.run_unsafeSliceData_row w _ _ _ _ _ hc, Below.refl _ _, rfl, ⟨_, rfl⟩, fun a m cp h _ => by cases h; rfl⟩

theorem l_sliceData (hT : TOk P T) (hok : c.Ok W0) {cl : Bool} {call : CallFn R} {o : Oper} {st : St} {a : Act} {K : AVal → St → Option R} {args : Array Operand} {ts : Array TypeId} (hhp : c.hp = st.hp) (hnx : c.nxt = st.nxt) (hfr : VRels c st.fr a.tmps.toList)
    (ho : o.op = .call { callee := .builtin .unsafeSliceData, args := args, argTypes := ts }) (h : evalOp T cl call o st K = some r) : Loud P W0 c st o a K r := by
  obtain ⟨dst, op, ty, pos, after, guard⟩ := o
  simp only at ho
  subst ho
  simp only [evalOp, evBuiltin] at h
  split at h <;> try (cases h; done)
  all_goals try (rename_i hb _; cases hb; done)
  rename_i id ver hb hargs
  split at h <;> try (cases h; done)
  rename_i t hts
  split at h <;> try (cases h; done)
  rename_i e v xs harr
  rw [cond_eq_ite] at h
  split at h
  · rename_i hc
    simp only [Bool.and_eq_true, beq_iff_eq] at hc
    obtain ⟨rfl, hrow, htyk⟩ := hc
    obtain ⟨ts⟩ := ts
    simp only at hts
    subst hts
    obtain ⟨al⟩ := args
    match al with
    | [] => simp at hargs
    | _ :: _ :: _ => simp at hargs
    | [s0] =>
      simp only [List.map_cons, List.map_nil, List.cons.injEq, and_true] at hargs
      have hs := evalO_rel hfr s0
      rw [hargs] at hs
      simp only [VRel] at hs
      rw [← hhp] at harr
      have hs1 := (hs.2.2 _ _ _ harr).2 rfl
      simp only [ViewIs] at hs1
      obtain ⟨_, e0, zs, hown, hL, hty⟩ := hok.obj id _ harr
      obtain ⟨et, hund⟩ := hT.isPtr htyk
      obtain ⟨u, w', hr, hbw, hone, hp, hpa⟩ := run_sliceData c.w t et ty W0.heap.size e.size xs.length (c.mu id).v zs e0 hown hund
      refine ⟨_, u, c.at_ w', st, h, ⟨hhp, hnx, rfl, rfl, hok.ext hbw, Cx.Le.ext hbw⟩, ?_, .inl ?_⟩
      · simp only [VRel]
        refine ⟨hone, .inl ⟨_, harr⟩, fun t' u' xs' h' => ?_⟩
        have h' : hget c.hp id = some (.arr t' u' xs') := h'
        rw [harr] at h'
        cases h'
        exact ⟨Nat.le_refl _, fun _ => ⟨hp, hpa⟩⟩
      · have : (execOp a.eval ⟨dst, .call { callee := .builtin .unsafeSliceData, args := [s0].toArray, argTypes := [t].toArray }, ty, pos, after, guard⟩).run P c.w =
            ((Builtin.unsafeSliceData_ #[t] ty #[a.eval s0]).run P c.w).andThen fun v w' => .ok (.value v) w' := by
          simp [execOp, resolve, invoke, builtin, Sem.run_bind]
        rw [this, hs1, hr]; rfl
  · cases h

theorem ofBytes_cells {w : World} {fr : Nat → Prop} (xs : List Int) (zs : List Value) (h : LRel (DRel w fr (.int .u8)) 1 xs zs) : zs = xs.map (.int .u8) := ints_cells xs zs h

theorem run_loadInts (w : World) : ∀ (xs : List Int) (a : Addr) (acc : ByteArray), (∀ j x, xs[j]? = some x → w.cell? (a.add j) = some (.int .u8 x)) → (loadBytes a acc xs.length).run P w = .ok (xs.foldl (fun r n => r.push (UInt8.ofNat n.toNat)) acc) w
  | [], a, acc, _ => by simp [loadBytes]
  | x :: xs, a, acc, h => by
    have h0 : w.cell? a = some (.int .u8 x) := by
      have := h 0 x rfl
      simpa [Addr.add] using this
    have ih := run_loadInts w xs (a.add 1) (acc.push (UInt8.ofNat x.toNat)) fun j y hj => by
      have := h (j + 1) y (by simpa using hj)
      have e : (a.add 1).add j = a.add (j + 1) := by
        unfold Addr.add
        by_cases hj : j = 0
        · subst hj; simp
        · simp [hj]; omega
      rw [e]; exact this
    simp only [List.length_cons, loadBytes, List.foldl_cons]
    simpa [h0] using ih

theorem run_stringInts {pt it ty et : TypeId} (hp : P.underlying pt = some (.pointer et)) (hc : P.cellsOf et = 1) (w : World) (g cells : Nat) (hsh : w.shape? g = some (et, cells)) (xs : List Int) (h0 : xs ≠ []) (hn : xs.length ≤ cells) (h63 : xs.length ≤ 9223372036854775807)
    (hcell : ∀ j x, xs[j]? = some x → w.cell? ((⟨g, 0, none⟩ : Addr).add j) = some (.int .u8 x)) :
    (Builtin.unsafeString_ #[pt, it] ty #[.pointer (some ⟨g, 0, none⟩), .int .i64 xs.length]).run P w = .ok (.string ⟨(ofBytes xs).toArray⟩) (w.freeze ⟨g, 0, none⟩ xs.length) := by
  have hl : xs.length ≠ 0 := by simpa using h0
  have hlb := run_loadInts (P := P) w xs ⟨g, 0, none⟩ .empty hcell
  have hlies := Lib.liesAt_bytes (P := P) hc (cells / P.cellsOf et) xs.length (by rw [hc]; simpa using hn)
  have h63' : ¬ (9223372036854775807 : Int) < (xs.length : Int) := by omega
  have hdef : Builtin.unsafeString_ #[pt, it] ty #[.pointer (some ⟨g, 0, none⟩), .int .i64 xs.length] =
      (do
        let n ← asInt (.int .i64 xs.length)
        if n < 0 then runtimePanic (.error "unsafe.String: len out of range")
        if n > IntKind.i64.max then unsupported (.unsafePointer "String: a length above the largest int")
        if n = 0 then pure (.string .empty)
        else if ← variablesAt ⟨g, 0, none⟩ (← elemOf pt) n.toNat then do
          let s ← loadBytes ⟨g, 0, none⟩ .empty n.toNat
          freeze ⟨g, 0, none⟩ n.toNat
          pure (.string s)
        else unsupported (.unsafePointer "String: not so many bytes at ptr")) := rfl
  rw [hdef]
  have hmax : IntKind.i64.max = 9223372036854775807 := rfl
  have hneg : ¬ (xs.length : Int) < 0 := by omega
  have hfold := fold_push xs []
  have he : (⟨([] : List UInt8).toArray⟩ : ByteArray) = .empty := rfl
  rw [he] at hfold
  simp [asInt, asIntOf, hmax, h63', hneg, hl, variablesAt, hsh, elemOf, run_underlying hp, hlies, hlb]
  exact hfold

/-- a row of our own is given up -/
theorem kill_arr (hok : c.Ok W0) {st : St} (hhp : c.hp = st.hp) (hnx : c.nxt = st.nxt) {id ver : Nat} {e : Ty} {xs : List e.den} (harr : hget c.hp id = some (.arr e ver xs)) {w' : World} (hsz : c.w.heap.size ≤ w'.heap.size)
    (hbb : ∀ b, (c.mu id).v.ownBlock ≠ some b → w'.heap[b]? = c.w.heap[b]?) (hos : w'.os = c.w.os ∧ w'.tape = c.w.tape ∧ w'.output = c.w.output) :
    ∃ c', Did W0 c st c' { st with hp := hset st.hp id .dead } ∧ c'.w = w' := by
  have hlike : (AObj.arr e ver xs).like (c.mu id) .dead (c.mu id) := trivial
  have hlp : ∀ (b : Nat) (L : Loop), (AObj.arr e ver xs).blk (c.mu id) = some b → c.w.heap[b]? = some (Obj.loop L) → ∃ L' : Loop, w'.heap[b]? = some (Obj.loop L') := fun b L hb hL => absurd hL ((hok.obj id _ harr).no_loop (by simp) hb)
  have hll : ∀ b, AObj.dead.blk (c.mu id) = some b → (AObj.arr e ver xs).blk (c.mu id) = some b ∨ c.w.heap.size ≤ b := fun b hb => by cases hb
  have hb2 : ∀ b, b < c.w.heap.size → (AObj.arr e ver xs).blk (c.mu id) ≠ some b → w'.heap[b]? = c.w.heap[b]? := fun b _ hne => hbb b hne
  have hB : Below W0.heap.size W0 w' := by
    refine ⟨hos.1.trans hok.bel.os, hos.2.1.trans hok.bel.tape, hos.2.2.trans hok.bel.output, Nat.le_trans hok.bel.size hsz, fun b hb => (hbb b fun h => ?_).trans (hok.bel.block b hb)⟩
    have := ((hok.obj id _ harr).lt (b := b) h).1
    omega
  have hle := Cx.Le.put (w := w') hok harr hlike hsz hb2 hll hlp
  exact ⟨c.put id .dead (c.mu id) w', ⟨by simp [Cx.put, hhp], hnx, rfl, rfl, hok.put harr hlike hB hsz hb2 hll hlp trivial, hle⟩, rfl⟩

theorem l_unsafeString (hT : TOk P T) (hok : c.Ok W0) {cl : Bool} {call : CallFn R} {o : Oper} {st : St} {a : Act} {K : AVal → St → Option R} {args : Array Operand} {ts : Array TypeId} (hhp : c.hp = st.hp) (hnx : c.nxt = st.nxt) (hfr : VRels c st.fr a.tmps.toList)
    (ho : o.op = .call { callee := .builtin .unsafeString, args := args, argTypes := ts }) (h : evalOp T cl call o st K = some r) : Loud P W0 c st o a K r := by
  obtain ⟨dst, op, ty, pos, after, guard⟩ := o
  simp only at ho
  subst ho
  simp only [evalOp, evBuiltin] at h
  split at h <;> try (cases h; done)
  all_goals try (rename_i hb _; cases hb; done)
  rename_i id ver n hb hargs
  split at h <;> try (cases h; done)
  rename_i pt it hts
  split at h <;> try (cases h; done)
  rename_i v xs harr
  rw [cond_eq_ite] at h
  split at h
  · rename_i hc
    simp only [Bool.and_eq_true, beq_iff_eq] at hc
    obtain ⟨rfl, hpt⟩ := hc
    replace h := need_some h
    obtain ⟨hn, h⟩ := h
    have hn : n = (xs.length : Int) := by simpa [eqI, lenI] using hn
    subst hn
    obtain ⟨ts⟩ := ts
    simp only at hts
    subst hts
    obtain ⟨al⟩ := args
    match al with
    | [] => simp at hargs
    | [_] => simp at hargs
    | _ :: _ :: _ :: _ => simp at hargs
    | [s0, n0] =>
      simp only [List.map_cons, List.map_nil, List.cons.injEq, and_true] at hargs
      have hs := evalO_rel hfr s0
      have hn0 := evalO_rel hfr n0
      rw [hargs.1] at hs
      rw [hargs.2] at hn0
      simp only [VRel] at hs hn0
      have hn0 := hn0.int_inv
      rw [← hhp] at harr
      obtain ⟨hp, hpa⟩ := (hs.2.2 _ _ _ harr).2 rfl
      obtain ⟨_, e0, zs, hown, hL, hty⟩ := hok.obj id _ harr
      have hty := hty rfl
      obtain ⟨hund, hcl⟩ := hT.isBytes hpt
      have hexec : (execOp a.eval ⟨dst, .call { callee := .builtin .unsafeString, args := [s0, n0].toArray, argTypes := [pt, it].toArray }, ty, pos, after, guard⟩).run P c.w =
          ((Builtin.unsafeString_ #[pt, it] ty #[a.eval s0, a.eval n0]).run P c.w).andThen fun v w' => .ok (.value v) w' := by
        simp [execOp, resolve, invoke, builtin, Sem.run_bind]
      have hzs : zs = xs.map (.int .u8) := ints_cells xs zs hL
      by_cases hx : xs = []
      · subst hx
        obtain ⟨p, hp⟩ := hp
        obtain ⟨c', d1, d2⟩ := kill_arr hok hhp hnx harr (w' := c.w) (Nat.le_refl _) (fun _ _ => rfl) ⟨rfl, rfl, rfl⟩
        refine ⟨_, .string .empty, c', _, h, d1, ?_, .inl ?_⟩
        · simp only [VRel]; exact VD.str_mk
        · rw [hexec, hp, hn0]
          have := Lib.run_unsafeString_none (P := P) c.w pt it ty p
          simp only [List.length_nil, Int.natCast_zero] at this ⊢
          rw [this, d2]; rfl
      · have hx0 : xs.length ≠ 0 := by simpa using hx
        rcases hown.2 with ⟨_, h0⟩ | ⟨g, cap, cur, hv, hbg, hg, hnc, hcm, hcs, htake⟩
        · exact absurd h0 hx0
        · have hp := hpa _ _ _ hv hx0
          have hother : ∀ b, (c.mu id).v.ownBlock ≠ some b → (c.w.freeze ⟨g, 0, none⟩ xs.length).heap[b]? = c.w.heap[b]? := fun b hb => by
            have hne : g ≠ b := fun e => hb (by rw [hv, ← e]; rfl)
            unfold World.freeze
            rw [if_neg hx0]
            simp only [Array.getElem?_modify]
            rw [if_neg hne]
          have hsame : (c.w.freeze ⟨g, 0, none⟩ xs.length).heap.size = c.w.heap.size := by
            unfold World.freeze
            rw [if_neg hx0]; simp
          have hos : (c.w.freeze ⟨g, 0, none⟩ xs.length).os = c.w.os ∧ (c.w.freeze ⟨g, 0, none⟩ xs.length).tape = c.w.tape ∧ (c.w.freeze ⟨g, 0, none⟩ xs.length).output = c.w.output := by
            unfold World.freeze
            rw [if_neg hx0]; exact ⟨rfl, rfl, rfl⟩
          obtain ⟨c', d1, d2⟩ := kill_arr hok hhp hnx harr (w' := c.w.freeze ⟨g, 0, none⟩ xs.length) (Nat.le_of_eq hsame.symm) hother hos
          refine ⟨_, .string ⟨(ofBytes xs).toArray⟩, c', _, h, d1, ?_, .inl ?_⟩
          · simp only [VRel]; exact VD.str_mk
          · rw [hexec, hp, hn0]
            have hcells : ∀ j x, xs[j]? = some x → c.w.cell? ((⟨g, 0, none⟩ : Addr).add j) = some (.int .u8 x) := fun j x hj => by
              have := hown.cells (g := g) (by rw [hv]; rfl) j (.int .u8 x) (by rw [hzs]; simp [hj])
              exact this
            have hcs : cur.size = cap := by simpa [Ty.size] using hcs
            rw [run_stringInts (ty := ty) (it := it) hund hcl c.w g cur.size (by rw [← hty]; simp [World.shape?, hg]) xs hx (by omega) (by unfold maxLen at hcm; omega) hcells, d2]
            rfl
  · cases h
end
end Go.Proofs.YtnmaceljkegenaaDoor
