/-
  The plain machine: appending, storing, converting: the operations.
-/
import Derived.Test.YtnmaceljkegenaaDoorAl
namespace Go.Proofs.YtnmaceljkegenaaDoor
open Go.RowKit
set_option linter.unusedVariables false
set_option linter.unusedSimpArgs false

section
variable {P : Program} {T : TT} {W0 : World} {c : Cx} {R : Type} {r : R} {t : TypeId}

theorem fitI_spec {α : Type} {l : List α} {b : Nat} (h : fitI l b = true) : l.length * b ≤ 140737488355328 := by
  unfold fitI roomN at h
  exact of_decide_eq_true h

theorem LRel.one {w : World} {fr : Nat → Prop} {e : Ty} : ∀ (xs : List e.den) (zs : List Value), LRel (DRel w fr e) e.size xs zs → ∀ u ∈ zs, u.oneCell' = true
  | [], _, h => by cases h; simp
  | y :: ys, _, ⟨d, rest, e1, e2, e3, e4⟩ => by
    subst e1
    intro u hu
    rcases List.mem_append.1 hu with hu | hu
    · exact DRel.one _ _ _ e3 u hu
    · exact LRel.one ys rest e4 u hu

/-- a row of our own has become another one -/
theorem row_put (hok : c.Ok W0) {st : St} (hhp : c.hp = st.hp) (hnx : c.nxt = st.nxt) {e : Ty} (hpos : 0 < e.size) {id ver : Nat} {xs : List e.den} (harr : hget c.hp id = some (.arr e ver xs)) {v' : Value} {w' : World} {e1 : TypeId} {ws : List e.den} {zs' : List Value}
    (hown' : w'.ownsRow W0.heap.size e1 e.size v' ws.length zs') (hL : LRel (DRel c.w c.free e) e.size ws zs') (hgr : c.w.grownBy w' (c.mu id).v.ownBlock) (hlow : ∀ b, (c.mu id).v.ownBlock = some b → W0.heap.size ≤ b)
    (hblk : v'.ownBlock = (c.mu id).v.ownBlock ∨ v'.ownBlock = some c.w.heap.size) (hone : v'.oneCell' = true) (hty : e = .int .u8 → e1 = byteTy) :
    ∃ c', Did W0 c st c' { st with hp := hset st.hp id (.arr e (ver + 1) ws) } ∧ c'.w = w' ∧ VRel c' (.slc id (ver + 1) none) v' := by
  have hB : Below W0.heap.size W0 w' := hok.bel.grown hgr hok.size hlow
  have hlike : (AObj.arr e ver xs).like (c.mu id) (.arr e (ver + 1) ws) ⟨0, v'⟩ := ⟨by omega, fun h => by omega⟩
  have hbb : ∀ b, b < c.w.heap.size → (AObj.arr e ver xs).blk (c.mu id) ≠ some b → w'.heap[b]? = c.w.heap[b]? := fun b hb hne => hgr.block b hb (by
    intro h; apply hne; simp only [AObj.blk]; exact h.symm)
  have hll : ∀ b, (AObj.arr e (ver + 1) ws).blk ⟨0, v'⟩ = some b → (AObj.arr e ver xs).blk (c.mu id) = some b ∨ c.w.heap.size ≤ b := fun b hb => by
    simp only [AObj.blk] at hb ⊢
    rcases hblk with h | h
    · left; rw [← h]; exact hb
    · right; rw [h] at hb; cases hb; exact Nat.le_refl _
  have hlp : ∀ (b : Nat) (L : Loop), (AObj.arr e ver xs).blk (c.mu id) = some b → c.w.heap[b]? = some (Obj.loop L) → ∃ L' : Loop, w'.heap[b]? = some (Obj.loop L') := fun b L hb hL => absurd hL ((hok.obj id _ harr).no_loop (by simp) hb)
  have hle := Cx.Le.put (w := w') hok harr hlike hgr.size hbb hll hlp
  refine ⟨c.put id (.arr e (ver + 1) ws) ⟨0, v'⟩ w', ⟨by simp [Cx.put, hhp], hnx, rfl, rfl, hok.put harr hlike hB hgr.size hbb hll hlp ?_, hle⟩, rfl, ?_⟩
  · refine ⟨hpos, e1, zs', ?_, LRel.mono (DRel.mono hle.free e) _ _ hL, hty⟩
    simp only [Cx.put, upd_same]
    exact hown'
  · simp only [VRel]
    refine ⟨hone, .inl ⟨_, Cx.put_get harr⟩, fun t' u' xs' h' => ?_⟩
    rw [Cx.put_get harr] at h'
    cases h'
    exact ⟨Nat.le_refl _, fun _ => by simp [ViewIs, Cx.put, upd_same]⟩

/-- onto a row of our own -/
theorem append_put (hT : TOk P T) (hok : c.Ok W0) {st : St} (hhp : c.hp = st.hp) (hnx : c.nxt = st.nxt) {et : TypeId} (hu : P.underlying t = some (.slice et)) (hk : (T.at et).known = true) {e : Ty} (hsz : (T.at et).size = e.size) (hpos : 0 < e.size) (hbp : 0 < (T.at et).bytes)
    {id ver : Nat} {xs : List e.den} (harr : hget c.hp id = some (.arr e ver xs)) {v : Value} {k cp : Nat} {g : Option Addr} (hv : (c.mu id).v = .slice g xs.length cp) (hk2 : k ≤ xs.length) (hv2 : v = .slice g k cp)
    {ys : List e.den} {a : Option Addr} {m : Nat} {zs2 : List Value} (hL2 : LRel (DRel c.w c.free e) e.size ys zs2) (hsrc : zs2 = [] ∨ ∃ b off, a = some ⟨b, off, none⟩ ∧ b < c.w.heap.size ∧ CellsAt c.w b off zs2)
    (hfit : ((xs.take k ++ ys).length) * (T.at et).bytes ≤ 140737488355328) (ty : TypeId) (hety : e = .int .u8 → et = byteTy) :
    ∃ c' v', Did W0 c st c' { st with hp := hset st.hp id (.arr e (ver + 1) (xs.take k ++ ys)) } ∧ (Builtin.append_ #[t, t] ty #[v, .slice a ys.length m]).run P c.w = .ok v' c'.w ∧ VRel c' (.slc id (ver + 1) none) v' := by
  obtain ⟨_, e0, zs, hown, hL, hty⟩ := hok.obj id _ harr
  obtain ⟨i, z, hi, hsi, hbi, hz, hzero, hz1⟩ := hT.info hk
  have hzl : z.cells.size = e.size := by
    have := congrArg List.length hzero
    rw [hT.zlen hk, hsz] at this
    simpa using this
  have hL3 := LRel.take k _ _ hL
  have hl2 := LRel.length _ _ hL2
  have hone2 := LRel.one _ _ hL2
  have hlen : (xs.take k).length = k := by simp; omega
  have hown3 : c.w.ownsRow W0.heap.size e0 e.size v k (zs.take (k * e.size)) := by
    rw [hv] at hown
    rcases hown.2 with ⟨e1, e2⟩ | ⟨g', cap', cur, e1, _⟩
    · simp only [Value.slice.injEq] at e1
      obtain ⟨rfl, _, rfl⟩ := e1
      have : k = 0 := by omega
      subst this
      rw [hv2]; simp; exact World.ownsRow_nil _ _ _ _
    · cases e1
      rw [hv2]; exact ownsRow_take hown hk2
  have h63 : k + ys.length ≤ maxLen := by
    have h2 : k + ys.length ≤ (k + ys.length) * (T.at et).bytes := Nat.le_mul_of_pos_right _ hbp
    rw [List.length_append, hlen] at hfit
    simp only [maxLen]; omega
  obtain ⟨v', w', e1, hr, hown', hgr, hblk, hone, hwhich⟩ := append_run hT hu hi hz hsi hbi (by rw [hzl, hsz]) (by omega) (by rw [hsz]; exact hown3) (a := a) (cp := m) (by rw [hsz]; exact hl2) hone2 (hsrc.imp (fun h => h) fun ⟨b, off, q1, _, q3⟩ => ⟨b, off, q1, q3⟩) h63
    (by rw [List.length_append, hlen] at hfit; exact hfit) hok.size ty
  rw [hsz] at hown'
  have hvb : v.ownBlock = (c.mu id).v.ownBlock := by rw [hv, hv2]; cases g <;> rfl
  have hlow : ∀ b, (c.mu id).v.ownBlock = some b → W0.heap.size ≤ b := fun b hb => (World.ownsRow.lt hown3 b (hvb.trans hb)).1
  rw [hvb] at hgr hblk
  obtain ⟨c', d1, d2, d3⟩ := row_put hok hhp hnx hpos harr (ws := xs.take k ++ ys) (by simp only [List.length_append, hlen]; exact hown') (LRel.append _ _ _ _ hL3 hL2) hgr hlow hblk hone (fun h => hwhich.elim (fun q => q.trans (hty h)) fun q => q.trans (hety h))
  exact ⟨c', v', d1, by rw [hr, d2], d3⟩

theorem strCells_rel {w : World} {fr : Nat → Prop} (s : List UInt8) : LRel (DRel w fr (.int .u8)) (Ty.int .u8).size (toBytes s) (Lib.strCells ⟨s.toArray⟩) := by
  induction s with
  | nil => simp [toBytes, Lib.strCells, LRel]
  | cons b l ih =>
    refine ⟨[.int .u8 b.toNat], Lib.strCells ⟨l.toArray⟩, by simp [Lib.strCells], rfl, rfl, ?_⟩
    simpa [toBytes] using ih

theorem l_appendS (hT : TOk P T) (hok : c.Ok W0) {cl : Bool} {dst : Option Tmp} {ty : TypeId} {pos : String} {after : Array Edge} {guard : Option (Nat × Bool)} {st : St} {a : Act} {K : AVal → St → Option R} {args : Array Operand} {t t' : TypeId} {s x : AVal} (hhp : c.hp = st.hp) (hnx : c.nxt = st.nxt) (hfr : VRels c st.fr a.tmps.toList)
    (hargs : args.toList.map (evalO st.fr) = [s, x]) (h : evAppendS T cl dst t t' s x st K = some r) : Loud P W0 c st ⟨dst, .call { callee := .builtin .append, args := args, argTypes := [t, t'].toArray }, ty, pos, after, guard⟩ a K r := by
  obtain ⟨al⟩ := args
  match al, hargs with
  | [s0, x0], hargs =>
    simp only [List.map_cons, List.map_nil, List.cons.injEq, and_true] at hargs
    obtain ⟨rfl, rfl⟩ := hargs
    have hs := evalO_rel hfr s0
    have hx := evalO_rel hfr x0
    have hexec : ∀ w, (execOp a.eval ⟨dst, .call { callee := .builtin .append, args := [s0, x0].toArray, argTypes := [t, t'].toArray }, ty, pos, after, guard⟩).run P w =
        ((Builtin.append_ #[t, t'] ty #[a.eval s0, a.eval x0]).run P w).andThen fun v w' => .ok (.value v) w' := fun w => by
      simp [execOp, resolve, invoke, builtin, Sem.run_bind]
    unfold evAppendS at h
    split at h
    · rename_i et y hkk hx0
      rw [hx0] at hx
      simp only [VRel] at hx
      have hx := hx.str_inv
      split at h
      · rename_i he
        replace h := bif_some h
        obtain ⟨hc, h⟩ := h
        simp only [Bool.and_eq_true] at hc
        obtain ⟨⟨hstr, hrow⟩, hb1⟩ := hc
        have hus := isStr_und hT hstr
        obtain ⟨hu, hk, hsz, hpos, hbp⟩ := rowOf_elem hT hkk hrow
        have hb1 : (T.at et).bytes = 1 := Nat.eq_of_beq_eq_true hb1
        obtain ⟨i, z, hi, hsi, hbi, hz, hzero, hz1⟩ := hT.info hk
        have het : et = byteTy := hT.byte hk he
        have hzb : i.zero = some (.int .u8 0) := by
          rcases (hT et hk).2.2.1 with q | q
          · rw [he] at q; cases q
          · rw [he] at q
            have hk2 : (T.at et).k = .int .u8 := by
              cases hkq : (T.at et).k with
              | int k => rw [hkq] at q; simp only [tyOfK, Option.some.injEq, Ty.int.injEq] at q; rw [q]
              | struct fs =>
                rw [hkq] at q
                simp only [tyOfK] at q
                cases fs with
                | nil => simp [tyFields] at q
                | cons f l =>
                  obtain ⟨o, ft⟩ := f
                  simp only [tyFields] at q
                  repeat' split at q
                  all_goals cases q
              | slice e' =>
                rw [hkq] at q
                simp only [tyOfK] at q
                cases hq : (T.at e').ty <;> rw [hq] at q <;> simp at q
              | bool => rw [hkq] at q; cases q
              | str => rw [hkq] at q; cases q
              | other => rw [hkq] at q; cases q
              | fn => rw [hkq] at q; cases q
              | ptr e' => rw [hkq] at q; cases q
              | map _ _ => rw [hkq] at q; cases q
            exact hT.zero_byte hk hk2 hi
        cases hsv : evalO st.fr s0 with
        | nils =>
          rw [hsv] at h hs
          simp only at h
          simp only [VRel] at hs
          obtain ⟨hfit, h⟩ := need_some h
          have hfit : y.length ≤ 140737488355328 := of_decide_eq_true hfit
          obtain ⟨v', w', hr, hown', hgr, hblk, hone⟩ := append_str (ty := ty) hu hus hi hzb (by omega) (by omega) (World.ownsRow_nil c.w c.w.heap.size et 1) ⟨y.toArray⟩ (by show 0 + y.toArray.size ≤ _; simpa using hfit) (Nat.le_refl _)
          obtain ⟨id, n', f1, f2, f3, f4⟩ := alloc_some h
          have hbw : Below c.w.heap.size c.w w' := ⟨hgr.os, hgr.tape, hgr.output, hgr.size, fun k hk => hgr.block k hk (by simp [Value.ownBlock])⟩
          have hsz2 : 0 + (⟨y.toArray⟩ : ByteArray).size = (toBytes y).length := by show 0 + y.toArray.size = _; simp [toBytes]
          rw [List.nil_append, hsz2] at hown'
          obtain ⟨c', d1, d2, d3⟩ := new_arr hok hhp hnx f1 f2 f3 (y := .int .u8) (by simp [Ty.size]) hbw et _ hown' (strCells_rel y) hone (fun _ => het)
          exact ⟨_, _, c', _, f4, d1, d3, .inl (by rw [hexec, hs, hx, hr, d2]; rfl)⟩
        | slc id ver vw =>
          rw [hsv] at h hs
          simp only at h
          split at h
          · rename_i u xs harr
            rw [← hhp] at harr
            replace h := bif_some h
            obtain ⟨hver, h⟩ := h
            have hver : u = ver := by simpa using hver
            subst hver
            split at h
            · replace h := need_some h
              obtain ⟨hfit, h⟩ := h
              have hfit := fitI_spec hfit
              simp only [VRel] at hs
              have hs1 := (hs.2.2 _ _ _ harr).2 rfl
              simp only [ViewIs] at hs1
              obtain ⟨_, e0, zs, hown, hL, hty⟩ := hok.obj id _ harr
              have he0 : e0 = et := (hty rfl).trans het.symm
              subst he0
              have hlen2 : (⟨y.toArray⟩ : ByteArray).size = (toBytes y).length := by show y.toArray.size = _; simp [toBytes]
              obtain ⟨v', w', hr, hown', hgr, hblk, hone⟩ := append_str (ty := ty) hu hus hi hzb (by omega) (by omega) hown ⟨y.toArray⟩ (by rw [hlen2]; simpa using hfit) hok.size
              rw [hlen2, ← List.length_append] at hown'
              obtain ⟨c', d1, d2, d3⟩ := row_put hok hhp hnx (e := .int .u8) (by simp [Ty.size]) harr hown' (LRel.append _ _ _ _ hL (strCells_rel y)) hgr (fun b hb => (World.ownsRow.lt hown b hb).1) hblk hone (fun _ => het)
              exact ⟨_, _, c', _, h, d1, d3, .inl (by rw [hexec, hs1, hx, hr, d2]; rfl)⟩
            · cases h
          · cases h
        | _ => rw [hsv] at h; cases h
      · cases h
    · cases h

theorem l_append (hT : TOk P T) (hok : c.Ok W0) {cl : Bool} {call : CallFn R} {o : Oper} {st : St} {a : Act} {K : AVal → St → Option R} {args : Array Operand} {ts : Array TypeId} (hhp : c.hp = st.hp) (hnx : c.nxt = st.nxt) (hfr : VRels c st.fr a.tmps.toList)
    (ho : o.op = .call { callee := .builtin .append, args := args, argTypes := ts }) (h : evalOp T cl call o st K = some r) : Loud P W0 c st o a K r := by
  obtain ⟨dst, op, ty, pos, after, guard⟩ := o
  simp only at ho
  subst ho
  simp only [evalOp, evBuiltin] at h
  split at h <;> try (cases h; done)
  all_goals try (rename_i hb _; cases hb; done)
  rename_i s x hb hargs
  split at h <;> try (cases h; done)
  rename_i t t' hts
  obtain ⟨ts⟩ := ts
  simp only at hts
  subst hts
  rw [cond_eq_ite] at h
  split at h
  rotate_left
  · exact l_appendS hT hok hhp hnx hfr hargs h
  rename_i htt
  have htt : t = t' := by simpa using htt
  subst htt
  obtain ⟨al⟩ := args
  match al, hargs with
  | [s0, x0], hargs =>
    simp only [List.map_cons, List.map_nil, List.cons.injEq, and_true] at hargs
    obtain ⟨rfl, rfl⟩ := hargs
    have hs := evalO_rel hfr s0
    have hx := evalO_rel hfr x0
    have hexec : ∀ w, (execOp a.eval ⟨dst, .call { callee := .builtin .append, args := [s0, x0].toArray, argTypes := [t, t].toArray }, ty, pos, after, guard⟩).run P w =
        ((Builtin.append_ #[t, t] ty #[a.eval s0, a.eval x0]).run P w).andThen fun v w' => .ok (.value v) w' := fun w => by
      simp [execOp, resolve, invoke, builtin, Sem.run_bind]
    unfold evAppend at h
    split at h
    · rename_i et hkk
      split at h
      · rename_i e he
        split at h
        · cases h
        · rename_i ys hys
          rw [← hhp] at hys
          obtain ⟨a2, m2, zs2, hu2, hL2, hsrc⟩ := src_rel hok hys hx
          split at h
          · -- onto nothing
            rename_i hs0
            rw [hs0] at hs
            simp only [VRel] at hs
            replace h := need_some h
            obtain ⟨hn, h⟩ := h
            simp only [Bool.and_eq_true] at hn
            obtain ⟨hu, hk, hsz, hpos, hbp⟩ := rowOf_elem hT hkk hn.1
            have hfit := fitI_spec hn.2
            obtain ⟨i, z, hi, hsi, hbi, hz, hzero, hz1⟩ := hT.info hk
            have hzl : z.cells.size = e.size := by
              have := congrArg List.length hzero
              rw [hT.zlen hk, hsz] at this
              simpa using this
            have hl2 := LRel.length _ _ hL2
            have hone2 := LRel.one _ _ hL2
            have h63 : 0 + ys.length ≤ maxLen := by
              have h2 : ys.length ≤ ys.length * (T.at et).bytes := Nat.le_mul_of_pos_right _ hbp
              simp only [maxLen]; omega
            obtain ⟨v', w', e1, hr, hown', hgr, hblk, hone, hwhich⟩ := append_run hT hu hi hz hsi hbi (by rw [hzl, hsz]) (by omega) (World.ownsRow_nil c.w c.w.heap.size et (T.at et).size) (a := a2) (cp := m2) (by rw [hsz]; exact hl2) hone2 (hsrc.imp (fun h => h) fun ⟨b, off, q1, _, q3⟩ => ⟨b, off, q1, q3⟩) h63
              (by rw [Nat.zero_add]; exact hfit) (Nat.le_refl _) ty
            rw [hsz, List.nil_append, Nat.zero_add] at hown'
            obtain ⟨id, n', f1, f2, f3, f4⟩ := alloc_some h
            have hbw : Below c.w.heap.size c.w w' := ⟨hgr.os, hgr.tape, hgr.output, hgr.size, fun k hk => hgr.block k hk (by simp [Value.ownBlock])⟩
            obtain ⟨c', d1, d2, d3⟩ := new_arr hok hhp hnx f1 f2 f3 hpos hbw e1 zs2 hown' hL2 hone (fun q => (hwhich.elim (fun q => q) fun q => q).trans (hT.byte hk (by rw [he, q])))
            exact ⟨_, _, c', _, f4, d1, d3, .inl (by rw [hexec, hs, hu2, hr, d2]; rfl)⟩
          · -- onto an empty slice without room
            rename_i hs0
            rw [hs0] at hs
            simp only [VRel] at hs
            obtain ⟨av, hs⟩ := hs
            replace h := need_some h
            obtain ⟨hn, h⟩ := h
            simp only [Bool.and_eq_true] at hn
            obtain ⟨hu, hk, hsz, hpos, hbp⟩ := rowOf_elem hT hkk hn.1
            have hfit := fitI_spec hn.2
            obtain ⟨i, z, hi, hsi, hbi, hz, hzero, hz1⟩ := hT.info hk
            have hzl : z.cells.size = e.size := by
              have := congrArg List.length hzero
              rw [hT.zlen hk, hsz] at this
              simpa using this
            have hl2 := LRel.length _ _ hL2
            have hone2 := LRel.one _ _ hL2
            have h63 : 0 + ys.length ≤ maxLen := by
              have h2 : ys.length ≤ ys.length * (T.at et).bytes := Nat.le_mul_of_pos_right _ hbp
              simp only [maxLen]; omega
            cases hlt : ltN 0 ys.length with
            | false =>
              rw [hlt] at h
              simp only [cond_false] at h
              have h0 : ys.length = 0 := by simpa [ltN] using hlt
              refine ⟨.emp, .slice av 0 0, c, st, h, Did.refl hok hhp hnx, by simp only [VRel]; exact ⟨av, rfl⟩, .inl ?_⟩
              rw [hexec, hs, hu2, h0]
              cases a2 <;> cases av <;> simp [Builtin.append_, run_underlying hu, sizeOf, typeInfo, hi, Builtin.lenOf, Builtin.firstCells, loadCells, loadCellsFrom, storeCells]
            | true =>
              rw [hlt] at h
              simp only [cond_true] at h
              have hpl : 0 < ys.length := by simpa [ltN] using hlt
              have hne : zs2 ≠ [] := by
                intro h0
                rw [h0] at hl2
                have := Nat.mul_pos hpl hpos
                simp at hl2; omega
              obtain ⟨b, off, rfl, _, hc⟩ := hsrc.resolve_left hne
              obtain ⟨v', w', e1, hr, hown', hgr, hone, hwhich⟩ := append_emp hT hu hi hz hsi hbi (by rw [hzl, hsz]) (by omega) (w := c.w) (av := av) (cp := m2) (by rw [hsz]; exact hl2) hone2 hc hpl (by omega) hfit ty
              rw [hsz] at hown'
              obtain ⟨id, n', f1, f2, f3, f4⟩ := alloc_some h
              obtain ⟨c', d1, d2, d3⟩ := new_arr hok hhp hnx f1 f2 f3 hpos hgr e1 zs2 hown' hL2 hone (fun q => hwhich.trans (hT.byte hk (by rw [he, q])))
              exact ⟨_, _, c', _, f4, d1, d3, .inl (by rw [hexec, hs, hu2, hr, d2]; rfl)⟩
          · -- onto a row of our own
            rename_i id ver vw hs0
            rw [hs0] at hs
            split at h
            · rename_i e' u xs harr
              rw [← hhp] at harr
              replace h := bif_some h
              obtain ⟨hver, h⟩ := h
              have hver : u = ver := by simpa using hver
              subst hver
              split at h
              · rename_i xs' hcast
                have hee := castTy_ty hcast
                cases hee
                rw [castTy_same] at hcast
                cases hcast
                simp only [VRel] at hs
                have hs1 := (hs.2.2 _ _ _ harr).2 rfl
                obtain ⟨_, e0, zs, hown, hL, hty⟩ := hok.obj id _ harr
                obtain ⟨g, cp, hv, hn, _⟩ := row_form hown
                split at h
                · replace h := need_some h
                  obtain ⟨hn2, h⟩ := h
                  simp only [Bool.and_eq_true] at hn2
                  obtain ⟨hu, hk, hsz, hpos, hbp⟩ := rowOf_elem hT hkk hn2.1
                  have hfit := fitI_spec hn2.2
                  simp only [ViewIs] at hs1
                  rw [hv] at hs1
                  obtain ⟨c', v', d1, d2, d3⟩ := append_put hT hok hhp hnx hu hk hsz hpos hbp harr hv (Nat.le_refl _) hs1 (m := m2) hL2 hsrc (by rw [List.take_length]; exact hfit) ty (fun q => hT.byte hk (by rw [he, q]))
                  rw [List.take_length] at d1
                  exact ⟨_, _, c', _, h, d1, d3, .inl (by rw [hexec, hu2, d2]; rfl)⟩
                · rename_i lo hi
                  replace h := need_some h
                  obtain ⟨hn2, h⟩ := h
                  simp only [Bool.and_eq_true, eqI, beq_iff_eq] at hn2
                  obtain ⟨hn2, rfl, hn3⟩ := hn2
                  obtain ⟨hu, hk, hsz, hpos, hbp⟩ := rowOf_elem hT hkk hn2
                  have hfit := fitI_spec hn3
                  simp only [ViewIs] at hs1
                  obtain ⟨g', m', cp', hv', p1, p2, p3, hs1⟩ := hs1
                  rw [hv] at hv'
                  cases hv'
                  have hs2 : a.eval s0 = .slice g hi.toNat cp := by
                    rw [hs1]
                    simp only [Int.toNat_zero, Nat.zero_mul, Nat.sub_zero]
                    congr 1
                    split
                    · rfl
                    · cases g <;> simp [Addr.add]
                  obtain ⟨c', v', d1, d2, d3⟩ := append_put hT hok hhp hnx hu hk hsz hpos hbp harr hv (k := hi.toNat) (by omega) hs2 (m := m2) hL2 hsrc hfit ty (fun q => hT.byte hk (by rw [he, q]))
                  exact ⟨_, _, c', _, h, d1, d3, .inl (by rw [hexec, hu2, d2]; rfl)⟩
              · cases h
            · cases h
          · cases h
      · cases h
    · cases h
end
end Go.Proofs.YtnmaceljkegenaaDoor
