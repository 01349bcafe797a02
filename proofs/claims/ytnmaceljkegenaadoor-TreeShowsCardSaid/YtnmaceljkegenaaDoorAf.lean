/-
  The plain machine: operations that make nothing and write nothing, on.
-/
import Derived.Test.YtnmaceljkegenaaDoorAe
import Derived.Laws.Strings
import Derived.Laws.StructEq
namespace Go.Proofs.YtnmaceljkegenaaDoor
open Go.RowKit
set_option linter.unusedVariables false
set_option linter.unusedSimpArgs false

section
variable {P : Program} {T : TT} {W0 : World} {c : Cx} {R : Type} {r : R} {t : TypeId}

theorem VD.int_inv {k : IntKind} {n : Int} {v : Value} (h : VD c (.int k) n v) : v = .int k n := by
  have := h.2 rfl
  simp only [DRel, List.cons.injEq, and_true] at this
  exact this

theorem VD.bool_inv {b : Bool} {v : Value} (h : VD c .bool b v) : v = .bool b := by
  have := h.2 rfl
  simp only [DRel, List.cons.injEq, and_true] at this
  exact this

theorem VD.str_inv {s : List UInt8} {v : Value} (h : VD c .str s v) : v = .string ⟨s.toArray⟩ := by
  have := h.2 rfl
  simp only [DRel, List.cons.injEq, and_true] at this
  exact this

theorem VD.int_mk {k : IntKind} {n : Int} : VD c (.int k) n (.int k n) := (VD.leaf rfl).2 rfl
theorem VD.bool_mk {b : Bool} : VD c .bool b (.bool b) := (VD.leaf rfl).2 rfl
theorem VD.str_mk {s : List UInt8} : VD c .str s (.string ⟨s.toArray⟩) := (VD.leaf rfl).2 rfl

theorem isStr_und (hT : TOk P T) (h : T.isStr t = true) : P.underlying t = some .string := by
  unfold TT.isStr at h
  split at h
  · rename_i e; exact hT.str h e
  · cases h

theorem rowOf_und (hT : TOk P T) {n : Nat} (h : T.rowOf t n = true) : ∃ e, P.underlying t = some (.slice e) ∧ (T.at e).known = true ∧ (T.at e).size = n ∧ 0 < n ∧ (T.at t).k = .slice e ∧ 0 < (T.at e).bytes := by
  unfold TT.rowOf at h
  split at h
  · rename_i e he
    simp only [Bool.and_eq_true, beq_iff_eq, ltN, decide_eq_true_eq] at h
    exact ⟨e, hT.slice h.1 he, h.2.1, h.2.2.1, h.2.2.2.1, he, h.2.2.2.2⟩
  · cases h

/-! ### part by part -/

theorem _root_.Go.Proofs.YtnmaceljkegenaaDoor.TOk.isPtr (hT : TOk P T) (h : T.isPtr t = true) : ∃ e, P.underlying t = some (.pointer e) := by
  unfold TT.isPtr at h
  split at h
  · rename_i e hk; exact ⟨e, hT.ptr h hk⟩
  · cases h

theorem _root_.Go.Proofs.YtnmaceljkegenaaDoor.TOk.isBytes (hT : TOk P T) (h : T.isBytes t = true) : P.underlying t = some (.pointer byteTy) ∧ P.cellsOf byteTy = 1 := by
  unfold TT.isBytes at h
  split at h
  · rename_i e hk
    simp only [Bool.and_eq_true] at h
    obtain ⟨h1, h2, h3⟩ := h
    split at h3
    · rename_i he
      have := hT.byte h2 he
      subst this
      refine ⟨hT.ptr h1 hk, ?_⟩
      obtain ⟨i, z, e1, e2, _⟩ := hT.info h2
      simp [Program.cellsOf, e1, e2, Nat.eq_of_beq_eq_true h3]
    · cases h3
  · cases h

theorem part_run (hT : TOk P T) (hk : (T.at t).known = true) (w : World) (cs : Array Value) (off : Nat) (h : off + (T.at t).size ≤ cs.size) :
    (part t cs off).run P w = .ok (valOf (T.at t).isAgg ((cs.toList.drop off).take (T.at t).size)) w := by
  have h1 := hT.isAgg hk w
  have h2 := hT.sizeOf hk w
  simp only [part, Sem.run_bind, h1, Result.andThen_ok]
  cases e : (T.at t).isAgg
  · have h3 : (T.at t).size = 1 := by
      rcases hT.one hk with h | h
      · rw [e] at h; cases h
      · exact h
    have h4 : off < cs.size := by omega
    have h5 : (cs.toList.drop off).take 1 = [cs[off]] := by
      rw [List.drop_eq_getElem_cons (by simpa using h4)]; simp
    simp [h3, h4, h5, valOf]
  · simp only [if_true, Sem.run_bind, h2, Result.andThen_ok, Sem.run_pure, valOf]
    congr 2
    apply Array.ext'
    simp [List.take_drop]

theorem equalIn_data (hT : TOk P T) : ∀ (n : Nat) (t : TypeId), T.eqOk n t = true → ∀ (y : Ty), (T.at t).ty = some y → ∀ (x x' : y.den) (zs zs' : List Value), DRel c.w c.free y x zs → DRel c.w c.free y x' zs' →
    ∀ (w : World) (d : Nat), n ≤ d → (Op.equalIn d t (valOf (T.at t).isAgg zs) (valOf (T.at t).isAgg zs')).run P w = .ok (y.same x x') w
  | 0, _, h, _, _, _, _, _, _, _, _, _, _, _ => by simp [TT.eqOk] at h
  | n + 1, t, h, y, hy, x, x', zs, zs', hx, hx', w, d, hd => by
    obtain ⟨d, rfl⟩ : ∃ e, d = e + 1 := ⟨d - 1, by omega⟩
    simp only [TT.eqOk, Bool.and_eq_true] at h
    obtain ⟨hk, h⟩ := h
    have hty : (T.at t).ty = tyOfK T (T.at t).k := by
      rcases (hT t hk).2.2.1 with h1 | h1
      · rw [hy] at h1; cases h1
      · exact h1
    cases hkk : (T.at t).k with
    | bool =>
      rw [hy, hkk] at hty
      simp only [tyOfK, Option.some.injEq] at hty
      subst hty
      obtain ⟨dd, e1, e2⟩ := hT.und hk
      rw [hkk] at e2
      cases dd <;> simp [descK] at e2
      simp only [DRel] at hx hx'
      subst hx; subst hx'
      have : (T.at t).isAgg = false := by simp [TI.isAgg, hkk]
      simp [valOf, this, run_equalIn_bool w d t x x' e1, Ty.same]
    | int k =>
      rw [hy, hkk] at hty
      simp only [tyOfK, Option.some.injEq] at hty
      subst hty
      have e1 := hT.int hk hkk
      simp only [DRel] at hx hx'
      subst hx; subst hx'
      have : (T.at t).isAgg = false := by simp [TI.isAgg, hkk]
      simp [valOf, this, run_equalIn_int w d t k k x x' e1, Ty.same]
    | str =>
      rw [hy, hkk] at hty
      simp only [tyOfK, Option.some.injEq] at hty
      subst hty
      have e1 := hT.str hk hkk
      simp only [DRel] at hx hx'
      subst hx; subst hx'
      have : (T.at t).isAgg = false := by simp [TI.isAgg, hkk]
      simp [valOf, this, run_equalIn_string w d t _ _ e1, Ty.same]
    | struct fs =>
      rw [hkk] at h
      simp only [Bool.and_eq_true] at h
      obtain ⟨heq, hall⟩ := h
      have hagg : (T.at t).isAgg = true := by simp [TI.isAgg, hkk]
      rw [hy, hkk] at hty
      simp only [tyOfK] at hty
      obtain ⟨fields, e1, e2⟩ := hT.struct hk hkk
      obtain ⟨_, hst, hnm⟩ := (hT t hk).2.2.2.2.2.1 heq
      rw [e1] at hnm
      simp only [Option.map_some, Option.some.injEq] at hnm
      have hf : P.fieldsOf t = fields := by simp [Program.fieldsOf, e1]
      simp only [valOf, hagg, if_true]
      rw [run_equalIn_struct w d t _ _ (by rw [hf]; exact e1) hst, hf]
      clear hf hst e1 hy
      rw [← e2] at hty hall
      generalize fields.toList = fl at *
      clear e2 fields hkk heq hagg hk
      -- field by field
      have key : ∀ (fl : List Field) (off : Nat) (y : Ty) (x x' : y.den) (zs zs' : List Value) (pre pre' : List Value), tyFields T off (fl.map fun f => (f.offset, f.type)) = some y → (fl.map fun f => (f.offset, f.type)).all (fun f => T.eqOk n f.2) = true →
          (fl.all fun f => f.name != "_") = true → DRel c.w c.free y x zs → DRel c.w c.free y x' zs' → pre.length = off → pre'.length = off →
          (Op.eqFields d (pre ++ zs).toArray (pre' ++ zs').toArray fl).run P w = .ok (y.same x x') w := by
        intro fl
        induction fl with
        | nil =>
          intro off y x x' zs zs' pre pre' h1 _ _ h2 h3 _ _
          simp only [List.map_nil, tyFields, Option.some.injEq] at h1
          subst h1
          simp [Op.eqFields, Ty.same]
        | cons f fl ih =>
          intro off y x x' zs zs' pre pre' h1 h2 h3 h4 h5 h6 h7
          simp only [List.map_cons, tyFields] at h1
          split at h1
          · rename_i hoff
            split at h1
            · rename_i a ha
              split at h1
              · rename_i hs
                split at h1
                · rename_i b hb
                  cases h1
                  simp only [List.map_cons, List.all_cons, Bool.and_eq_true] at h2 h3
                  obtain ⟨l1, l2, e1, e2, e3⟩ := h4
                  obtain ⟨m1, m2, e4, e5, e6⟩ := h5
                  subst e1; subst e4
                  have hl1 := DRel.length _ _ _ e2
                  have hm1 := DRel.length _ _ _ e5
                  have n1 : (f.name ≠ "_") := by simpa using h3.1
                  have p1 : (part f.type (pre ++ (l1 ++ l2)).toArray f.offset).run P w = .ok (valOf (T.at f.type).isAgg l1) w := by
                    rw [part_run hT hs.2 w _ _ (by simp; omega)]
                    congr 2
                    simp only [List.toList_toArray]
                    rw [hoff, List.drop_append, List.drop_of_length_le (by omega), List.nil_append, h6, Nat.sub_self, List.drop_zero, List.take_append, List.take_of_length_le (by omega), hl1, hs.1, Nat.sub_self, List.take_zero, List.append_nil]
                  have p2 : (part f.type (pre' ++ (m1 ++ m2)).toArray f.offset).run P w = .ok (valOf (T.at f.type).isAgg m1) w := by
                    rw [part_run hT hs.2 w _ _ (by simp; omega)]
                    congr 2
                    simp only [List.toList_toArray]
                    rw [hoff, List.drop_append, List.drop_of_length_le (by omega), List.nil_append, h7, Nat.sub_self, List.drop_zero, List.take_append, List.take_of_length_le (by omega), hm1, hs.1, Nat.sub_self, List.take_zero, List.append_nil]
                  have p3 := equalIn_data hT n f.type h2.1 a ha x.1 x'.1 l1 m1 e2 e5 w d (by omega)
                  simp only [Op.eqFields, if_pos n1, Sem.run_bind, p1, p2, p3, Result.andThen_ok, Ty.same]
                  cases a.same x.1 x'.1
                  · simp
                  · simp only [Bool.not_true, Bool.false_eq_true, if_false, Bool.true_and]
                    have := ih (off + a.size) b x.2 x'.2 l2 m2 (pre ++ l1) (pre' ++ m1) hb h2.2 h3.2 e3 e6 (by simp; omega) (by simp; omega)
                    simpa using this
                · cases h1
              · cases h1
            · cases h1
          · cases h1
      have := key fl 0 y x x' zs zs' [] [] hty.symm hall hnm hx hx' rfl rfl
      simpa using this
    | _ => rw [hkk] at h; cases h

theorem stringOp_run (w : World) (op : BinOp) (a b : List UInt8) (h : op = .eql ∨ op = .neq ∨ op = .lss ∨ op = .leq ∨ op = .gtr ∨ op = .geq) :
    ∃ u, VRel c (binOpS op a b) u ∧ ∀ w, (Op.stringOp op ⟨a.toArray⟩ ⟨b.toArray⟩).run P w = .ok u w := by
  rcases h with rfl | rfl | rfl | rfl | rfl | rfl <;>
    exact ⟨_, by simp only [binOpS, VRel]; exact VD.bool_mk, fun w => by simp [Op.stringOp, eqS, ltS]⟩

theorem eqGuard_leaf (op : BinOp) (t : TypeId) (ox oy : Operand) (x y : Value) (w : World) (h : x.oneCell' = true) (h2 : x ≠ .nilIface) : (eqGuard op t ox oy x y).run P w = .ok () w := by
  unfold eqGuard
  cases x <;> first
    | (simp [Value.oneCell'] at h; done)
    | exact absurd rfl h2
    | (cases op <;> simp)

theorem asAgg_rel {y : Ty} {v : AVal} {x : y.den} (h : v.as [] y = some x) (hy : y.isAgg = true) {u : Value} (hv : VRel c v u) : ∃ cs, u = .agg cs ∧ DRel c.w c.free y x cs.toList := by
  cases v with
  | val t' z =>
    simp only [AVal.as] at h
    obtain ⟨e, h2⟩ := castTy_spec h
    subst e; subst h2
    simp only [VRel] at hv
    exact (VD.agg hy).1 hv
  | nils => cases y <;> simp_all [AVal.as, Ty.isAgg]
  | emp => cases y <;> simp_all [AVal.as, Ty.isAgg]
  | lst t' z b =>
    simp only [AVal.as] at h
    obtain ⟨e, _⟩ := castTy_spec h
    subst e
    cases hy
  | slc id ver vw => cases y <;> simp_all [AVal.as, Ty.isAgg]
  | agg l =>
    simp only [AVal.as, hy, cond_true] at h
    simp only [VRel] at hv
    obtain ⟨vs, rfl, h2, _⟩ := hv
    exact ⟨vs, rfl, mkAll_rel h h2⟩
  | _ => simp [AVal.as] at h

theorem q_bin (hT : TOk P T) {op : BinOp} {ox oy : Operand} {x y : AVal} {vx vy : Value} {K : AVal → Option R} (h : evBin T op t x y K = some r) (hx : VRel c x vx) (hy : VRel c y vy) :
    ∃ z u, K z = some r ∧ VRel c z u ∧ ∀ w, (do eqGuard op t ox oy vx vy; binOp op t vx vy : Sem Value).run P w = .ok u w := by
  unfold evBin at h
  split at h
  · -- integers
    rename_i k a k' b
    simp only [VRel] at hx hy
    obtain rfl := hx.int_inv
    obtain rfl := hy.int_inv
    split at h
    · rename_i hk
      subst hk
      have hg : ∀ w, (eqGuard op t ox oy (.int k a) (.int k b)).run P w = .ok () w := fun w => eqGuard_leaf op t ox oy _ _ w rfl (by simp)
      cases op <;> simp only [reduceCtorEq] at h
      case quo =>
        replace h := need_some h
        obtain ⟨h1, h⟩ := h
        have h1 : b ≠ 0 := by simpa [eqI] using h1
        exact ⟨_, _, h, by simp only [VRel]; exact VD.int_mk, fun w => by simp [Sem.run_bind, hg, binOp, Op.intDiv, h1, divK]⟩
      case rem =>
        replace h := need_some h
        obtain ⟨h1, h⟩ := h
        have h1 : b ≠ 0 := by simpa [eqI] using h1
        exact ⟨_, _, h, by simp only [VRel]; exact VD.int_mk, fun w => by simp [Sem.run_bind, hg, binOp, Op.intDiv, h1]⟩
      case add => exact ⟨_, _, h, by simp only [binOpI, VRel]; exact VD.int_mk, fun w => by simp [Sem.run_bind, hg, binOp, Op.intArith, addK]⟩
      case sub => exact ⟨_, _, h, by simp only [binOpI, VRel]; exact VD.int_mk, fun w => by simp [Sem.run_bind, hg, binOp, Op.intArith, subK]⟩
      case mul => exact ⟨_, _, h, by simp only [binOpI, VRel]; exact VD.int_mk, fun w => by simp [Sem.run_bind, hg, binOp, Op.intArith, mulK]⟩
      case eql => exact ⟨_, _, h, by simp only [binOpI, VRel]; exact VD.bool_mk, fun w => by simp [Sem.run_bind, hg, binOp, Op.intCmp, eqI]⟩
      case neq => exact ⟨_, _, h, by simp only [binOpI, VRel]; exact VD.bool_mk, fun w => by simp [Sem.run_bind, hg, binOp, Op.intCmp, eqI, bne]⟩
      case lss => exact ⟨_, _, h, by simp only [binOpI, VRel]; exact VD.bool_mk, fun w => by simp [Sem.run_bind, hg, binOp, Op.intCmp, ltI]⟩
      case leq => exact ⟨_, _, h, by simp only [binOpI, VRel]; exact VD.bool_mk, fun w => by simp [Sem.run_bind, hg, binOp, Op.intCmp, leI]⟩
      case gtr => exact ⟨_, _, h, by simp only [binOpI, VRel]; exact VD.bool_mk, fun w => by simp [Sem.run_bind, hg, binOp, Op.intCmp, ltI]⟩
      case geq => exact ⟨_, _, h, by simp only [binOpI, VRel]; exact VD.bool_mk, fun w => by simp [Sem.run_bind, hg, binOp, Op.intCmp, leI]⟩
      case and => exact ⟨_, _, h, by simp only [VRel]; exact VD.int_mk, fun w => by simp [Sem.run_bind, hg, binOp, Op.intBits, bitK]⟩
      case or => exact ⟨_, _, h, by simp only [VRel]; exact VD.int_mk, fun w => by simp [Sem.run_bind, hg, binOp, Op.intBits, bitK]⟩
      case xor => exact ⟨_, _, h, by simp only [VRel]; exact VD.int_mk, fun w => by simp [Sem.run_bind, hg, binOp, Op.intBits, bitK]⟩
      case andNot => exact ⟨_, _, h, by simp only [VRel]; exact VD.int_mk, fun w => by simp [Sem.run_bind, hg, binOp, Op.intBits, bitK]⟩
      case shl =>
        obtain ⟨h1, h⟩ := need_some h
        have h1 : ¬ b < 0 := by simpa [leI] using h1
        exact ⟨_, _, h, by simp only [VRel]; exact VD.int_mk, fun w => by simp [Sem.run_bind, hg, binOp, Op.shift, h1, shlK]⟩
      case shr =>
        obtain ⟨h1, h⟩ := need_some h
        have h1 : ¬ b < 0 := by simpa [leI] using h1
        exact ⟨_, _, h, by simp only [VRel]; exact VD.int_mk, fun w => by simp [Sem.run_bind, hg, binOp, Op.shift, h1, shrK]⟩
    · have hg : ∀ w, (eqGuard op t ox oy (.int k a) (.int k' b)).run P w = .ok () w := fun w => eqGuard_leaf op t ox oy _ _ w rfl (by simp)
      split at h
      · obtain ⟨h1, h⟩ := need_some h
        have h1 : ¬ b < 0 := by simpa [leI] using h1
        exact ⟨_, _, h, by simp only [VRel]; exact VD.int_mk, fun w => by simp [Sem.run_bind, hg, binOp, Op.shift, h1, shlK]⟩
      · obtain ⟨h1, h⟩ := need_some h
        have h1 : ¬ b < 0 := by simpa [leI] using h1
        exact ⟨_, _, h, by simp only [VRel]; exact VD.int_mk, fun w => by simp [Sem.run_bind, hg, binOp, Op.shift, h1, shrK]⟩
      · cases h
  · -- truth
    rename_i a b
    simp only [VRel] at hx hy
    obtain rfl := hx.bool_inv
    obtain rfl := hy.bool_inv
    replace h := bif_some h
    obtain ⟨hk, h⟩ := h
    have hg : ∀ w, (eqGuard op t ox oy (.bool a) (.bool b)).run P w = .ok () w := fun w => eqGuard_leaf op t ox oy _ _ w rfl (by simp)
    have key : (T.at t).k = .bool → P.underlying t = some .bool := fun e => by
      obtain ⟨d, e1, e2⟩ := hT.und hk
      rw [e] at e2
      cases d <;> simp [descK] at e2
      exact e1
    split at h
    · rename_i e
      have e1 := key e
      exact ⟨_, _, h, by simp only [VRel]; exact VD.bool_mk, fun w => by simp [Sem.run_bind, hg, binOp, Op.equal, Op.maxDepth, run_equalIn_bool w 9999 t a b e1]⟩
    · rename_i e
      have e1 := key e
      exact ⟨_, _, h, by simp only [VRel]; exact VD.bool_mk, fun w => by simp [Sem.run_bind, hg, binOp, Op.equal, Op.maxDepth, run_equalIn_bool w 9999 t a b e1]⟩
    · cases h
  · -- texts
    rename_i a b
    simp only [VRel] at hx hy
    obtain rfl := hx.str_inv
    obtain rfl := hy.str_inv
    have hg : ∀ w, (eqGuard op t ox oy (.string ⟨a.toArray⟩) (.string ⟨b.toArray⟩)).run P w = .ok () w := fun w => eqGuard_leaf op t ox oy _ _ w rfl (by simp)
    have hb : binOp op t (.string ⟨a.toArray⟩) (.string ⟨b.toArray⟩) = Op.stringOp op ⟨a.toArray⟩ ⟨b.toArray⟩ := by cases op <;> rfl
    have fin : (op = .eql ∨ op = .neq ∨ op = .lss ∨ op = .leq ∨ op = .gtr ∨ op = .geq) → K (binOpS op a b) = some r →
        ∃ z u, K z = some r ∧ VRel c z u ∧ ∀ w, (do eqGuard op t ox oy (.string ⟨a.toArray⟩) (.string ⟨b.toArray⟩); binOp op t (.string ⟨a.toArray⟩) (.string ⟨b.toArray⟩) : Sem Value).run P w = .ok u w := fun ho hh => by
      obtain ⟨u, h1, h2⟩ := stringOp_run (P := P) (c := c) default op a b ho
      exact ⟨_, u, hh, h1, fun w => by rw [Sem.run_bind, hg, Result.andThen_ok, hb]; exact h2 w⟩
    cases op <;> simp only [reduceCtorEq] at h
    case add =>
      replace h := need_some h
      obtain ⟨h1, h⟩ := h
      refine ⟨_, _, h, by simp only [VRel]; exact VD.str_mk, fun w => ?_⟩
      have h1 : a.length + b.length ≤ roomN := by simpa using h1
      have h2 : ¬ ((a.length : Int) + (b.length : Int) > IntKind.i64.max) := by
        simp only [IntKind.max, IntKind.signed, IntKind.bits]; unfold roomN at h1; simp; omega
      have e1 : (⟨a.toArray⟩ : ByteArray) ++ ⟨b.toArray⟩ = ⟨(a ++ b).toArray⟩ := by
        apply ByteArray.ext
        rw [ByteArray.data_append]
        apply Array.ext'
        simp
      have e2 : (⟨a.toArray⟩ : ByteArray).size + (⟨b.toArray⟩ : ByteArray).size = a.length + b.length := by simp [ByteArray.size]
      rw [Sem.run_bind, hg, Result.andThen_ok, hb]
      simp only [Op.stringOp, e1, e2]
      rw [if_neg (by push_cast; exact h2)]
      rfl
    all_goals exact fin (by simp) h
  · -- is a list nil?
    rename_i e xs b
    simp only [VRel] at hx hy
    obtain ⟨hx1, av, n, m, rfl, rfl⟩ := hx
    subst hy
    replace h := bif_some h
    obtain ⟨hk, h⟩ := h
    have hg : ∀ w, (eqGuard op t ox oy (.slice av n m) (.slice none 0 0)).run P w = .ok () w := fun w => eqGuard_leaf op t ox oy _ _ w rfl (by simp)
    have key : ∀ el, (T.at t).k = .slice el → P.underlying t = some (.slice el) := fun el e => by
      obtain ⟨d, e1, e2⟩ := hT.und hk
      rw [e] at e2
      cases d <;> simp [descK] at e2
      rw [e1, e2]
    have heq : ∀ el, (T.at t).k = .slice el → ∀ w, (Op.equal t (.slice av n m) (.slice none 0 0)).run P w = .ok av.isNone w := fun el e w => by
      have e1 := key el e
      show (Op.equalIn (9999 + 1) t (.slice av n m) (.slice none 0 0)).run P w = _
      unfold Op.equalIn
      rw [Sem.run_bind, run_underlying e1, Result.andThen_ok]
      cases av <;> rfl
    split at h
    · rename_i el e
      exact ⟨_, _, h, by simp only [VRel]; exact VD.bool_mk, fun w => by simp [Sem.run_bind, hg, binOp, heq el e]⟩
    · rename_i el e
      exact ⟨_, _, h, by simp only [VRel]; exact VD.bool_mk, fun w => by simp [Sem.run_bind, hg, binOp, heq el e]⟩
    · cases h
  · -- structs
    rename_i h0 h1 h2 h3
    cases heq : T.eqOk 6 t
    · rw [heq] at h; cases h
    rw [heq] at h
    simp only [Bool.not_true, cond_false] at h
    split at h
    · rename_i fs ty hkk hty
      have hagg0 : (T.at t).isAgg = true := by simp [TI.isAgg, hkk]
      have hk : (T.at t).known = true := by simp only [TT.eqOk, Bool.and_eq_true] at heq; exact heq.1
      have hagg : ty.isAgg = true := by rw [hT.ty_agg hk hty, hagg0]
      have hge : P.eqGuardType P.depth t = false := by
        simp only [TT.eqOk, Bool.and_eq_true, hkk] at heq
        exact ((hT t hk).2.2.2.2.2.1 heq.2.1).1
      split at h
      · rename_i a b ha hb
        obtain ⟨cs, rfl, d1⟩ := asAgg_rel ha hagg hx
        obtain ⟨cs', rfl, d2⟩ := asAgg_rel hb hagg hy
        refine ⟨_, _, h, by simp only [VRel]; exact VD.bool_mk, fun w => ?_⟩
        have h3 := equalIn_data (P := P) hT 6 t heq ty hty a b _ _ d1 d2 w 10000 (by omega)
        simp only [valOf, hagg0, if_true, Array.toArray_toList] at h3
        rw [Sem.run_bind, run_eqGuard_agg w _ _ _ _ _ _ hge, Result.andThen_ok, run_eql_struct, h3]
        rfl
      · rename_i a b ha hb
        obtain ⟨cs, rfl, d1⟩ := asAgg_rel ha hagg hx
        obtain ⟨cs', rfl, d2⟩ := asAgg_rel hb hagg hy
        refine ⟨_, _, h, by simp only [VRel]; exact VD.bool_mk, fun w => ?_⟩
        have h3 := equalIn_data (P := P) hT 6 t heq ty hty a b _ _ d1 d2 w 10000 (by omega)
        simp only [valOf, hagg0, if_true, Array.toArray_toList] at h3
        rw [Sem.run_bind, run_eqGuard_agg w _ _ _ _ _ _ hge, Result.andThen_ok, run_neq_struct, h3]
        rfl
      · cases h
    · cases h

theorem q_binH {W0 : World} (hT : TOk P T) (hok : c.Ok W0) {op : BinOp} {ox oy : Operand} {x y : AVal} {vx vy : Value} {K : AVal → Option R} (h : evBinH T c.hp op t x y K = some r) (hx : VRel c x vx) (hy : VRel c y vy) :
    ∃ z u, K z = some r ∧ VRel c z u ∧ ∀ w, (do eqGuard op t ox oy vx vy; binOp op t vx vy : Sem Value).run P w = .ok u w := by
  unfold evBinH at h
  rw [cond_eq_ite] at h
  split at h
  · rename_i hs
    unfold slcNil at hs
    split at hs
    · split at hs
      · split at hs
        · rename_i id ver vw q1 q2 e v ys harr
          simp only [Bool.and_eq_true, beq_iff_eq, ltN, decide_eq_true_eq] at hs
          obtain ⟨rfl, hpos⟩ := hs
          simp only [VRel] at hx hy
          subst hy
          have hview := (hx.2.2 _ _ _ harr).2 rfl
          obtain ⟨_, e', zs, hrow, _, _⟩ := hok.obj id _ harr
          obtain ⟨av, n, m, rfl⟩ : ∃ a n m, vx = .slice (some a) n m := by
            rcases hrow.2 with ⟨_, h0⟩ | ⟨g, cap, cur, hv, _⟩
            · omega
            · cases vw with
              | none => simp only [ViewIs] at hview; exact ⟨_, _, _, hview.trans hv⟩
              | some lh =>
                obtain ⟨lo, hi⟩ := lh
                simp only [ViewIs] at hview
                obtain ⟨a, n, k, e1, _, _, _, e2⟩ := hview
                rw [hv] at e1
                cases e1
                rw [e2]
                split
                · exact ⟨_, _, _, rfl⟩
                · exact ⟨_, _, _, rfl⟩
          obtain ⟨hk, h⟩ := bif_some h
          have hg : ∀ w, (eqGuard op t ox oy (.slice (some av) n m) (.slice none 0 0)).run P w = .ok () w := fun w => eqGuard_leaf op t ox oy _ _ w rfl (by simp)
          have heq : ∀ el, (T.at t).k = .slice el → ∀ w, (Op.equal t (.slice (some av) n m) (.slice none 0 0)).run P w = .ok false w := fun el e w => by
            have e1 : P.underlying t = some (.slice el) := by
              obtain ⟨d, e1, e2⟩ := hT.und hk
              rw [e] at e2
              cases d <;> simp [descK] at e2
              rw [e1, e2]
            show (Op.equalIn (9999 + 1) t (.slice (some av) n m) (.slice none 0 0)).run P w = _
            unfold Op.equalIn
            rw [Sem.run_bind, run_underlying e1, Result.andThen_ok]
            rfl
          split at h
          · exact ⟨_, _, h, by simp only [VRel]; exact VD.bool_mk, fun w => by simp [Sem.run_bind, hg, binOp, heq _ (by assumption)]⟩
          · exact ⟨_, _, h, by simp only [VRel]; exact VD.bool_mk, fun w => by simp [Sem.run_bind, hg, binOp, heq _ (by assumption)]⟩
          · cases h
        · cases hs
      · cases hs
    · cases hs
  · rw [cond_eq_ite] at h
    split at h
    · rename_i hs
      unfold ptrNil at hs
      split at hs
      · split at hs
        · split at hs
          · rename_i id off y0 q1 q2 bt cs hbx
            simp only [VRel] at hx hy
            subst hy
            have hv := hx.2.2 _ _ hbx
            subst hv
            obtain ⟨hk, h⟩ := bif_some h
            have hg : ∀ w, (eqGuard op t ox oy (.pointer (some ⟨(c.mu id).blk, off, none⟩)) (.pointer none)).run P w = .ok () w := fun w => eqGuard_leaf op t ox oy _ _ w rfl (by simp)
            have heq : ∀ el, (T.at t).k = .ptr el → ∀ w, (Op.equal t (.pointer (some ⟨(c.mu id).blk, off, none⟩)) (.pointer none)).run P w = .ok false w := fun el e w => by
              have e1 := hT.ptr hk e
              show (Op.equalIn (9999 + 1) t (.pointer (some ⟨(c.mu id).blk, off, none⟩)) (.pointer none)).run P w = _
              unfold Op.equalIn
              rw [Sem.run_bind, run_underlying e1, Result.andThen_ok]
              rfl
            split at h
            · exact ⟨_, _, h, by simp only [VRel]; exact VD.bool_mk, fun w => by simp [Sem.run_bind, hg, binOp, heq _ (by assumption)]⟩
            · exact ⟨_, _, h, by simp only [VRel]; exact VD.bool_mk, fun w => by simp [Sem.run_bind, hg, binOp, heq _ (by assumption)]⟩
            · cases h
          · cases hs
        · cases hs
      · cases hs
    · exact q_bin hT h hx hy

theorem q_un {op : UnOp} {x : AVal} {v : Value} {K : AVal → Option R} (h : evUn op x K = some r) (hx : VRel c x v) :
    ∃ z u, K z = some r ∧ VRel c z u ∧ ∀ w, (Op.unary op v).run P w = .ok u w := by
  unfold evUn at h
  split at h
  · simp only [VRel] at hx
    obtain rfl := hx.bool_inv
    exact ⟨_, _, h, by simp only [VRel]; exact VD.bool_mk, fun w => rfl⟩
  · simp only [VRel] at hx
    obtain rfl := hx.int_inv
    exact ⟨_, _, h, by simp only [VRel]; exact VD.int_mk, fun w => by simp [Op.unary, Op.intArith, subK]⟩
  · cases h
end
end Go.Proofs.YtnmaceljkegenaaDoor
