/-
  The plain machine: places, fields, lengths; and all quiet operations together.
-/
import Derived.Test.YtnmaceljkegenaaDoorAg
namespace Go.Proofs.YtnmaceljkegenaaDoor
open Go.RowKit
set_option linter.unusedVariables false
set_option linter.unusedSimpArgs false

section
variable {P : Program} {T : TT} {W0 : World} {c : Cx} {R : Type} {r : R} {t : TypeId}

theorem inI_spec {α : Type} {l : List α} {i : Int} (h : inI l i = true) : 0 ≤ i ∧ i < (l.length : Int) ∧ i.toNat < l.length := by
  simp only [inI, Bool.and_eq_true, decide_eq_true_eq] at h
  omega

theorem getI_eq {α : Type} {l : List α} {d : α} {i : Int} (h : i.toNat < l.length) : getI l d i = l[i.toNat] := by simp [getI, List.getD, h]

theorem run_indexAt' (hT : TOk P T) {e : TypeId} (hu : P.underlying t = some (.slice e)) (hk : (T.at e).known = true) (w : World) (a : Addr) (n cp : Nat) (k : IntKind) (i : Int) (h0 : 0 ≤ i) (h1 : i < (n : Int)) :
    (Instr.indexAt t (.slice (some a) n cp) (.int k i)).run P w = .ok (.pointer (some (a.add (i.toNat * (T.at e).size)))) w := by
  simp only [Instr.indexAt, asIntOf, Sem.run_bind, Sem.run_pure, Result.andThen_ok, run_underlying hu]
  rw [if_pos ⟨h0, h1⟩]
  simp [Sem.run_bind, hT.sizeOf hk w]

theorem q_indexAddr (hT : TOk P T) (hok : c.Ok W0) {x i : AVal} {v vi : Value} {K : AVal → Option R} (h : evIndexAddr T c.hp t x i K = some r) (hx : VRel c x v) (hi : VRel c i vi) :
    ∃ z u, K z = some r ∧ VRel c z u ∧ ∀ w, (Instr.indexAt t v vi).run P w = .ok u w := by
  unfold evIndexAddr at h
  split at h
  · cases h
  rename_i n hn
  obtain ⟨k, rfl⟩ := intOf_rel hn hi
  split at h
  · rename_i e xs
    replace h := need_some h
    obtain ⟨h1, h⟩ := h
    simp only [Bool.and_eq_true] at h1
    obtain ⟨i0, i1, i2⟩ := inI_spec h1.2
    simp only [VRel] at hx
    obtain ⟨a, cp, zs, rfl, h2, h3, h4⟩ := list_inv hx
    obtain ⟨et, hu, hk, hsz, hpos, _⟩ := rowOf_und hT h1.1
    obtain ⟨d, d1, d2, l1, l2, d3, d4⟩ := LRel.at_ n.toNat xs zs i2 h3
    have hne : zs ≠ [] := by
      intro e0
      rw [e0] at d3
      have := congrArg List.length d3
      simp at this
      omega
    rcases h4 with h4 | ⟨b, off, h5, h6, h7⟩
    · exact absurd h4 hne
    · refine ⟨_, .pointer (some ⟨b, off + n.toNat * e.size, none⟩), h, ?_, fun w => ?_⟩
      · simp only [VRel]
        refine ⟨b, _, d, rfl, h6, ?_, by rw [getI_eq i2]; exact d2⟩
        rw [d3, List.append_assoc] at h7
        have := (CellsAt.append.1 (CellsAt.append.1 h7).2).1
        rw [d4] at this
        exact this
      · rw [h5, run_indexAt' hT hu hk w _ _ _ _ _ i0 i1, hsz, addr_add']
  · rename_i id ver vw
    split at h
    · rename_i e u xs harr
      replace h := bif_some h
      obtain ⟨h0, h⟩ := h
      have h0 : u = ver := by simpa using h0
      subst h0
      simp only [VRel] at hx
      have hx1 := (hx.2.2 _ _ _ harr).2 rfl
      obtain ⟨_, e', zs, hown, hL, hty⟩ := hok.obj id _ harr
      split at h
      · replace h := need_some h
        obtain ⟨h1, h⟩ := h
        simp only [Bool.and_eq_true] at h1
        obtain ⟨i0, i1, i2⟩ := inI_spec h1.2
        obtain ⟨et, hu, hk, hsz, hpos, _⟩ := rowOf_und hT h1.1
        simp only [ViewIs] at hx1
        rcases hown.2 with ⟨e1, e2⟩ | ⟨g, cap, cur, e1, _, _, e2, _⟩
        · omega
        · rw [e1] at hx1
          subst hx1
          refine ⟨_, .pointer (some ⟨g, n.toNat * e.size, none⟩), h, ?_, fun w => ?_⟩
          · simp only [VRel]
            refine ⟨rfl, hx.2.1, fun t' u' xs' h' => ?_⟩
            rw [harr] at h'
            cases h'
            exact ⟨Nat.le_refl _, fun _ => ⟨g, _, _, e1, by simp⟩⟩
          · rw [run_indexAt' hT hu hk w _ _ _ _ _ i0 i1, hsz, addr_add', Nat.zero_add]
      · rename_i lo hi'
        replace h := need_some h
        obtain ⟨h1, h⟩ := h
        simp only [Bool.and_eq_true, decide_eq_true_eq, ltI] at h1
        obtain ⟨et, hu, hk, hsz, hpos, _⟩ := rowOf_und hT h1.1
        simp only [ViewIs] at hx1
        obtain ⟨a, m, cp, hv, q1, q2, q3, hx1⟩ := hx1
        rcases hown.2 with ⟨e1, e2⟩ | ⟨g, cap, cur, e1, _, _, e2, _⟩
        · rw [e1] at hv; cases hv; omega
        · rw [e1] at hv
          cases hv
          rw [if_neg (by omega)] at hx1
          subst hx1
          refine ⟨_, .pointer (some ⟨g, (lo + n).toNat * e.size, none⟩), h, ?_, fun w => ?_⟩
          · simp only [VRel]
            refine ⟨rfl, hx.2.1, fun t' u' xs' h' => ?_⟩
            rw [harr] at h'
            cases h'
            exact ⟨Nat.le_refl _, fun _ => ⟨g, _, _, e1, by simp⟩⟩
          · simp only [Option.map_some]
            rw [run_indexAt' hT hu hk w _ _ _ _ _ h1.2.1 (by omega), hsz, addr_add', addr_add', Nat.zero_add, ← Nat.add_mul]
            congr 5
            omega
    · cases h
  · cases h

theorem q_index (hT : TOk P T) {i : AVal} {s : List UInt8} {n : Int} {v vi : Value} (hx : VRel c (.val .str s) v) (hi : VRel c i vi) (hn : intOf i = some n) (h : (T.isStr t && inI s n) = true) :
    VRel c (.val (.int .u8) (byteAt s n)) (.int .u8 (byteAt s n)) ∧ ∀ w, (Instr.index t v vi).run P w = .ok (.int .u8 (byteAt s n)) w := by
  simp only [Bool.and_eq_true] at h
  obtain ⟨i0, i1, i2⟩ := inI_spec h.2
  simp only [VRel] at hx
  obtain rfl := hx.str_inv
  obtain ⟨k, rfl⟩ := intOf_rel hn hi
  have hu := isStr_und hT h.1
  refine ⟨by simp only [VRel]; exact VD.int_mk, fun w => ?_⟩
  have hb : (⟨s.toArray⟩ : ByteArray)[n.toNat]? = some s[n.toNat] := by
    have : n.toNat < (⟨s.toArray⟩ : ByteArray).size := by simp [ByteArray.size]; exact i2
    rw [getElem?_pos (⟨s.toArray⟩ : ByteArray) n.toNat this]
    rfl
  simp only [Instr.index, asIntOf, Sem.run_bind, Sem.run_pure, Result.andThen_ok, run_underlying hu, if_pos i0, hb]
  simp [byteAt, List.getD, i2]

theorem fieldAt_spec (hT : TOk P T) {f off : Nat} {ft : TypeId} (h : T.fieldAt t f = some (off, ft)) : ∃ fs fields fl, (T.at t).k = .struct fs ∧ fs[f]? = some (off, ft) ∧ (T.at t).known = true ∧ (T.at ft).known = true ∧ 0 < (T.at ft).size ∧
    P.underlying t = some (.struct fields) ∧ fields[f]? = some fl ∧ fl.offset = off ∧ fl.type = ft := by
  unfold TT.fieldAt at h
  split at h
  · rename_i fs hkk
    replace h := bif_some h
    obtain ⟨hk, h⟩ := h
    split at h
    · rename_i o ft' hf
      replace h := bif_some h
      obtain ⟨h1, h2⟩ := h
      cases h2
      simp only [Bool.and_eq_true, ltN, decide_eq_true_eq] at h1
      obtain ⟨fields, e1, e2⟩ := hT.struct hk hkk
      have hf2 := hf
      rw [← e2, List.getElem?_map] at hf2
      cases hfl : fields.toList[f]? with
      | none => rw [hfl] at hf2; cases hf2
      | some fl =>
        rw [hfl] at hf2
        simp only [Option.map_some, Option.some.injEq, Prod.mk.injEq] at hf2
        exact ⟨fs, fields, fl, hkk, hf, hk, h1.1, h1.2, e1, by simpa using hfl, hf2.1, hf2.2⟩
    · cases h
  · cases h

/-- a field of a datum: its cells -/
theorem field_rel (hT : TOk P T) : ∀ (fs : List (Nat × TypeId)) (o : Nat) (y : Ty), tyFields T o fs = some y → ∀ (f off : Nat) (ft : TypeId), fs[f]? = some (off, ft) → ∀ (x : y.den) (cs : List Value), DRel c.w c.free y x cs →
    ∃ (a : Ty) (z : a.den) (l1 l2 l3 : List Value), fieldOf y x f = .val a z ∧ fieldPtr y x f = .cellp a z ∧ (T.at ft).ty = some a ∧ a.size = (T.at ft).size ∧ cs = l1 ++ l2 ++ l3 ∧ o + l1.length = off ∧ DRel c.w c.free a z l2
  | [], _, _, _, f, _, _, h, _, _, _ => by simp at h
  | (o', ft') :: fs, o, y, hy, f, off, ft, hf, x, cs, hd => by
    simp only [tyFields] at hy
    split at hy
    · rename_i ho
      split at hy
      · rename_i a ha
        split at hy
        · rename_i hs
          split at hy
          · rename_i b hb
            cases hy
            obtain ⟨l1, l2, h1, h2, h3⟩ := hd
            cases f with
            | zero =>
              simp only [List.getElem?_cons_zero, Option.some.injEq, Prod.mk.injEq] at hf
              obtain ⟨rfl, rfl⟩ := hf
              exact ⟨a, x.1, [], l1, l2, rfl, rfl, ha, hs.1, by simpa using h1, by simp; omega, h2⟩
            | succ f =>
              simp only [List.getElem?_cons_succ] at hf
              obtain ⟨a', z, m1, m2, m3, e1, e2, e3, e4, e5, e6, e7⟩ := field_rel hT fs (o + a.size) b hb f off ft hf x.2 l2 h3
              refine ⟨a', z, l1 ++ m1, m2, m3, e1, e2, e3, e4, by rw [h1, e5]; simp, ?_, e7⟩
              have := DRel.length _ _ _ h2
              simp; omega
          · cases hy
        · cases hy
      · cases hy
    · cases hy

theorem run_fieldAt' (hT : TOk P T) {f off : Nat} {ft : TypeId} (h : T.fieldAt t f = some (off, ft)) (w : World) (b o : Nat) :
    (Instr.fieldAt t (.pointer (some ⟨b, o, none⟩)) f).run P w = .ok (.pointer (some ⟨b, o + off, none⟩)) w := by
  obtain ⟨fs, fields, fl, hkk, hf, hk, hk2, hpos, hu, hfl, e1, e2⟩ := fieldAt_spec hT h
  have hs := hT.sizeOf (t := fl.type) (by rw [e2]; exact hk2) w
  simp only [Instr.fieldAt, Sem.run_bind, run_underlying hu, Result.andThen_ok, hfl, Instr.sureAddr, Sem.run_pure, fieldPlace, hs, Sem.run_ite]
  rw [if_neg (by rw [e2]; omega)]
  simp [addr_add', e1]

theorem ty_struct (hT : TOk P T) (hk : (T.at t).known = true) {fs : List (Nat × TypeId)} (hkk : (T.at t).k = .struct fs) {y : Ty} (hy : (T.at t).ty = some y) : tyFields T 0 fs = some y := by
  rcases (hT t hk).2.2.1 with h1 | h1
  · rw [hy] at h1; cases h1
  · rw [hy, hkk] at h1; exact h1.symm

theorem q_fieldAddr (hT : TOk P T) {x : AVal} {f : Nat} {v : Value} {K : AVal → Option R} (h : evFieldAddr T c.hp t x f K = some r) (hx : VRel c x v) :
    ∃ z u, K z = some r ∧ VRel c z u ∧ ∀ w, (Instr.fieldAt t v f).run P w = .ok u w := by
  unfold evFieldAddr at h
  split at h
  · rename_i off ft hfa
    obtain ⟨fs, fields, fl, hkk, hf, hk, hk2, hpos, hu, hfl, e1, e2⟩ := fieldAt_spec hT hfa
    split at h
    · rename_i u y
      split at h
      · rename_i u' hty
        split at h
        · rename_i z hz
          have e := castTy_ty hz
          subst e
          rw [castTy_same] at hz
          cases hz
          simp only [VRel] at hx
          obtain ⟨b, o, zs, rfl, hb, hc, hd⟩ := hx
          obtain ⟨a, z, l1, l2, l3, g1, g2, g3, g4, g5, g6, g7⟩ := field_rel hT fs 0 u (ty_struct hT hk hkk hty) f off ft hf _ _ hd
          refine ⟨_, .pointer (some ⟨b, o + off, none⟩), h, ?_, fun w => run_fieldAt' hT hfa w b o⟩
          rw [g2]
          simp only [VRel]
          rw [g5, List.append_assoc] at hc
          have := (CellsAt.append.1 (CellsAt.append.1 hc).2).1
          exact ⟨b, o + off, l2, rfl, hb, by rw [show off = l1.length by omega]; exact this, g7⟩
        · cases h
      · cases h
    · rename_i id o
      split at h
      · rename_i bt cs hcs
        simp only [VRel] at hx
        have hv := hx.2.2 _ _ hcs
        subst hv
        refine ⟨_, .pointer (some ⟨(c.mu id).blk, o + off, none⟩), h, ?_, fun w => run_fieldAt' hT hfa w _ o⟩
        simp only [VRel]
        exact ⟨rfl, hx.2.1, fun _ _ _ => trivial⟩
      · cases h
    · rename_i id ver i o
      split at h
      · rename_i e u xs harr
        replace h := bif_some h
        obtain ⟨h0, h⟩ := h
        have h0 : u = ver := by simpa using h0
        subst h0
        simp only [VRel] at hx
        obtain ⟨g, n, cp, hv, hx1⟩ := (hx.2.2 _ _ _ harr).2 rfl
        subst hx1
        refine ⟨_, .pointer (some ⟨g, i * e.size + o + off, none⟩), h, ?_, fun w => run_fieldAt' hT hfa w _ _⟩
        simp only [VRel]
        refine ⟨rfl, hx.2.1, fun t' u' xs' h' => ?_⟩
        rw [harr] at h'
        cases h'
        exact ⟨Nat.le_refl _, fun _ => ⟨g, n, cp, hv, by rw [Nat.add_assoc]⟩⟩
      · cases h
    · cases h
  · cases h

theorem q_field (hT : TOk P T) {x : AVal} {f : Nat} {v : Value} {K : AVal → Option R} (h : evField T t x f K = some r) (hx : VRel c x v) :
    ∃ z u, K z = some r ∧ VRel c z u ∧ ∀ w, (Instr.field t v f).run P w = .ok u w := by
  unfold evField at h
  split at h
  · rename_i off ft hfa
    obtain ⟨fs, fields, fl, hkk, hf, hk, hk2, hpos, hu, hfl, e1, e2⟩ := fieldAt_spec hT hfa
    have hagg : (T.at t).isAgg = true := by simp [TI.isAgg, hkk]
    split at h
    · rename_i u y
      split at h
      · rename_i u' hty
        split at h
        · rename_i z hz
          have e := castTy_ty hz
          subst e
          rw [castTy_same] at hz
          cases hz
          simp only [VRel] at hx
          have hag := hT.ty_agg hk hty
          rw [hagg] at hag
          obtain ⟨cs, rfl, hd⟩ := (VD.agg hag).1 hx
          obtain ⟨a, z, l1, l2, l3, g1, g2, g3, g4, g5, g6, g7⟩ := field_rel hT fs 0 u (ty_struct hT hk hkk hty) f off ft hf _ _ hd
          refine ⟨_, valOf (T.at ft).isAgg l2, h, ?_, fun w => ?_⟩
          · rw [g1]
            simp only [VRel]
            exact valOf_VD hT hk2 g3 g7
          · have hl2 := DRel.length _ _ _ g7
            have hlen : off + (T.at ft).size ≤ cs.size := by
              have := congrArg List.length g5
              simp at this; omega
            have hp := part_run (P := P) hT (t := fl.type) (by rw [e2]; exact hk2) w cs fl.offset (by rw [e1, e2]; exact hlen)
            simp only [Instr.field, Sem.run_bind, run_underlying hu, Result.andThen_ok, hfl, asAgg, Sem.run_pure, hp]
            rw [e1, e2, g5, List.append_assoc, List.drop_append, List.drop_of_length_le (by omega), List.nil_append, show off - l1.length = 0 by omega, List.drop_zero, List.take_append, List.take_of_length_le (by omega), hl2, g4, Nat.sub_self, List.take_zero, List.append_nil]
        · cases h
      · cases h
    · rename_i l
      split at h
      · rename_i cs' hcs
        obtain ⟨q1, rfl⟩ := cellsAt_some hcs
        simp only [VRel] at hx
        obtain ⟨vs, rfl, hv, h1⟩ := hx
        have hlen := VRels.length _ _ hv
        simp at hlen
        refine ⟨_, valOf (T.at ft).isAgg ((vs.toList.drop off).take (T.at ft).size), h, norm_rel hT hk2 (VRels.take _ _ _ (VRels.drop _ _ _ hv)) (fun u hu => h1 u (List.mem_of_mem_drop (List.mem_of_mem_take hu))), fun w => ?_⟩
        have hp := part_run (P := P) hT hk2 w vs off (by omega)
        simp only [Instr.field, Sem.run_bind, run_underlying hu, Result.andThen_ok, hfl, asAgg, Sem.run_pure, e1, e2, hp]
      · cases h
    · cases h
  · cases h

theorem q_len (hT : TOk P T) (hok : c.Ok W0) {x : AVal} {v : Value} {K : AVal → Option R} (h : evLen T c.hp t x K = some r) (hx : VRel c x v) {ty : TypeId} :
    ∃ z u, K z = some r ∧ VRel c z u ∧ ∀ w, (Builtin.len_ #[t] ty #[v]).run P w = .ok u w := by
  unfold evLen at h
  split at h
  · rename_i s
    replace h := need_some h
    obtain ⟨h1, h⟩ := h
    simp only [VRel] at hx
    obtain rfl := hx.str_inv
    have hu := isStr_und hT h1
    refine ⟨_, _, h, by simp only [VRel]; exact VD.int_mk, fun w => ?_⟩
    simp only [Builtin.len_, List.getElem?_toArray, List.getElem?_cons_zero, Sem.run_bind, run_underlying hu, Result.andThen_ok, Sem.run_pure, goInt]
    congr 2
  · rename_i e xs
    replace h := need_some h
    obtain ⟨h1, h⟩ := h
    simp only [VRel] at hx
    obtain ⟨a, cp, zs, rfl, h2, h3, h4⟩ := list_inv hx
    obtain ⟨et, hu, hk, hsz, hpos, _⟩ := rowOf_und hT h1
    exact ⟨_, _, h, by simp only [VRel]; exact VD.int_mk, fun w => by simp [Builtin.len_, run_underlying hu, goInt, lenI]⟩
  · replace h := need_some h
    obtain ⟨h1, h⟩ := h
    simp only [VRel] at hx
    subst hx
    obtain ⟨et, hu, hk, hsz, hpos, _⟩ := rowOf_und hT h1
    exact ⟨_, _, h, by simp only [VRel]; exact VD.int_mk, fun w => by simp [Builtin.len_, run_underlying hu, goInt]⟩
  · rename_i id ver vw
    split at h
    · rename_i e u xs harr
      replace h := bif_some h
      obtain ⟨h0, h⟩ := h
      have h0 : u = ver := by simpa using h0
      subst h0
      replace h := need_some h
      obtain ⟨h1, h⟩ := h
      obtain ⟨et, hu, hk, hsz, hpos, _⟩ := rowOf_und hT h1
      simp only [VRel] at hx
      have hx1 := (hx.2.2 _ _ _ harr).2 rfl
      obtain ⟨_, e', zs, hown, hL, hty⟩ := hok.obj id _ harr
      obtain ⟨a, n, hv, hn⟩ : ∃ a n, (c.mu id).v = .slice a xs.length n ∧ xs.length ≤ n := by
        rcases hown.2 with ⟨e1, e2⟩ | ⟨g, cap, cur, e1, _, _, e2, _⟩
        · exact ⟨none, 0, by rw [e1, e2], by omega⟩
        · exact ⟨_, _, e1, e2⟩
      split at h
      · simp only [ViewIs] at hx1
        rw [hv] at hx1
        subst hx1
        exact ⟨_, _, h, by simp only [VRel]; exact VD.int_mk, fun w => by simp [Builtin.len_, run_underlying hu, goInt, lenI]⟩
      · rename_i lo hi
        simp only [ViewIs] at hx1
        obtain ⟨a', m, cp, hv', q1, q2, q3, hx1⟩ := hx1
        subst hx1
        refine ⟨_, _, h, by simp only [VRel]; exact VD.int_mk, fun w => ?_⟩
        simp only [Builtin.len_, List.getElem?_toArray, List.getElem?_cons_zero, Sem.run_bind, run_underlying hu, Result.andThen_ok, Sem.run_pure, goInt]
        congr 2
        omega
    · cases h
  · cases h

theorem allInts_rel {k : IntKind} : ∀ (l : List AVal) (ns : List Int) (us : List Value), allInts k l = some ns → VRels c l us → us = ns.map (.int k)
  | [], ns, us, h, hv => by
    simp only [allInts, Option.some.injEq] at h
    subst h
    cases us with
    | nil => rfl
    | cons => simp [VRels] at hv
  | v :: l, ns, us, h, hv => by
    cases us with
    | nil => simp [VRels] at hv
    | cons u us =>
      simp only [VRels] at hv
      cases v with
      | val t x =>
        cases t <;> simp only [allInts, reduceCtorEq] at h
        rename_i k'
        split at h
        · rename_i hk
          subst hk
          split at h
          · rename_i m hm
            cases h
            have h1 := hv.1
            simp only [VRel] at h1
            rw [h1.int_inv, allInts_rel l m us hm hv.2]
            rfl
          · cases h
        · cases h
      | _ => simp [allInts] at h

theorem run_mins (w : World) (k : IntKind) : ∀ (ns : List Int) (a : Int), ((ns.map (Value.int k)).foldlM Builtin.min2 (.int k a)).run P w = .ok (.int k (ns.foldl minI a)) w
  | [], a => rfl
  | n :: ns, a => by
    simp only [List.map_cons, List.foldlM_cons, List.foldl_cons, Sem.run_bind, Builtin.min2, Sem.run_pure, Result.andThen_ok]
    exact run_mins w k ns (minI a n)

theorem run_maxs (w : World) (k : IntKind) : ∀ (ns : List Int) (a : Int), ((ns.map (Value.int k)).foldlM Builtin.max2 (.int k a)).run P w = .ok (.int k (ns.foldl maxI a)) w
  | [], a => rfl
  | n :: ns, a => by
    simp only [List.map_cons, List.foldlM_cons, List.foldl_cons, Sem.run_bind, Builtin.max2, Sem.run_pure, Result.andThen_ok]
    exact run_maxs w k ns (maxI a n)

theorem fold_set (off : Nat) : ∀ (us : List Value) (k : Nat) (zs : List Value), off + k + us.length ≤ zs.length →
    (us.zipIdx k).foldl (fun cs p => Array.setIfInBounds cs (off + p.2) p.1) zs.toArray = (zs.take (off + k) ++ us ++ zs.drop (off + k + us.length)).toArray
  | [], k, zs, h => by simp
  | u :: us, k, zs, h => by
    simp only [List.length_cons] at h
    have ih := fold_set off us (k + 1) (zs.set (off + k) u) (by simp; omega)
    simp only [List.zipIdx_cons, List.foldl_cons]
    rw [show Array.setIfInBounds zs.toArray (off + k) u = (zs.set (off + k) u).toArray by simp, ih]
    congr 1
    have h1 : off + k < zs.length := by omega
    rw [List.set_eq_take_append_cons_drop, if_pos h1]
    have t1 : ∀ (A B : List Value) (n m : Nat), A.length = n → (A ++ u :: B).take (n + 1) = A ++ [u] ∧ (A ++ u :: B).drop (n + 1 + m) = B.drop m := by
      intro A B n m hA
      constructor
      · rw [List.take_append, List.take_of_length_le (by omega), hA, Nat.add_sub_cancel_left]; rfl
      · rw [List.drop_append, List.drop_of_length_le (by omega), hA, List.nil_append, show n + 1 + m - n = m + 1 by omega]; rfl
    obtain ⟨a1, a2⟩ := t1 (zs.take (off + k)) (zs.drop (off + k + 1)) (off + k) us.length (by simp; omega)
    rw [show off + (k + 1) = off + k + 1 by omega, a1, a2]
    simp
    congr 1
    omega

theorem fold_set_arr (off : Nat) (us : Array Value) (zs : List Value) (h : off + us.size ≤ zs.length) :
    us.zipIdx.foldl (fun cs p => Array.setIfInBounds cs (off + p.2) p.1) zs.toArray = (zs.take off ++ us.toList ++ zs.drop (off + us.size)).toArray := by
  rw [← Array.foldl_toList, Array.toList_zipIdx]
  have := fold_set off us.toList 0 zs (by simpa using h)
  simpa using this

theorem fill_rel (hT : TOk P T) {fs : List (Nat × TypeId)} {place : Nat → Option (Nat × Nat)} (hp : ∀ i off ft, fs[i]? = some (off, ft) → (T.at ft).known = true → place i = some (off, (T.at ft).size)) :
    ∀ (parts : List (Nat × AVal)) (us : List (Nat × Value)) (cs cs' : List AVal) (zs : List Value), evBuild T fs cs parts = some cs' → VRels c cs zs → (∀ u ∈ zs, u.oneCell' = true) →
      us.map (·.1) = parts.map (·.1) → VRels c (parts.map (·.2)) (us.map (·.2)) → ∃ zs', Instr.fill place zs.toArray us = some zs'.toArray ∧ VRels c cs' zs' ∧ ∀ u ∈ zs', u.oneCell' = true
  | [], us, cs, cs', zs, h, hv, h1, hu, _ => by
    simp only [evBuild, Option.some.injEq] at h
    subst h
    cases us with
    | nil => exact ⟨zs, rfl, hv, h1⟩
    | cons => simp at hu
  | (i, v) :: parts, us, cs, cs', zs, h, hv, h1, hu, hvs => by
    cases us with
    | nil => simp at hu
    | cons u us =>
      obtain ⟨i', u⟩ := u
      simp only [List.map_cons, List.cons.injEq] at hu
      obtain ⟨rfl, hu⟩ := hu
      simp only [List.map_cons, VRels] at hvs
      simp only [evBuild] at h
      split at h
      · rename_i off ft vs hf hcells
        replace h := bif_some h
        obtain ⟨hk, h⟩ := h
        simp only [Bool.and_eq_true, beq_iff_eq] at hk
        split at h
        · rename_i cs2 hput
          have hpl := hp _ _ _ hf hk.1
          obtain ⟨r1, r2⟩ := cells_rel hcells hvs.1
          have hl := VRels.length _ _ r1
          have hlz := VRels.length _ _ hv
          unfold putCells at hput
          replace hput := bif_some hput
          obtain ⟨hle, hput⟩ := hput
          have hle : off + vs.length ≤ cs.length := by simpa using hle
          cases hput
          have hus : u.cells.size = vs.length := by simpa using hl.symm
          have hz2 : VRels c (cs.take off ++ vs ++ cs.drop (off + vs.length)) (zs.take off ++ u.cells.toList ++ zs.drop (off + vs.length)) :=
            VRels.append _ _ _ _ (VRels.append _ _ _ _ (VRels.take _ _ _ hv) r1) (VRels.drop _ _ _ hv)
          have ho : ∀ x ∈ zs.take off ++ u.cells.toList ++ zs.drop (off + vs.length), x.oneCell' = true := by
            intro x hx
            rcases List.mem_append.1 hx with hx | hx
            · rcases List.mem_append.1 hx with hx | hx
              · exact h1 x (List.mem_of_mem_take hx)
              · exact r2 x hx
            · exact h1 x (List.mem_of_mem_drop hx)
          obtain ⟨zs', g1, g2, g3⟩ := fill_rel hT hp parts us _ cs' _ h hz2 ho hu hvs.2
          refine ⟨zs', ?_, g2, g3⟩
          rw [← g1]
          simp only [Instr.fill, hpl]
          rw [if_neg (by rw [hus, hk.2]; simp; omega)]
          congr 1
          have := fold_set_arr off u.cells zs (by omega)
          rw [hus] at this
          exact this
        · cases h
      · cases h
end
end Go.Proofs.YtnmaceljkegenaaDoor
