/-
  The plain machine: tables of numbers by numbers.
-/
import Derived.Test.YtnmaceljkegenaaDoorAn
import Derived.MapKept
namespace Go.Proofs.YtnmaceljkegenaaDoor
open Go.RowKit
set_option linter.unusedVariables false
set_option linter.unusedSimpArgs false

theorem find_get {kk vk : IntKind} {a : Int} : ∀ (ms : List MapEntry) (es : List (Int × Int)) (i : Nat), ms.map (fun e => (e.key, e.val)) = es.map (fun p => (Value.int kk p.1, Value.int vk p.2)) →
    (mpGet es a = none ∧ Instr.findNow (.int kk) (.int kk a) ms i = some none ∧ ∀ b cl, (ms ++ [(⟨.int kk a, .int vk b, cl⟩ : MapEntry)]).map (fun e => (e.key, e.val)) = (mpPut es a b).map (fun p => (Value.int kk p.1, Value.int vk p.2))) ∨
    ∃ v j, mpGet es a = some v ∧ Instr.findNow (.int kk) (.int kk a) ms i = some (some (i + j, .int vk v)) ∧ (∃ e0, ms[j]? = some e0 ∧ e0.key = .int kk a) ∧
      ∀ b, (ms.modify j (fun e => { e with key := .int kk a, val := .int vk b })).map (fun e => (e.key, e.val)) = (mpPut es a b).map (fun p => (Value.int kk p.1, Value.int vk p.2))
  | [], [], i, _ => .inl ⟨rfl, rfl, fun b cl => rfl⟩
  | [], _ :: _, _, h => by simp at h
  | _ :: _, [], _, h => by simp at h
  | e :: ms, (k, v) :: es, i, h => by
    simp only [List.map_cons, List.cons.injEq, Prod.mk.injEq] at h
    obtain ⟨⟨h1, h2⟩, h3⟩ := h
    have hs : Instr.sameNow (.int kk) (.int kk a) e.key = some (a == k) := by rw [h1]; simp [Instr.sameNow]
    by_cases hak : a = k
    · subst hak
      refine .inr ⟨v, 0, by simp [mpGet, eqI], ?_, ⟨e, rfl, h1⟩, fun b => ?_⟩
      · simp [Instr.findNow, hs, h2]
      · simp [mpPut, eqI, h3]
    · have hb : (a == k) = false := by simpa using hak
      rw [hb] at hs
      rcases find_get (a := a) ms es (i + 1) h3 with ⟨g1, g2, g3⟩ | ⟨v', j, g1, g2, ⟨e0, g3, g4⟩, g5⟩
      · refine .inl ⟨by simp [mpGet, eqI, hb, g1], by simp [Instr.findNow, hs, g2], fun b cl => ?_⟩
        have := g3 b cl
        simp only [mpPut, eqI, hb, cond_false, List.cons_append, List.map_cons, List.cons.injEq, Prod.mk.injEq]
        exact ⟨⟨h1, h2⟩, this⟩
      · refine .inr ⟨v', j + 1, by simp [mpGet, eqI, hb, g1], ?_, ⟨e0, by simpa using g3, g4⟩, fun b => ?_⟩
        · simp [Instr.findNow, hs, g2]; omega
        · have := g5 b
          simp only [mpPut, eqI, hb, cond_false, List.modify_succ_cons, List.map_cons, List.cons.injEq, Prod.mk.injEq]
          exact ⟨⟨h1, h2⟩, this⟩

section
variable {P : Program} {T : TT} {W0 : World} {c : Cx} {R : Type} {r : R} {t : TypeId}

theorem mapOf_some (hT : TOk P T) {a b : IntKind} (h : T.mapOf t = some (a, b)) : ∃ k e, P.underlying t = some (.map k e) ∧ P.underlying k = some (.int a) ∧ ∃ i, P.info? e = some i ∧ i.zero = some (.int b 0) := by
  unfold TT.mapOf at h
  replace h := bif_some h
  obtain ⟨hk, h⟩ := h
  split at h
  · rename_i k e hke
    replace h := bif_some h
    obtain ⟨hke2, h⟩ := h
    simp only [Bool.and_eq_true] at hke2
    split at h
    · rename_i a' b' ha hb
      cases h
      obtain ⟨i, z, hi, _⟩ := hT.info hke2.2
      exact ⟨k, e, hT.map hk hke, hT.int hke2.1 ha, i, hi, hT.zero_int hke2.2 hb hi⟩
    · cases h
  · cases h

theorem new_mp (hok : c.Ok W0) {st : St} (h1 : c.hp = st.hp) (h2 : c.nxt = st.nxt) {id n' : Nat} (h3 : hget st.hp id = none) (h4 : st.nxt ≤ id) (h5 : st.nxt ≤ n') (kk vk : IntKind) :
    ∃ c', Did W0 c st c' { st with hp := (id, .mp kk vk []) :: st.hp, nxt := n' } ∧ c'.w = c.w.alloc (.map #[] 0) ∧ VRel c' (.mpv id) (.map (some c.w.heap.size)) := by
  have hk := not_known h1 h2 h3 h4
  have hb := below_alloc c.w (.map #[] 0)
  have hl : ∀ b, AObj.blk (.mp kk vk []) ⟨c.w.heap.size, undef⟩ = some b → c.w.heap.size ≤ b := fun b hb => by
    simp only [AObj.blk, Option.some.injEq] at hb; omega
  have hle := Cx.Le.push (o := .mp kk vk []) (l := ⟨c.w.heap.size, undef⟩) (nxt := n') (w := c.w.alloc (.map #[] 0)) hk (by omega) hb.size hb.block hl
  have ho : (c.push id (.mp kk vk []) ⟨c.w.heap.size, undef⟩ n' (c.w.alloc (.map #[] 0))).ORel W0.heap.size id (.mp kk vk []) := by
    refine ⟨by simp [Cx.push, upd_same]; exact hok.size, #[], 0, ?_, rfl⟩
    simp only [Cx.push, upd_same]
    exact heap_alloc_new c.w _
  refine ⟨_, ⟨?_, rfl, rfl, rfl, hok.push hk (by omega) hb hl ho, hle⟩, rfl, ?_⟩
  · simp [Cx.push, h1]
  · simp only [VRel]
    refine ⟨rfl, .inl ⟨.mp kk vk [], by simp [Cx.push, hget_cons]⟩, fun _ _ _ _ => by simp [Cx.push, upd_same]⟩

theorem l_makeMap (hT : TOk P T) (hok : c.Ok W0) {cl : Bool} {call : CallFn R} {o : Oper} {st : St} {a : Act} {K : AVal → St → Option R} {res : Option Operand} (hhp : c.hp = st.hp) (hnx : c.nxt = st.nxt) (ho : o.op = .makeMap t res)
    (h : evalOp T cl call o st K = some r) : Loud P W0 c st o a K r := by
  obtain ⟨dst, op, ty, pos, after, guard⟩ := o
  simp only at ho
  subst ho
  simp only [evalOp] at h
  split at h
  · rename_i kk vk hm
    obtain ⟨id, n', e1, e2, e3, e4⟩ := alloc_some h
    obtain ⟨c', d1, d2, d3⟩ := new_mp hok hhp hnx e1 e2 e3 kk vk
    refine loud_val (s := Instr.makeMap t none) rfl e4 d1 d3 (by rw [d2]; simp [Instr.makeMap, Result.andThen])
  · cases h

theorem l_lookup (hT : TOk P T) (hok : c.Ok W0) {cl : Bool} {call : CallFn R} {o : Oper} {st : St} {a : Act} {K : AVal → St → Option R} {x y : Operand} {ok : Bool} (hhp : c.hp = st.hp) (hnx : c.nxt = st.nxt) (hfr : VRels c st.fr a.tmps.toList) (ho : o.op = .lookup t x y ok)
    (h : evalOp T cl call o st K = some r) : Loud P W0 c st o a K r := by
  obtain ⟨dst, op, ty, pos, after, guard⟩ := o
  simp only at ho
  subst ho
  simp only [evalOp] at h
  split at h
  · rename_i kk vk id hm hid
    split at h
    · rename_i kk' vk' es kk'' n hg hn
      replace h := bif_some h
      obtain ⟨hk, h⟩ := h
      simp only [Bool.and_eq_true, decide_eq_true_eq] at hk
      obtain ⟨rfl, rfl, rfl⟩ := hk
      obtain ⟨kt, et, u1, u2, i, u3, u4⟩ := mapOf_some hT hm
      have hx := evalO_rel hfr x
      rw [hid] at hx
      simp only [VRel] at hx
      rw [← hhp] at hg
      have hv := hx.2.2 _ _ _ hg
      obtain ⟨hB, ms, clock, h3, h4⟩ := hok.obj id _ hg
      have hy := evalO_rel hfr y
      rw [hn] at hy
      simp only [VRel] at hy
      have hyv := hy.int_inv
      have hz : (zeroValue et).run P c.w = .ok (.int vk' 0) c.w := by simp [zeroValue, typeInfo, u3, u4]
      have hkey : MapKept.IsKey (.int kk'') (.int kk'' n) := rfl
      rcases find_get (a := n) ms.toList es 0 h4 with ⟨g1, g2, _⟩ | ⟨v, j, g1, g2, _, _⟩
      · simp only [mpVal, mpHas, g1] at h
        refine loud_val (s := Instr.lookup t (a.eval x) (a.eval y) ok) (u := if ok then .tuple #[.int vk' 0, .bool false] else .int vk' 0) rfl h (Did.refl hok hhp hnx) ?_ ?_
        · cases ok
          · simp only [cond_false, VRel, Bool.false_eq_true, if_false]; exact VD.int_mk
          · simp only [cond_true, VRel, if_true]; exact ⟨_, rfl, by simp only [VRels, VRel]; exact ⟨VD.int_mk, VD.bool_mk, trivial⟩⟩
        · rw [hv, hyv]
          simp [Instr.lookup, run_underlying u1, MapKept.run_getObj_map h3, MapKept.run_checkKey u2 hkey, MapKept.run_findKey u2 g2, hz, Result.andThen]
      · simp only [mpVal, mpHas, g1] at h
        refine loud_val (s := Instr.lookup t (a.eval x) (a.eval y) ok) (u := if ok then .tuple #[.int vk' v, .bool true] else .int vk' v) rfl h (Did.refl hok hhp hnx) ?_ ?_
        · cases ok
          · simp only [cond_false, VRel, Bool.false_eq_true, if_false]; exact VD.int_mk
          · simp only [cond_true, VRel, if_true]; exact ⟨_, rfl, by simp only [VRels, VRel]; exact ⟨VD.int_mk, VD.bool_mk, trivial⟩⟩
        · rw [hv, hyv]
          simp [Instr.lookup, run_underlying u1, MapKept.run_getObj_map h3, MapKept.run_checkKey u2 hkey, MapKept.run_findKey u2 g2, Result.andThen]
    · cases h
  · cases h

theorem l_mapUpdate (hT : TOk P T) (hok : c.Ok W0) {cl : Bool} {call : CallFn R} {o : Oper} {st : St} {a : Act} {K : AVal → St → Option R} {x y z : Operand} (hhp : c.hp = st.hp) (hnx : c.nxt = st.nxt) (hfr : VRels c st.fr a.tmps.toList) (ho : o.op = .mapUpdate t x y z)
    (h : evalOp T cl call o st K = some r) : Loud P W0 c st o a K r := by
  obtain ⟨dst, op, ty, pos, after, guard⟩ := o
  simp only at ho
  subst ho
  simp only [evalOp] at h
  split at h
  · rename_i kk vk id hm hid
    split at h
    · rename_i kk' vk' es kk'' n vk'' b hg hn hb
      replace h := bif_some h
      obtain ⟨hk, h⟩ := h
      simp only [Bool.and_eq_true, decide_eq_true_eq] at hk
      obtain ⟨rfl, rfl, rfl, rfl⟩ := hk
      obtain ⟨kt, et, u1, u2, i, u3, u4⟩ := mapOf_some hT hm
      have hx := evalO_rel hfr x
      rw [hid] at hx
      simp only [VRel] at hx
      rw [← hhp] at hg
      have hv := hx.2.2 _ _ _ hg
      obtain ⟨hB, ms, clock, h3, h4⟩ := hok.obj id _ hg
      have hy := evalO_rel hfr y
      rw [hn] at hy
      simp only [VRel] at hy
      have hyv := hy.int_inv
      have hzz := evalO_rel hfr z
      rw [hb] at hzz
      simp only [VRel] at hzz
      have hzv := hzz.int_inv
      have hkey : MapKept.IsKey (.int kk'') (.int kk'' n) := rfl
      have hrun : ∃ ms' cl', (Instr.mapUpdate t (a.eval x) (a.eval y) (a.eval z)).run P c.w = .ok () { c.w with heap := c.w.heap.setIfInBounds (c.mu id).blk (.map ms' cl') } ∧ ms'.toList.map (fun e => (e.key, e.val)) = (mpPut es n b).map (fun p => (Value.int kk'' p.1, Value.int vk'' p.2)) := by
        rw [hv, hyv, hzv]
        rcases find_get (a := n) ms.toList es 0 h4 with ⟨g1, g2, g3⟩ | ⟨v, j, g1, g2, ⟨e0, g3, g4⟩, g5⟩
        · exact ⟨ms.push ⟨.int kk'' n, .int vk'' b, clock⟩, clock + 1, by
            simp [Instr.mapUpdate, run_underlying u1, MapKept.run_getObj_map h3, MapKept.run_checkKey u2 hkey, MapKept.run_findKey u2 g2, MapKept.run_setObj_map _ h3, Result.andThen], by
            rw [Array.toList_push]; exact g3 b clock⟩
        · have hj : ms[j]? = some e0 := by simpa using g3
          exact ⟨ms.modify j (fun e' => { e' with key := .int kk'' n, val := .int vk'' b }), clock, by
            simp [Instr.mapUpdate, run_underlying u1, MapKept.run_getObj_map h3, MapKept.run_checkKey u2 hkey, MapKept.run_findKey u2 g2, hj, g4, MapKept.run_keyThatStays hkey, MapKept.run_setObj_map _ h3, Result.andThen], by
            rw [Array.toList_modify]; exact g5 b⟩
      obtain ⟨ms', cl', hrun, hrow⟩ := hrun
      have hexec : (execOp a.eval ⟨dst, .mapUpdate t x y z, ty, pos, after, guard⟩).run P c.w = .ok .skip { c.w with heap := c.w.heap.setIfInBounds (c.mu id).blk (.map ms' cl') } := by
        simp [execOp, Sem.run_bind, hrun]
      have hset := MapKept.heap_set (o' := Obj.map ms' cl') h3
      have hlike : (AObj.mp kk'' vk'' es).like (c.mu id) (.mp kk'' vk'' (mpPut es n b)) (c.mu id) := rfl
      have hsz : c.w.heap.size ≤ ({ c.w with heap := c.w.heap.setIfInBounds (c.mu id).blk (.map ms' cl') } : World).heap.size := by simp
      have hbb : ∀ b', b' < c.w.heap.size → (AObj.mp kk'' vk'' es).blk (c.mu id) ≠ some b' → ({ c.w with heap := c.w.heap.setIfInBounds (c.mu id).blk (.map ms' cl') } : World).heap[b']? = c.w.heap[b']? :=
        fun b' _ hne => hset.2 b' (fun e => hne (by simp [AObj.blk, e]))
      have hll : ∀ b', (AObj.mp kk'' vk'' (mpPut es n b)).blk (c.mu id) = some b' → (AObj.mp kk'' vk'' es).blk (c.mu id) = some b' ∨ c.w.heap.size ≤ b' := fun b' hb => .inl hb
      have hlp : ∀ (b' : Nat) (L : Loop), (AObj.mp kk'' vk'' es).blk (c.mu id) = some b' → c.w.heap[b']? = some (Obj.loop L) → ∃ L' : Loop, ({ c.w with heap := c.w.heap.setIfInBounds (c.mu id).blk (.map ms' cl') } : World).heap[b']? = some (Obj.loop L') := fun b' L hb hL => absurd hL ((hok.obj id _ hg).no_loop (by simp) hb)
      have hle := Cx.Le.put (w := { c.w with heap := c.w.heap.setIfInBounds (c.mu id).blk (.map ms' cl') }) hok hg hlike hsz hbb hll hlp
      have hBel : Below W0.heap.size W0 { c.w with heap := c.w.heap.setIfInBounds (c.mu id).blk (.map ms' cl') } :=
        hok.bel.trans ⟨rfl, rfl, rfl, by simp, fun k hk => hset.2 k (by omega)⟩
      refine ⟨_, undef, c.put id _ (c.mu id) _, _, h, ⟨by simp [Cx.put, hhp], hnx, rfl, rfl, hok.put hg hlike hBel hsz hbb hll hlp ?_, hle⟩, by simp [VRel], .inr ⟨hexec, rfl⟩⟩
      refine ⟨by simp only [Cx.put, upd_same]; exact hB, ms', cl', ?_, hrow⟩
      simp only [Cx.put, upd_same]
      exact hset.1
    · cases h
  · cases h
end
end Go.Proofs.YtnmaceljkegenaaDoor
