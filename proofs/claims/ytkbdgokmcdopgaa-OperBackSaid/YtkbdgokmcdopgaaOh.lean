/-
  The iterator oper.each: its contract.
-/
import Derived.Test.YtkbdgokmcdopgaaOg
import Derived.RangeFuncNested
import Derived.RangeFuncBound
import Derived.RangeFuncCalls
import Derived.RangeFuncLeaves
import Derived.RangeFuncBox
import Derived.Shelf.Abstract
import Derived.Shelf.RegionOpen
import Derived.OwnWalkIn
import Derived.TacticsInMore
import Derived.LoopNIn
import Derived.LoopIn
namespace Go.Proofs.Ytkbdgokmcdopgaa
open Go.RowKit Go.Shelf
set_option linter.unusedVariables false
set_option linter.unusedSimpArgs false
attribute [local go_sem] Oper.semAt_some

/-- what the iterator tells from a place on: places and operators; an operator 0 at last where a byte is none -/
def itemsF : Nat → List UInt8 → Nat → List (Nat × Nat)
  | 0, _, _ => []
  | f + 1, l, p =>
    if l.length ≤ p then [] else if (opAtC (l.drop p)).1 = 0 then [(p, 0)]
    else (p, (opAtC (l.drop p)).1) :: itemsF f l (p + (opAtC (l.drop p)).2 + spanL isBla (l.drop (p + (opAtC (l.drop p)).2)))

theorem itemsF_end (f : Nat) (l : List UInt8) (p : Nat) (h : l.length ≤ p) : itemsF f l p = [] := by
  cases f with
  | zero => rfl
  | succ f => simp only [itemsF]; rw [if_pos h]

theorem itemsF_bad (f : Nat) (l : List UInt8) (p : Nat) (h : p < l.length) (h0 : (opAtC (l.drop p)).1 = 0) : itemsF (f + 1) l p = [(p, 0)] := by
  simp only [itemsF]; rw [if_neg (by omega), if_pos h0]

theorem itemsF_op (f : Nat) (l : List UInt8) (p : Nat) (h : p < l.length) (h0 : (opAtC (l.drop p)).1 ≠ 0) :
    itemsF (f + 1) l p = (p, (opAtC (l.drop p)).1) :: itemsF f l (p + (opAtC (l.drop p)).2 + spanL isBla (l.drop (p + (opAtC (l.drop p)).2))) := by
  simp only [itemsF]; rw [if_neg (by omega), if_neg h0]

theorem itemsF_fuel : ∀ (f g : Nat) (l : List UInt8) (p : Nat), l.length ≤ p + f → l.length ≤ p + g → itemsF f l p = itemsF g l p
  | 0, g, l, p, h1, _ => by rw [itemsF_end g l p (by omega)]; rfl
  | f + 1, 0, l, p, _, h2 => by rw [itemsF_end (f + 1) l p (by omega)]; rfl
  | f + 1, g + 1, l, p, h1, h2 => by
    rcases Nat.lt_or_ge p l.length with h | h
    · by_cases h0 : (opAtC (l.drop p)).1 = 0
      · rw [itemsF_bad f l p h h0, itemsF_bad g l p h h0]
      · have := (opAtC_pos _ h0).1
        rw [itemsF_op f l p h h0, itemsF_op g l p h h0, itemsF_fuel f g l _ (by omega) (by omega)]
    · rw [itemsF_end _ l p h, itemsF_end _ l p h]

@[irreducible] def items (l : List UInt8) (p : Nat) : List (Nat × Nat) := itemsF l.length l p

theorem items_end (l : List UInt8) (p : Nat) (h : l.length ≤ p) : items l p = [] := by unfold items; exact itemsF_end _ l p h

theorem items_bad (l : List UInt8) (p : Nat) (h : p < l.length) (h0 : (opAtC (l.drop p)).1 = 0) : items l p = [(p, 0)] := by
  unfold items; obtain ⟨m, hm⟩ : ∃ m, l.length = m + 1 := ⟨l.length - 1, by omega⟩
  rw [hm]; exact itemsF_bad m l p h h0

theorem items_op (l : List UInt8) (p : Nat) (h : p < l.length) (h0 : (opAtC (l.drop p)).1 ≠ 0) :
    items l p = (p, (opAtC (l.drop p)).1) :: items l (p + (opAtC (l.drop p)).2 + spanL isBla (l.drop (p + (opAtC (l.drop p)).2))) := by
  unfold items; obtain ⟨m, hm⟩ : ∃ m, l.length = m + 1 := ⟨l.length - 1, by omega⟩
  have := (opAtC_pos _ h0).1
  rw [hm, itemsF_op m l p h h0, itemsF_fuel m (m + 1) l _ (by omega) (by omega)]

theorem items_len (l : List UInt8) : ∀ (k p : Nat), l.length ≤ p + k → (items l p).length ≤ k
  | 0, p, h => by rw [items_end l p (by omega)]; exact Nat.le_refl _
  | k + 1, p, h => by
    rcases Nat.lt_or_ge p l.length with hp | hp
    · by_cases h0 : (opAtC (l.drop p)).1 = 0
      · rw [items_bad l p hp h0]; simp
      · have := (opAtC_pos _ h0).1
        rw [items_op l p hp h0, List.length_cons]
        have := items_len l k (p + (opAtC (l.drop p)).2 + spanL isBla (l.drop (p + (opAtC (l.drop p)).2))) (by omega)
        omega
    · rw [items_end l p hp]; simp

theorem opAtC_zero (l : List UInt8) (h : (opAtC l).1 = 0) : opAtC l = (0, 0) := by
  obtain ⟨a, b⟩ := opAtC_spec l
  rw [a] at h
  rw [h] at a b
  exact Prod.ext a b

/-- a block lies as it lay -/
def KeepB (b : Nat) (W W' : World) : Prop := W'.heap[b]? = W.heap[b]?

theorem KeepB.cell {b : Nat} {W W' : World} (h : KeepB b W W') {v : Value} (hc : W.cell? ⟨b, 0, none⟩ = some v) : W'.cell? ⟨b, 0, none⟩ = some v := by
  unfold World.cell? at hc ⊢
  rw [show W'.heap[b]? = W.heap[b]? from h]; exact hc

theorem KeepB.trans_ {b : Nat} {A B C : World} (h : KeepB b A B) (k : KeepB b B C) : KeepB b A C := Eq.trans k h

theorem KeepB.put {b : Nat} {w : World} (hb : b < w.heap.size) (W : World) (l : Nat) (o o' : Obj) (hl : w.heap.size ≤ l) (_ : W.heap[l]? = some o) (_ : o.isCells = false) (_ : o.isWalk = false) : KeepB b W (W.putObj l o') := by
  show (W.heap.setIfInBounds l o')[b]? = W.heap[b]?
  rw [Array.getElem?_setIfInBounds_ne (by omega)]

theorem KeepB.of_boxed {b : Nat} {t : TypeId} {v : Value} {W W' : World} (h : Boxed W b t v) (h' : Boxed W' b t v) : KeepB b W W' := Eq.trans h' (Eq.symm h)

def encItem (x : Nat × Nat) : Array Value := #[.int .i64 x.1, .int .i64 x.2]

theorem blanks_le (s : ByteArray) (n : Nat) : spanS isBla s.data.toList n = spanL isBla (s.data.toList.drop n) := by
  unfold spanS
  split
  · rename_i h
    rw [List.drop_of_length_le (by omega)]; rfl
  · rfl

set_option maxRecDepth 100000 in
set_option maxHeartbeats 2000000 in
theorem each1_in (n : Nat) (hn : 1 ≤ n) (l Bn : Nat) (s : ByteArray) (hs : s.size ≤ 1000000000) (J Jx : List (Nat × Nat) → World → Prop)
    (hY : ∀ pre x W, J pre W → pre.length < (items s.data.toList (spanL isBla s.data.toList)).length → YieldAt Fence.wide (n - 1) Try.prog l (encItem x) W fun e W' =>
      (e = .returned (.bool true) ∧ J (pre ++ [x]) W' ∧ KeepB Bn W W') ∨ (e = .returned (.bool false) ∧ Jx (pre ++ [x]) W'))
    (W : World) (hBn : W.cell? ⟨Bn, 0, none⟩ = some (.string s)) (h0 : J [] W) :
    CallsIn Fence.wide n Try.prog 23 #[.func (.yield l) #[] #[], .pointer (some ⟨Bn, 0, none⟩)] W fun e W' => (∃ v, e = .returned v) ∧
      ((∃ ys, ys = items s.data.toList (spanL isBla s.data.toList) ∧ J ys W') ∨ (∃ pre, pre <+: items s.data.toList (spanL isBla s.data.toList) ∧ Jx pre W')) := by
  have HB0 := blanks_any s 0 W hs (by unfold I64; omega)
  rw [show ((0 : Int)) = ((0 : Nat) : Int) from rfl, blanks_le, List.drop_zero, show ((0 : Nat) : Int) = (0 : Int) from rfl] at HB0
  have hsp := spanL_le isBla s.data.toList
  rw [size_list] at hsp
  generalize spanL isBla s.data.toList = p0 at HB0 hsp hY ⊢
  obtain ⟨its, hI⟩ : ∃ its, items s.data.toList p0 = its := ⟨_, rfl⟩
  rw [hI] at hY ⊢
  have HI := hid hI
  clear hI
  refine callsIn_of_wp Try.func23 rfl trivial ?_ rfl
  simp only [Try.ntmps23, List.size_toArray, List.length_cons, List.length_nil, Nat.reduceAdd, Nat.reduceSub, Array.replicate_succ, Array.replicate_zero, List.push_toArray, List.append_toArray, List.nil_append, List.cons_append]
  gi_wp2_with (refine ⟨trivial, ?_⟩; gi_at_call 24; refine (callsIn_wide.2 HB0).mono ?_; rintro e w' ⟨rfl, rfl⟩)
  clear HB0
  gi_loopw [3] (fun i wr => ∃ (p : Nat) (pre : List (Nat × Nat)), i = .int .i64 p ∧ p ≤ s.size ∧ its = pre ++ items s.data.toList p ∧ J pre wr ∧ wr.cell? ⟨Bn, 0, none⟩ = some (.string s)) (fun i _ => s.size - (intOf i).toNat)
  case atStart => exact ⟨p0, [], rfl, by omega, HI.out.symm, h0, hBn⟩
  case round =>
    obtain ⟨p, pre, rfl, hp, hx, hJ, hc⟩ := hrel
    have HX := hid hx
    clear hx h0 hBn HI
    by_cases hlt : p < s.size
    · have H1 := operAt_in s p wr hs hlt
      rw [opAt_eq] at H1
      by_cases hz : (opAtC (s.data.toList.drop p)).1 = 0
      · have h2 : its = pre ++ [(p, 0)] := by rw [HX.out, items_bad _ p (by rw [size_list]; exact hlt) hz]
        rw [opAtC_zero _ hz] at H1
        obtain ⟨fn, tmps, assign, body, hy, hR⟩ := hY pre (p, 0) wr hJ (by rw [h2]; simp)
        have H2 := hid h2
        clear h2 hz hY
        change (Instr.yield l #[Value.int .i64 (p : Int), Value.int .i64 0]).run Try.prog wr = _ at hy
        gi_wp2_with (refine ⟨trivial, ?_⟩; gi_at_call 9; refine (callsIn_wide.2 H1).mono ?_; rintro e w' ⟨rfl, rfl⟩)
        gi_wp2
        refine hR.mono ?_
        rintro e W3 (⟨rfl, hJ3, hk3⟩ | ⟨rfl, hJx3⟩)
        · gi_wp2
          refine bodyPost_ret (results_none rfl _ _ _) rfl ?_
          exact ⟨⟨_, rfl⟩, .inl ⟨_, H2.out.symm, hJ3⟩⟩
        · gi_wp2
          refine bodyPost_ret (results_none rfl _ _ _) rfl ?_
          exact ⟨⟨_, rfl⟩, .inr ⟨_, by rw [H2.out]; exact List.prefix_refl _, hJx3⟩⟩
      · have hpos := opAtC_pos _ hz
        rw [List.length_drop, size_list] at hpos
        have h2 := items_op s.data.toList p (by rw [size_list]; exact hlt) hz
        have hb := spanL_le isBla (s.data.toList.drop (p + (opAtC (s.data.toList.drop p)).2))
        rw [List.length_drop, size_list] at hb
        have HB := fun w => blanks_any s ((p + (opAtC (s.data.toList.drop p)).2 : Nat) : Int) w hs (by unfold I64; omega)
        simp only [blanks_le] at HB
        generalize spanL isBla (s.data.toList.drop (p + (opAtC (s.data.toList.drop p)).2)) = bl at HB hb h2
        have hp1 := hpos.1
        have hp2 := hpos.2.1
        have hp3 := hpos.2.2.1
        clear hpos
        generalize opAtC (s.data.toList.drop p) = q at H1 hz h2 hb HB hp1 hp2 hp3
        obtain ⟨op, m⟩ := q
        simp only at H1 hz h2 hb HB hp1 hp2 hp3
        have e0 : ((op : Int) == 0) = false := beqF (by omega)
        obtain ⟨fn, tmps, assign, body, hy, hR⟩ := hY pre (p, op) wr hJ (by rw [HX.out, h2]; simp)
        have H2 := hid h2
        clear h2 hz hY
        dsimp only [encItem] at hy
        gi_wp2_with (refine ⟨trivial, ?_⟩; gi_at_call 9; refine (callsIn_wide.2 H1).mono ?_; rintro e w' ⟨rfl, rfl⟩)
        gi_wp2
        refine hR.mono ?_
        rintro e W3 (⟨rfl, hJ3, hk3⟩ | ⟨rfl, hJx3⟩)
        · have hc3 : W3.cell? ⟨Bn, 0, none⟩ = some (.string s) := hk3.cell hc
          gi_wp2_with (refine ⟨trivial, ?_⟩; gi_at_call 24; refine (callsIn_wide.2 (HB _)).mono ?_; rintro e w' ⟨rfl, rfl⟩)
          go_roundw
          case rel => exact ⟨p + m + bl, pre ++ [(p, op)], by go_num, by omega, by rw [HX.out, H2.out]; simp, hJ3, hc3⟩
          case measure => simp [intOf]; omega
        · gi_wp2
          refine bodyPost_ret (results_none rfl _ _ _) rfl ?_
          exact ⟨⟨_, rfl⟩, .inr ⟨_, by rw [HX.out, H2.out]; simp, hJx3⟩⟩
    · gi_wp2
      go_end0
      have h2 := HX.out
      rw [items_end _ p (by rw [size_list]; omega), List.append_nil] at h2
      exact ⟨⟨_, rfl⟩, .inl ⟨pre, h2.symm, hJ⟩⟩
end Go.Proofs.Ytkbdgokmcdopgaa
