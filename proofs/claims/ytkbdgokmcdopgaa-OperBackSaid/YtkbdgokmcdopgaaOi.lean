/-
  oper.Split by the iterator's contract.
-/
import Derived.Test.YtkbdgokmcdopgaaOh
namespace Go.Proofs.Ytkbdgokmcdopgaa
open Go.RowKit Go.Shelf
set_option linter.unusedVariables false
set_option linter.unusedSimpArgs false
attribute [local go_sem] Oper.semAt_some

theorem appended2 {W w1 : World} {n₀ b2 B : Nat} {t e : TypeId} {size : Nat} {v v' : Value} {k m : Nat} {xs ys : List Value} {tmp : Obj}
    (hv : Boxed W B t v) (hrow : W.ownsRow b2 e size v k xs) (hb2 : b2 ≤ W.heap.size) (hB : n₀ ≤ B) (hlt : B < b2)
    (hown' : w1.ownsRow b2 e size v' m ys) (hgrow : (W.alloc tmp).grownBy w1 v.ownBlock) :
    Boxed w1 B t v ∧ Boxed (w1.setCell ⟨B, 0, none⟩ v') B t v' ∧ (w1.setCell ⟨B, 0, none⟩ v').ownsRow b2 e size v' m ys ∧ KeepsOthers W (w1.setCell ⟨B, 0, none⟩ v') ∧ Below n₀ W (w1.setCell ⟨B, 0, none⟩ v') ∧
      (∀ B' t' u, B' < b2 → B' ≠ B → Boxed W B' t' u → Boxed (w1.setCell ⟨B, 0, none⟩ v') B' t' u) := by
  have hne : ∀ j, j < b2 → some j ≠ v.ownBlock := fun j hj e' => by have := (hrow.lt j e'.symm).1; omega
  have hne' : ∀ j, j < b2 → some j ≠ v'.ownBlock := fun j hj e' => by have := (hown'.lt j e'.symm).1; omega
  have hv1 : Boxed w1 B t v := (hv.alloc tmp).kept hgrow (hne B hlt)
  refine ⟨hv1, hv1.set v', hown'.kept (grownBy_setCell' w1 B v') (.inr (hne' B hlt).symm), ?_, ?_, fun B' t' u h1 h2 h3 => ?_⟩
  · refine ((KeepsOthers.alloc W tmp).trans (KeepsOthers.of_grownBy hgrow fun j o ej hj => ?_)).trans (KeepsOthers.setCell _ _ _)
    rcases (hrow.alloc tmp).2 with ⟨rfl, _⟩ | ⟨g, cap, cur, rfl, _, hgb, _⟩
    · simp [Value.ownBlock] at ej
    · obtain rfl : g = j := by simpa [Value.ownBlock] using ej
      rw [hgb] at hj; cases hj; rfl
  · exact (((Below.refl n₀ W).alloc (by omega) tmp).grown hgrow (by simp; omega) fun j ej => by have := (hrow.lt j ej).1; omega).setCell (p := ⟨B, 0, none⟩) hB v'
  · exact ((h3.alloc tmp).kept hgrow (hne B' h1)).kept (grownBy_setCell' w1 B v') (by simpa using h2)

theorem each_any (s : ByteArray) (w : World) :
    Calls Try.prog 22 #[.string s] w fun e w' => e = .returned (.func (.func 23) #[] #[.pointer (some ⟨w.heap.size, 0, none⟩)]) ∧ w.alloc (.cells #[.string s] 9) = w' := by
  have hmf : ∀ (fn : Fn) (first cap : Array Value) (w : World), (Instr.makeFunc fn first cap).run Try.prog w = .ok (.func fn first cap) w := fun _ _ _ _ => rfl
  go_enter Try.func22, Try.ntmps22
  go_wp2
  go_ret
  exact ⟨rfl, rfl⟩

theorem each_stops (n : Nat) (hn : 1 ≤ n) (Bn : Nat) (s : ByteArray) (hs : s.size ≤ 1000000000) (w : World) (hBn : Bn < w.heap.size)
    (hc : w.cell? ⟨Bn, 0, none⟩ = some (.string s)) :
    SeqStopsK Fence.wide n Try.prog 23 #[.pointer (some ⟨Bn, 0, none⟩)] encItem (KeepB Bn) (fun ys => ys = items s.data.toList (spanL isBla s.data.toList)) (fun pre => pre <+: items s.data.toList (spanL isBla s.data.toList)) (items s.data.toList (spanL isBla s.data.toList)).length w := fun l J Jx W hW _ _ hY h0 =>
  each1_in n hn l Bn s hs J Jx hY W ((hW.cell (p := ⟨Bn, 0, none⟩) hBn).trans hc) h0

theorem boxed_keeps {X Y : World} {row : Option Nat} {B : Nat} {t : TypeId} {v : Value} (h : Boxed X B t v) (hg : X.grownBy Y row) (hr : ∀ r, row = some r → ∃ o : Obj, X.heap[r]? = some o ∧ o.isCells = false) : Boxed Y B t v :=
  boxed_own (β := Unit) B t (fun _ => v) () X Y row h hg hr

theorem ints_append (a b : List Nat) : ints (a ++ b) = ints a ++ ints b := by simp [ints]

theorem own_base {w : World} {b b2 : Nat} {e : TypeId} {size n : Nat} {v : Value} {xs : List Value} (h : w.ownsRow b2 e size v n xs) (hb : b ≤ b2) : w.ownsRow b e size v n xs := by
  refine ⟨h.1, ?_⟩
  rcases h.2 with h0 | ⟨g, cap, cur, h1, h2, h3⟩
  · exact .inl h0
  · exact .inr ⟨g, cap, cur, h1, by omega, h3⟩

theorem boxed_far {X : World} {B B' : Nat} {t : TypeId} {v : Value} (h : Boxed X B t v) (u : Value) (hne : B ≠ B') : Boxed (X.setCell ⟨B', 0, none⟩ u) B t v := h.kept (grownBy_setCell' X B' u) (by simpa using hne)

def SplitPost (its : List (Nat × Nat)) (w : World) (e : Ending) (w' : World) : Prop :=
  ∃ v a r, e = .returned (.tuple #[v, .int .i64 a, .int .i64 r]) ∧ Below w.heap.size w w' ∧
    ((∀ x ∈ its, x.2 ≠ 0) ∧ a = 0 ∧ r = 0 ∧ w'.ownsRow w.heap.size 3 1 v its.length (ints (its.map Prod.snd)) ∨ ∃ (pre : List (Nat × Nat)) (p : Nat), pre ++ [(p, 0)] <+: its ∧ v = .slice none 0 0 ∧ a = (p : Int) ∧ r = 15)

set_option maxRecDepth 100000 in
set_option maxHeartbeats 2000000 in
theorem split_in (s : ByteArray) (w : World) (hs : s.size ≤ 1000000000) :
    CallsIn Fence.wide 9 Try.prog 18 #[.string s] w (SplitPost (items s.data.toList (spanL isBla s.data.toList)) w) := by
  obtain ⟨i0, hi, hz0, hz1, hz2⟩ := info_parts int_info
  have hlen := items_len s.data.toList s.size (spanL isBla s.data.toList) (by rw [size_list]; omega)
  refine callsIn_of_wp_marks Try.func18 rfl trivial ?_ rfl
  simp only [Try.ntmps18, List.size_toArray, List.length_cons, List.length_nil, Nat.reduceAdd, Nat.reduceSub, Array.replicate_succ, Array.replicate_zero, List.push_toArray, List.append_toArray, List.nil_append, List.cons_append]
  gi_wp2_with (refine ⟨trivial, ?_⟩; gi_at_call 22; refine (callsIn_wide.2 (each_any s _)).mono ?_; rintro e w' ⟨rfl, rfl⟩)
  obtain ⟨W0, hW0⟩ : ∃ W0, (((w.alloc (.cells #[.slice none 0 0] 32)).alloc (.cells #[.int .i64 0] 3)).alloc (.cells #[.int .i64 0] 35)).alloc (.cells #[.string s] 9) = W0 := ⟨_, rfl⟩
  have hs0 : W0.heap.size = w.heap.size + 4 := by rw [← hW0]; simp
  have x0 : Boxed W0 w.heap.size 32 (.slice none 0 0) := by rw [← hW0]; exact (((Boxed.new w _ _).alloc _).alloc _).alloc _
  have x1 : Boxed W0 (w.heap.size + 1) 3 (.int .i64 0) := by
    rw [← hW0]; have := Boxed.new (w.alloc (.cells #[.slice none 0 0] 32)) 3 (.int .i64 0); rw [World.size_alloc] at this; exact (this.alloc _).alloc _
  have x2 : Boxed W0 (w.heap.size + 1 + 1) 35 (.int .i64 0) := by
    rw [← hW0]; have := Boxed.new ((w.alloc (.cells #[.slice none 0 0] 32)).alloc (.cells #[.int .i64 0] 3)) 35 (.int .i64 0); rw [World.size_alloc, World.size_alloc] at this; exact this.alloc _
  have x3 : Boxed W0 (w.heap.size + 1 + 1 + 1) 9 (.string s) := by
    rw [← hW0]; have := Boxed.new (((w.alloc (.cells #[.slice none 0 0] 32)).alloc (.cells #[.int .i64 0] 3)).alloc (.cells #[.int .i64 0] 35)) 9 (.string s); rw [World.size_alloc, World.size_alloc, World.size_alloc] at this; exact this
  have hB0 : Below w.heap.size w W0 := by
    rw [← hW0]; exact ((((Below.refl _ w).alloc (Nat.le_refl _) _).alloc (by simp) _).alloc (by simp; omega) _).alloc (by simp; omega) _
  rw [hW0]
  clear hW0
  refine wpIn_rangeFunc_ownG rfl (by omega) (gf := 23) (lb := #[.pointer (some ⟨w.heap.size + 1 + 1 + 1, 0, none⟩)]) rfl trivial (enters_of Try.func23 (by kernel_rfl) rfl)
    (each_stops 8 (by omega) (w.heap.size + 1 + 1 + 1) s hs W0 (by omega) x3.cell) KeepB.trans_ (KeepB.put (by omega)) (Below.refl _ _) (fun _ => rfl)
    (fun pre W => ((∃ v, Boxed W w.heap.size 32 v ∧ W.ownsRow W0.heap.size 3 1 v pre.length (ints (pre.map Prod.snd)) ∧ True) ∧ (Boxed W (w.heap.size + 1) 3 (.int .i64 0) ∧ (Boxed W (w.heap.size + 1 + 1) 35 (.int .i64 0) ∧ (Boxed W (w.heap.size + 1 + 1 + 1) 9 (.string s) ∧ ∀ x ∈ pre, x.2 ≠ 0)))) ∧ Below w.heap.size w W)
    (fun c pre W => (c = .ret ∧ ∃ (good : List (Nat × Nat)) (p : Nat), pre = good ++ [(p, 0)] ∧ Boxed W w.heap.size 32 (.slice none 0 0) ∧ Boxed W (w.heap.size + 1) 3 (.int .i64 p) ∧ Boxed W (w.heap.size + 1 + 1) 35 (.int .i64 15)) ∧ Below w.heap.size w W)
    (OwnFrom.and (OwnFrom.and (Own.from (holdsRow_own W0.heap.size w.heap.size 32 3 1 (fun (pre : List (Nat × Nat)) => pre.length) (fun (pre : List (Nat × Nat)) => ints (pre.map Prod.snd)) (fun _ _ => True)) _)
      (OwnFrom.and (Own.from (boxed_own _ _ (fun _ => .int .i64 0)) _) (OwnFrom.and (Own.from (boxed_own _ _ (fun _ => .int .i64 0)) _) (OwnFrom.and (Own.from (boxed_own _ _ (fun _ => .string s)) _) (ownFrom_pure _ (fun (pre : List (Nat × Nat)) => ∀ x ∈ pre, x.2 ≠ 0)))))) (ownFrom_below (Nat.le_refl _) (by omega)))
    (fun c => OwnFrom.and (Own.from (fun pre A B row hs hg hr => by
      obtain ⟨h1, good, p, h2, h3, h4, h5⟩ := hs
      exact ⟨h1, good, p, h2, boxed_keeps h3 hg hr, boxed_keeps h4 hg hr, boxed_keeps h5 hg hr⟩) _) (ownFrom_below (Nat.le_refl _) (by omega)))
    ⟨⟨⟨_, x0, World.ownsRow_nil _ _ _ _, trivial⟩, x1, x2, x3, by simp⟩, hB0⟩
    (fun x => { tmps := #[.string s, undef, .pointer (some ⟨w.heap.size, 0, none⟩), .pointer (some ⟨w.heap.size + 1, 0, none⟩), .pointer (some ⟨w.heap.size + 1 + 1, 0, none⟩), .int .i64 x.1, .int .i64 x.2, .string s, .func (.func 23) #[] #[.pointer (some ⟨w.heap.size + 1 + 1 + 1, 0, none⟩)], .int .i64 x.1, .int .i64 x.2, undef, undef, undef, undef, undef, undef, undef, undef], defers := [] }) ?assign ?body ?done ?stop
  case assign =>
    intro l x W K hK
    simp only [encItem]
    gi_wp2
    exact hK
  case body =>
    rintro l pre ⟨p, op⟩ W ⟨⟨⟨v, y0, hrow, _⟩, y1, y2, y3, hnz⟩, hB⟩ hlt
    have c0 := y0.cell
    have c1 := y1.cell
    have c2 := y2.cell
    have f0 := y0.frozen
    have f1 := y1.frozen
    have f2 := y2.frozen
    have hsz := hB.size
    have hNZ := hid hnz
    clear hnz
    dsimp only
    by_cases h0 : op = 0
    · subst h0
      gi_wp2
      refine ⟨(((KeepsOthers.setCell _ _ _).trans (KeepsOthers.setCell _ _ _)).trans (KeepsOthers.setCell _ _ _)).from _, ⟨rfl, pre, p, rfl, ?_, ?_, ?_⟩, ?_⟩
      · exact boxed_far (boxed_far (y0.set _) _ (by omega)) _ (by omega)
      · exact boxed_far ((boxed_far y1 _ (by omega)).set _) _ (by omega)
      · exact (boxed_far (boxed_far y2 _ (by omega)) _ (by omega)).set _
      · exact ((hB.setCell (p := ⟨w.heap.size, 0, none⟩) (Nat.le_refl _) _).setCell (p := ⟨w.heap.size + 1, 0, none⟩) (by simp) _).setCell (p := ⟨w.heap.size + 1 + 1, 0, none⟩) (by simp; omega) _
    · have e0 : ((op : Int) == 0) = false := beqF (by omega)
      have hb2 : W0.heap.size ≤ W.heap.size := by have := y3.lt; omega
      gi_wp2_with (gi_at_builtin; refine wpListIn_append_own _ rfl _ _ 32 rfl W0.heap.size 3 i0 (.int .i64 0) 1 8 Try.underlying32 hi hz0 hz1 hz2 rfl (by decide) _ _ _ rfl (hrow.alloc _) ⟨W.heap.size, 0, none⟩ 1 1 [.int .i64 op] rfl rfl (cell_one_new _ _ _) (by simp [Value.oneCell']) (by simp only [maxLen]; omega) (by omega) (by simp; omega) ?_; intro v' w1 hown' hgrow _; obtain ⟨g', cap', rfl⟩ := ownsRow_succ hown'; obtain ⟨hv1, hv2, hr2, hk2, hb2, hx2⟩ := appended2 (n₀ := w.heap.size) y0 hrow hb2 (Nat.le_refl _) (by omega) hown' hgrow; have hc1 := hv1.cell; have hf1 := hv1.frozen)
      refine ⟨hk2.from _, KeepB.of_boxed y3 (hx2 _ _ _ (by omega) (by omega) y3), ⟨⟨_, hv2, by rw [List.length_append, List.map_append, ints_append]; exact hr2, trivial⟩, hx2 _ _ _ (by omega) (by omega) y1, hx2 _ _ _ (by omega) (by omega) y2, hx2 _ _ _ (by omega) (by omega) y3, fun x hx => ?_⟩, hB.trans hb2⟩
      rcases List.mem_append.1 hx with hx | hx
      · exact hNZ.out x hx
      · simp at hx; subst hx; exact h0
  case done =>
    rintro D ys W hD rfl ⟨⟨⟨v, y0, hrow, _⟩, y1, y2, y3, hnz⟩, hB⟩ hK
    have c0 := y0.cell
    have c1 := y1.cell
    have c2 := y2.cell
    have f0 := y0.frozen
    have f1 := y1.frozen
    have f2 := y2.frozen
    obtain ⟨A, c, rfl⟩ := own_form hrow
    gi_wp2
    have hN : ∀ j, j < W0.heap.size → Value.ownBlock (.slice A (items s.data.toList (spanL isBla s.data.toList)).length c) ≠ some j := fun j hj e => by have := (hrow.lt j e).1; omega
    have hR : (((W.setCell ⟨w.heap.size, 0, none⟩ (.slice A (items s.data.toList (spanL isBla s.data.toList)).length c)).setCell ⟨w.heap.size + 1, 0, none⟩ (.int .i64 0)).setCell ⟨w.heap.size + 1 + 1, 0, none⟩ (.int .i64 0)).ownsRow w.heap.size 3 1 (.slice A (items s.data.toList (spanL isBla s.data.toList)).length c) (items s.data.toList (spanL isBla s.data.toList)).length (ints ((items s.data.toList (spanL isBla s.data.toList)).map Prod.snd)) :=
      own_base (((hrow.kept (grownBy_setCell' W w.heap.size _) (.inr (hN _ (by omega)))).kept (grownBy_setCell' _ (w.heap.size + 1) _) (.inr (hN _ (by omega)))).kept (grownBy_setCell' _ (w.heap.size + 1 + 1) _) (.inr (hN _ (by omega)))) (by omega)
    have hBB : Below w.heap.size w (((W.setCell ⟨w.heap.size, 0, none⟩ (.slice A (items s.data.toList (spanL isBla s.data.toList)).length c)).setCell ⟨w.heap.size + 1, 0, none⟩ (.int .i64 0)).setCell ⟨w.heap.size + 1 + 1, 0, none⟩ (.int .i64 0)) :=
      ((hB.setCell (p := ⟨w.heap.size, 0, none⟩) (Nat.le_refl _) _).setCell (p := ⟨w.heap.size + 1, 0, none⟩) (by simp) _).setCell (p := ⟨w.heap.size + 1 + 1, 0, none⟩) (by simp; omega) _
    have z0 := boxed_far (boxed_far (y0.set (.slice A (items s.data.toList (spanL isBla s.data.toList)).length c)) (.int .i64 0) (B' := w.heap.size + 1) (by omega)) (.int .i64 0) (B' := w.heap.size + 1 + 1) (by omega)
    have z1 := boxed_far ((boxed_far y1 (.slice A (items s.data.toList (spanL isBla s.data.toList)).length c) (B' := w.heap.size) (by omega)).set (.int .i64 0)) (.int .i64 0) (B' := w.heap.size + 1 + 1) (by omega)
    have z2 := (boxed_far (boxed_far y2 (.slice A (items s.data.toList (spanL isBla s.data.toList)).length c) (B' := w.heap.size) (by omega)) (.int .i64 0) (B' := w.heap.size + 1) (by omega)).set (.int .i64 0)
    have hK' := (((KeepsOthers.setCell W ⟨w.heap.size, 0, none⟩ (.slice A (items s.data.toList (spanL isBla s.data.toList)).length c)).trans (KeepsOthers.setCell _ ⟨w.heap.size + 1, 0, none⟩ (.int .i64 0))).trans (KeepsOthers.setCell _ ⟨w.heap.size + 1 + 1, 0, none⟩ (.int .i64 0))).same D _ hK rfl
    generalize (((W.setCell ⟨w.heap.size, 0, none⟩ (.slice A (items s.data.toList (spanL isBla s.data.toList)).length c)).setCell ⟨w.heap.size + 1, 0, none⟩ (.int .i64 0)).setCell ⟨w.heap.size + 1 + 1, 0, none⟩ (.int .i64 0)) = W2 at hR hBB z0 z1 z2 hK' ⊢
    refine ⟨by simp, .inl ⟨_, _, rfl, run_takeDeferred hK', ?_⟩⟩
    have k0 := (boxed_keeps z0 (grownBy_putObj' _ D (.deferred none)) (fun r e => by cases e; exact ⟨_, hK', rfl⟩)).cell
    have k1 := (boxed_keeps z1 (grownBy_putObj' _ D (.deferred none)) (fun r e => by cases e; exact ⟨_, hK', rfl⟩)).cell
    have k2 := (boxed_keeps z2 (grownBy_putObj' _ D (.deferred none)) (fun r e => by cases e; exact ⟨_, hK', rfl⟩)).cell
    refine ⟨.tuple #[.slice A (items s.data.toList (spanL isBla s.data.toList)).length c, .int .i64 0, .int .i64 0], by simp [results, Try.f18, go_sem, k0, k1, k2], _, _, _, rfl, hBB.trans (belowK_b (w := w) (Nat.le_refl _) W2 D _ _ (by omega) hK' rfl rfl), .inl ⟨hnz, rfl, rfl, ownsRow_putObj hR _ hK' rfl⟩⟩
  case stop =>
    rintro D c pre W hD hpre ⟨⟨rfl, good, p, rfl, y0, y1, y2⟩, hB⟩ hK
    gi_wp2
    refine ⟨by simp, .inl ⟨_, _, rfl, run_takeDeferred hK, ?_⟩⟩
    have k0 := (boxed_keeps y0 (grownBy_putObj' _ D (.deferred none)) (fun r e => by cases e; exact ⟨_, hK, rfl⟩)).cell
    have k1 := (boxed_keeps y1 (grownBy_putObj' _ D (.deferred none)) (fun r e => by cases e; exact ⟨_, hK, rfl⟩)).cell
    have k2 := (boxed_keeps y2 (grownBy_putObj' _ D (.deferred none)) (fun r e => by cases e; exact ⟨_, hK, rfl⟩)).cell
    refine ⟨.tuple #[.slice none 0 0, .int .i64 p, .int .i64 15], by simp [results, Try.f18, go_sem, k0, k1, k2], _, _, _, rfl, hB.trans (belowK_b (w := w) (Nat.le_refl _) W D _ _ (by omega) hK rfl rfl), .inr ⟨good, p, hpre, rfl, rfl, rfl⟩⟩
end Go.Proofs.Ytkbdgokmcdopgaa
