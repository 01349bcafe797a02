/-
  The row of a node and its first word: the program and the document say the same.
-/
import Derived.Test.YtkloefipjbeneaaRk
import Derived.Test.YtkloefipjbeneaaRn
namespace Go.Proofs.Ytkloefipjbeneaa
open Go.RowKit
set_option linter.unusedVariables false
set_option linter.unusedSimpArgs false
set_option maxRecDepth 100000

abbrev Lf := Int × List UInt8 × Int × Int × Unit
abbrev lf (lv : List Lf) (i : Int) : Lf := getI lv (0, ([], (0, (0, ())))) i
def shortL (lv : List Lf) : Prop := lv.length ≤ 40 ∧ ∀ x ∈ lv, x.2.1.length ≤ 60

theorem lf_short {lv : List Lf} (h : shortL lv) {i : Int} (h0 : 0 ≤ i) (h1 : i < lv.length) : (lf lv i).2.1.length ≤ 60 := by
  refine h.2 _ ?_
  unfold lf getI
  rw [List.getD_eq_getElem?_getD, List.getElem?_eq_getElem (by omega)]
  exact List.getElem_mem _

def sgn (f : Lf) : UInt8 := match fn11 f with
  | some ([c], _) => c
  | _ => 0

theorem sgn_eq {f : Lf} (h : f.2.1.length ≤ 60) : fn10 f = some (((sgn f).toNat : Int), ()) ∧ fn11 f = some ([sgn f], ()) := by
  obtain ⟨k, x, a, b, u⟩ := f
  obtain ⟨c, h1, h2⟩ := signs k x h a b
  have e : sgn (k, x, a, b, u) = c := by unfold sgn; rw [show fn11 (k, x, a, b, u) = _ from h2]
  rw [e]
  exact ⟨h1, h2⟩

/-- the signs of leaves -/
def segN (lv : List Lf) : Nat → Int → List UInt8
  | 0, _ => []
  | n + 1, a => sgn (lf lv a) :: segN lv n (a + 1)
def seg (lv : List Lf) (a b : Int) : List UInt8 := segN lv (b - a).toNat a

theorem segN_len (lv : List Lf) : ∀ (n : Nat) (a : Int), (segN lv n a).length = n
  | 0, _ => rfl
  | n + 1, a => by rw [segN, List.length_cons, segN_len lv n]
theorem seg_len (lv : List Lf) (a b : Int) : (seg lv a b).length = (b - a).toNat := segN_len lv _ _
theorem seg_stop (lv : List Lf) {a b : Int} (h : b ≤ a) : seg lv a b = [] := by unfold seg; rw [show (b - a).toNat = 0 by omega]; rfl
theorem seg_go (lv : List Lf) {a b : Int} (h : a < b) : seg lv a b = sgn (lf lv a) :: seg lv (a + 1) b := by
  unfold seg
  rw [show (b - a).toNat = (b - (a + 1)).toNat + 1 by omega]; rfl

theorem toBytes_snoc (t : List UInt8) (c : UInt8) : catL (toBytes t) [((c.toNat : Nat) : Int)] = toBytes (t ++ [c]) := by
  simp [catL, toBytes]
theorem toBytes_len (t : List UInt8) : (toBytes t).length = t.length := by simp [toBytes]
theorem ofBytes_to (t : List UInt8) : ofBytes (toBytes t) = t := by
  simp [ofBytes, toBytes, Function.comp_def]
theorem fit_snoc {t : List UInt8} {c : UInt8} (h : t.length < 1000000) : fitI (catL (toBytes t) [((c.toNat : Nat) : Int)]) 1 = true := by
  rw [toBytes_snoc]
  simp only [fitI, roomN, toBytes_len, List.length_append, List.length_singleton, decide_eq_true_eq]; omega
theorem room_snoc {t : List UInt8} {c : UInt8} (h : t.length < 1000000) : roomS t [c] = true := by
  unfold roomS roomN
  simp only [List.length_cons, List.length_nil, decide_eq_true_eq]; omega

abbrev LtrR : List UInt8 := [63, 80, 76, 65, 73, 83, 88, 87, 82, 66, 85, 70, 72, 79, 67, 84, 78, 69, 77]
def ltr (k : Int) : UInt8 := LtrR.getD k.toNat 0
theorem ltr_tab : ∀ n : Fin 19, sub LtrR ((n.val : Nat) : Int) (((n.val : Nat) : Int) + 1) = [LtrR.getD n.val 0] := by decide +kernel
theorem ltr_sub {k : Int} (h0 : 0 ≤ k) (h1 : k ≤ 18) : sub LtrR k (k + 1) = [ltr k] := by
  have := ltr_tab ⟨k.toNat, by omega⟩
  simp only at this
  rwa [show ((k.toNat : Nat) : Int) = k by omega] at this

section
variable {lv : List Lf} {l : List Nd} (hs : shortL lv)
include hs

/-! ### the leaves up to a node -/

theorem segP {k : Int} (hk0 : 0 ≤ k) (hk1 : k < l.length) (hf : (nd l k).fro ≤ lv.length) (ks : List Int) (n j : Int) (z1 z2 : List UInt8) (i : Int) : ∀ (N : Nat) (a : Int) (t : List UInt8), ((nd l k).fro - a).toNat < N → 0 ≤ a → t.length + ((nd l k).fro - a).toNat < 100000 →
    lp54_87_4 N a k ks n j z1 z2 i l lv (toBytes t) = some (.inl ((k, ks, n, j, ()), ((z1, ()), (), (), ()), ((z2, ()), (i, ()), (l, ()), (lv, ()), (), toBytes (t ++ seg lv a (nd l k).fro), ())))
  | 0, a, t, h, _, _ => by omega
  | N + 1, a, t, h, h0, ht => by
    have hl := hs.1
    rw [lp54_87_4, st54_87_4, bif_t (inI_t hk0 hk1)]
    by_cases c : a < (nd l k).fro
    · rw [bif_t (ltI_t c), bif_t (inI_t h0 (by omega)), (sgn_eq (lf_short hs h0 (by omega))).1, obind_some]
      simp only
      rw [bif_t (fit_snoc (by omega)), toBytes_snoc, addK_eq (by omega) (by omega),
        segP hk0 hk1 hf ks n j z1 z2 i N (a + 1) _ (by omega) (by omega) (by rw [List.length_append, List.length_singleton]; omega), seg_go lv c]
      simp
    · rw [bif_f (ltI_n c), seg_stop lv (by omega), List.append_nil]

theorem segP2 {i : Int} (hk0 : 0 ≤ i) (hk1 : i < l.length) (hf : (nd l i).too ≤ lv.length) (z1 z2 : List UInt8) : ∀ (N : Nat) (a : Int) (t : List UInt8), ((nd l i).too - a).toNat < N → 0 ≤ a → t.length + ((nd l i).too - a).toNat < 100000 →
    lp54_87_10 N a z1 z2 i l lv (toBytes t) = some (.inl ((), ((z1, ()), (), (), ()), ((z2, ()), (i, ()), (l, ()), (lv, ()), (), toBytes (t ++ seg lv a (nd l i).too), ())))
  | 0, a, t, h, _, _ => by omega
  | N + 1, a, t, h, h0, ht => by
    have hl := hs.1
    rw [lp54_87_10, st54_87_10, bif_t (inI_t hk0 hk1)]
    by_cases c : a < (nd l i).too
    · rw [bif_t (ltI_t c), bif_t (inI_t h0 (by omega)), (sgn_eq (lf_short hs h0 (by omega))).1, obind_some]
      simp only
      rw [bif_t (fit_snoc (by omega)), toBytes_snoc, addK_eq (by omega) (by omega),
        segP2 hk0 hk1 hf z1 z2 N (a + 1) _ (by omega) (by omega) (by rw [List.length_append, List.length_singleton]; omega), seg_go lv c]
      simp
    · rw [bif_f (ltI_n c), seg_stop lv (by omega), List.append_nil]

theorem segR {k : Int} (hk0 : 0 ≤ k) (hk1 : k < l.length) (hf : (nd l k).fro ≤ lv.length) (i : Int) : ∀ (N : Nat) (a : Int) (t : List UInt8), ((nd l k).fro - a).toNat < N → 0 ≤ a → t.length + ((nd l k).fro - a).toNat < 100000 →
    lp32_7 N lv l i t a k = some (.inl ((lv, l, i, t ++ seg lv a (nd l k).fro, k, ()), ()))
  | 0, a, t, h, _, _ => by omega
  | N + 1, a, t, h, h0, ht => by
    have hl := hs.1
    rw [lp32_7, st32_7, bif_t (inI_t hk0 hk1)]
    by_cases c : a < (nd l k).fro
    · rw [bif_t (ltI_t c), bif_t (inI_t h0 (by omega)), (sgn_eq (lf_short hs h0 (by omega))).2, obind_some]
      simp only
      rw [bif_t (room_snoc (by omega)), addK_eq (by omega) (by omega)]
      have := segR hk0 hk1 hf i N (a + 1) (t ++ [sgn (lf lv a)]) (by omega) (by omega) (by rw [List.length_append, List.length_singleton]; omega)
      refine this.trans ?_
      rw [seg_go lv c]
      simp
    · rw [bif_f (ltI_n c), seg_stop lv (by omega), List.append_nil]

theorem segR2 {i : Int} (hk0 : 0 ≤ i) (hk1 : i < l.length) (hf : (nd l i).too ≤ lv.length) : ∀ (N : Nat) (a : Int) (t : List UInt8), ((nd l i).too - a).toNat < N → 0 ≤ a → t.length + ((nd l i).too - a).toNat < 100000 →
    lp32_12 N lv l i t a = some (.inl ((t ++ seg lv a (nd l i).too, ()), ()))
  | 0, a, t, h, _, _ => by omega
  | N + 1, a, t, h, h0, ht => by
    have hl := hs.1
    rw [lp32_12, st32_12, bif_t (inI_t hk0 hk1)]
    by_cases c : a < (nd l i).too
    · rw [bif_t (ltI_t c), bif_t (inI_t h0 (by omega)), (sgn_eq (lf_short hs h0 (by omega))).2, obind_some]
      simp only
      rw [bif_t (room_snoc (by omega)), addK_eq (by omega) (by omega)]
      have := segR2 hk0 hk1 hf N (a + 1) (t ++ [sgn (lf lv a)]) (by omega) (by omega) (by rw [List.length_append, List.length_singleton]; omega)
      refine this.trans ?_
      rw [seg_go lv c]
      simp
    · rw [bif_f (ltI_n c), seg_stop lv (by omega), List.append_nil]
end

/-! ### the row -/

/-- the kids from a place on -/
def kidsF (l : List Nd) (i : Int) : Nat → Nat → List Int
  | 0, _ => []
  | d + 1, k => if isKid l i (k : Int) then (k : Int) :: kidsF l i d (k + 1) else kidsF l i d (k + 1)

def rowT (l : List Nd) (lv : List Lf) : Int → List Int → List UInt8
  | _, [] => []
  | a, k :: ks => seg lv a (nd l k).fro ++ (ltr (nd l k).kind :: rowT l lv (nd l k).too ks)
def atT (l : List Nd) : Int → List Int → Int
  | a, [] => a
  | _, k :: ks => atT l (nd l k).too ks

/-- what is known of a node over so many leaves -/
def Bd (l : List Nd) (n : Int) (k : Int) : Prop := 0 ≤ k ∧ k < l.length ∧ 0 ≤ (nd l k).fro ∧ (nd l k).fro ≤ (nd l k).too ∧ (nd l k).too ≤ n ∧ 1 ≤ (nd l k).kind ∧ (nd l k).kind ≤ 18

theorem rowT_len (l : List Nd) (lv : List Lf) (M : Nat) (hl : lv.length ≤ M) : ∀ (ks : List Int) (a : Int), (∀ k ∈ ks, Bd l lv.length k) → 0 ≤ a → (rowT l lv a ks).length ≤ (M + 1) * ks.length
  | [], a, _, _ => by simp [rowT]
  | k :: ks, a, h, ha => by
    have hb := h k List.mem_cons_self
    unfold Bd at hb
    have ih := rowT_len l lv M hl ks (nd l k).too (fun x hx => h x (List.mem_cons_of_mem _ hx)) (by omega)
    simp only [rowT, List.length_append, List.length_cons, seg_len]
    rw [Nat.mul_add]
    omega

theorem atT_ge (l : List Nd) {n : Int} : ∀ (ks : List Int) (a : Int), (∀ k ∈ ks, Bd l n k) → 0 ≤ a → 0 ≤ atT l a ks
  | [], a, _, h => h
  | k :: ks, a, h, _ => atT_ge l ks _ (fun x hx => h x (List.mem_cons_of_mem _ hx)) (by have := h k List.mem_cons_self; unfold Bd at this; omega)

section
variable {lv : List Lf} {l : List Nd} (hs : shortL lv)
include hs

theorem rowP {ks : List Int} (hk : ∀ k ∈ ks, Bd l lv.length k) (hkl : ks.length ≤ 100) (z1 z2 : List UInt8) (i : Int) : ∀ (N j : Nat) (a : Int) (t : List UInt8), ks.length - j < N → j ≤ ks.length → 0 ≤ a → t.length ≤ 41 * j →
    lp54_87_2 N a ks (lenI ks) (j : Int) z1 z2 i l lv (toBytes t) = some (.inl ((atT l a (ks.drop j), ()), ((z1, ()), (), (), ()), ((z2, ()), (i, ()), (l, ()), (lv, ()), (), toBytes (t ++ rowT l lv a (ks.drop j)), ())))
  | 0, j, a, t, h, _, _, _ => by omega
  | N + 1, j, a, t, h, hj, h0, ht => by
    have hl := hs.1
    rw [lp54_87_2, st54_87_2]
    by_cases c : j < ks.length
    · have hg : getI ks 0 (j : Int) = ks[j] := by simp [getI, List.getD, c]
      have hb := hk ks[j] (List.getElem_mem _)
      have hb' := hb
      unfold Bd at hb'
      rw [bif_t (ltI_t (by rw [lenI_eq]; omega)), bif_t (inI_t (by omega) (by omega)), hg,
        segP hs hb'.1 hb'.2.1 (by omega) ks (lenI ks) (j : Int) z1 z2 i fuelN a t (big_fuel (by omega)) h0 (by omega), obind_some]
      unfold osum
      simp only
      have hin : inI l ks[j] = true := inI_t hb'.1 hb'.2.1
      have hsl := seg_len lv a (nd l ks[j]).fro
      have hLt : inI ([63, 80, 76, 65, 73, 83, 88, 87, 82, 66, 85, 70, 72, 79, 67, 84, 78, 69, 77] : List UInt8) (nd l ks[j]).kind = true := inI_t (by omega) (by simp only [List.length_cons, List.length_nil]; omega)
      have hbyte : byteAt ([63, 80, 76, 65, 73, 83, 88, 87, 82, 66, 85, 70, 72, 79, 67, 84, 78, 69, 77] : List UInt8) (nd l ks[j]).kind = ((ltr (nd l ks[j]).kind).toNat : Int) := rfl
      refine (bif_t hin).trans ?_
      refine (bif_t hLt).trans ?_
      refine (bif_t (fit_snoc (t := t ++ seg lv a (nd l ks[j]).fro) (c := ltr (nd l ks[j]).kind) (by rw [List.length_append, hsl]; omega))).trans ?_
      refine (bif_t hin).trans ?_
      show lp54_87_2 N (nd l ks[j]).too ks (lenI ks) (addK .i64 (j : Int) 1) z1 z2 i l lv (catL (toBytes (t ++ seg lv a (nd l ks[j]).fro)) [((ltr (nd l ks[j]).kind).toNat : Int)]) = _
      rw [toBytes_snoc, addK_eq (by omega) (by omega), show (j : Int) + 1 = ((j + 1 : Nat) : Int) by omega]
      have ih := rowP hk hkl z1 z2 i N (j + 1) (nd l ks[j]).too (t ++ seg lv a (nd l ks[j]).fro ++ [ltr (nd l ks[j]).kind]) (by omega) (by omega) (by omega) (by simp only [List.length_append, List.length_singleton, hsl]; omega)
      refine ih.trans ?_
      rw [List.drop_eq_getElem_cons c]
      simp [rowT, atT]
    · rw [bif_f (ltI_n (by rw [lenI_eq]; omega)), List.drop_eq_nil_of_le (by omega)]
      simp [rowT, atT]

theorem rowR {i : Int} (hb : ∀ k : Nat, k < l.length → Bd l lv.length (k : Int)) (hll : l.length ≤ 100) : ∀ (d N k : Nat) (a : Int) (t : List UInt8), k + d = l.length → d < N → 0 ≤ a → t.length ≤ 41 * k →
    lp32_4 N lv l i t a (k : Int) = some (.inl ((lv, l, i, t ++ rowT l lv a (kidsF l i d k), atT l a (kidsF l i d k), ()), ()))
  | d, 0, k, a, t, _, h, _, _ => by omega
  | 0, N + 1, k, a, t, hk, h, h0, ht => by
    rw [lp32_4, st32_4, bif_f (ltI_n (by rw [lenI_eq]; omega))]
    simp [rowT, atT, kidsF]
  | d + 1, N + 1, k, a, t, hk, h, h0, ht => by
    have hl := hs.1
    have hbk := hb k (by omega)
    have hb' := hbk
    unfold Bd at hb'
    have hin : inI l (k : Int) = true := inI_t hb'.1 hb'.2.1
    have ea : addK .i64 (k : Int) 1 = ((k + 1 : Nat) : Int) := by rw [addK_eq (by omega) (by omega)]; rfl
    rw [lp32_4, st32_4, bif_t (ltI_t (by rw [lenI_eq]; omega)), bif_t hin]
    by_cases c : (nd l (k : Int)).up = i
    · rw [bif_t (eqI_t c), segR hs hb'.1 hb'.2.1 (by omega) i fuelN a t (big_fuel (by omega)) h0 (by omega), obind_some]
      unfold osum
      simp only
      have hsl := seg_len lv a (nd l (k : Int)).fro
      have hp : partI (lenI LtrR) (nd l (k : Int)).kind (addK .i64 (nd l (k : Int)).kind 1) = true := by
        rw [addK_eq (by omega) (by omega)]
        exact partI_t (by omega) (by omega) (by show _ ≤ (19 : Int); omega)
      have hsb : sub LtrR (nd l (k : Int)).kind (addK .i64 (nd l (k : Int)).kind 1) = [ltr (nd l (k : Int)).kind] := by
        rw [addK_eq (by omega) (by omega)]
        exact ltr_sub (by omega) (by omega)
      refine (bif_t hin).trans ?_
      refine (bif_t hin).trans ?_
      refine (bif_t hp).trans ?_
      refine (bif_t (b := roomS (t ++ seg lv a (nd l (k : Int)).fro) (sub LtrR (nd l (k : Int)).kind (addK .i64 (nd l (k : Int)).kind 1))) (by rw [hsb]; exact room_snoc (by rw [List.length_append, hsl]; omega))).trans ?_
      refine (bif_t hin).trans ?_
      show lp32_4 N lv l i (catL (t ++ seg lv a (nd l (k : Int)).fro) (sub LtrR (nd l (k : Int)).kind (addK .i64 (nd l (k : Int)).kind 1))) (nd l (k : Int)).too (addK .i64 (k : Int) 1) = _
      rw [hsb, ea]
      have ih := rowR (i := i) hb hll d N (k + 1) (nd l (k : Int)).too (t ++ seg lv a (nd l (k : Int)).fro ++ [ltr (nd l (k : Int)).kind]) (by omega) (by omega) (by omega) (by simp only [List.length_append, List.length_singleton, hsl]; omega)
      refine ih.trans ?_
      rw [kidsF, if_pos (by simp [isKid, c])]
      simp [rowT, atT]
    · rw [bif_f (eqI_f c), ea, rowR hb hll d N (k + 1) a t (by omega) (by omega) h0 (by omega), kidsF, if_neg (by simp [isKid, c])]
end

theorem filt_kids (l : List Nd) (i : Int) : ∀ (d k : Nat), filt (isKid l i) (k + d) = filt (isKid l i) k ++ kidsF l i d k
  | 0, k => by simp [kidsF]
  | d + 1, k => by
    rw [show k + (d + 1) = (k + 1) + d by omega, filt_kids l i d (k + 1), kidsF]
    by_cases c : isKid l i (k : Int) = true
    · rw [if_pos c]; simp [filt, c]
    · rw [if_neg c, filt_no (by simpa using c)]

/-- the kids of a node of a right tree -/
def kidsOf (l : List Nd) (i : Nat) : List Int := kidsF l (i : Int) (l.length - (i + 1)) (i + 1)

theorem kids_eq {l : List Nd} (hups : upsOk l l.length) {i : Nat} (hi : i < l.length) : filt (isKid l (i : Int)) l.length = kidsOf l i := by
  have h0 : filt (isKid l (i : Int)) (i + 1) = [] := by
    have := filt_none (p := isKid l (i : Int)) (k := 0) (i + 1) (fun j _ hj => by
      have := hups (j : Int) (by omega) (by omega)
      simp only [isKid, decide_eq_false_iff_not]
      omega)
    rw [Nat.zero_add] at this
    rw [this]; rfl
  have := filt_kids l (i : Int) (l.length - (i + 1)) (i + 1)
  rw [show i + 1 + (l.length - (i + 1)) = l.length by omega, h0, List.nil_append] at this
  exact this

theorem kidsF_mem {l : List Nd} {i : Int} : ∀ (d k : Nat) (x : Int), x ∈ kidsF l i d k → (k : Int) ≤ x ∧ x < (k + d : Nat) ∧ (nd l x).up = i
  | 0, k, x, h => by simp [kidsF] at h
  | d + 1, k, x, h => by
    rw [kidsF] at h
    by_cases c : isKid l i (k : Int) = true
    · rw [if_pos c] at h
      rcases List.mem_cons.1 h with rfl | h
      · exact ⟨by omega, by omega, by simpa [isKid] using c⟩
      · have := kidsF_mem d (k + 1) x h; exact ⟨by omega, by omega, this.2.2⟩
    · rw [if_neg c] at h
      have := kidsF_mem d (k + 1) x h; exact ⟨by omega, by omega, this.2.2⟩

theorem kidsF_len {l : List Nd} {i : Int} : ∀ (d k : Nat), (kidsF l i d k).length ≤ d
  | 0, k => by simp [kidsF]
  | d + 1, k => by
    rw [kidsF]
    have := kidsF_len (l := l) (i := i) d (k + 1)
    split <;> simp <;> omega

def rowL (l : List Nd) (lv : List Lf) (i : Nat) : List UInt8 := rowT l lv (nd l (i : Int)).fro (kidsOf l i) ++ seg lv (atT l (nd l (i : Int)).fro (kidsOf l i)) (nd l (i : Int)).too

theorem bounds {l : List Nd} {n : Int} (hR : Rt l n) : ∀ (m : Nat) (j : Nat), j < m → j < l.length → Bd l n (j : Int)
  | 0, j, h, _ => by omega
  | m + 1, j, h, hj => by
    obtain ⟨hne, hup, hfr, hto, hok⟩ := hR
    obtain ⟨h1, h2, h3, h4⟩ := hok (j : Int) (by omega) (by omega)
    have h5 := okTo.fro hok hfr (j + 1) (j : Int) (by omega) (by omega) (by omega)
    refine ⟨by omega, by omega, h5, h3, ?_, h1, h2⟩
    by_cases e : j = 0
    · subst e; rw [show ((0 : Nat) : Int) = 0 from rfl, hto]; omega
    · obtain ⟨a, b, _, c, d, _⟩ := h4 (by omega)
      obtain ⟨u, hu⟩ : ∃ u : Nat, (nd l (j : Int)).up = u := ⟨(nd l (j : Int)).up.toNat, by omega⟩
      have := bounds ⟨hne, hup, hfr, hto, hok⟩ m u (by omega) (by omega)
      unfold Bd at this
      rw [hu] at d
      omega

theorem kids_bd {l : List Nd} {n : Int} (hR : Rt l n) {i : Nat} (hi : i < l.length) : ∀ k ∈ kidsOf l i, Bd l n k := fun k hk => by
  have := kidsF_mem _ _ _ hk
  have hb := bounds hR l.length k.toNat (by omega) (by omega)
  rwa [show ((k.toNat : Nat) : Int) = k by omega] at hb

section
variable {lv : List Lf} {l : List Nd} (hs : shortL lv) (hR : Rt l lv.length) (hl : l.length ≤ 60) {i : Nat} (hi : i < l.length)
include hs hR hl hi

theorem row_len : (rowL l lv i).length < 100000 := by
  have h1 := rowT_len l lv 40 hs.1 (kidsOf l i) (nd l (i : Int)).fro (kids_bd hR hi) (by have := bounds hR l.length i hi hi; unfold Bd at this; omega)
  have h2 : (kidsOf l i).length ≤ 60 := by have := kidsF_len (l := l) (i := (i : Int)) (l.length - (i + 1)) (i + 1); unfold kidsOf; omega
  have h3 := atT_ge l (n := lv.length) (kidsOf l i) (nd l (i : Int)).fro (kids_bd hR hi) (by have := bounds hR l.length i hi hi; unfold Bd at this; omega)
  have h4 := bounds hR l.length i hi hi
  unfold Bd at h4
  have h5 := hs.1
  unfold rowL
  rw [List.length_append, seg_len]
  omega

theorem row_prog : fn54 lv l (i : Int) = some (rowL l lv i, ()) := by
  have hb := bounds hR l.length i hi hi
  unfold Bd at hb
  have hk := kids_bd hR hi
  have hkl : (kidsOf l i).length ≤ 60 := by have := kidsF_len (l := l) (i := (i : Int)) (l.length - (i + 1)) (i + 1); unfold kidsOf; omega
  have h1 := rowT_len l lv 40 hs.1 (kidsOf l i) (nd l (i : Int)).fro hk (by omega)
  have h3 := atT_ge l (n := lv.length) (kidsOf l i) (nd l (i : Int)).fro hk (by omega)
  have h5 := hs.1
  have e1 := rowP hs hk (by omega) [] [] (i : Int) fuelN 0 (nd l (i : Int)).fro [] (big_fuel (by omega)) (by omega) (by omega) (by simp)
  rw [fn54, bif_t (inI_t (by omega) (by omega)), fn21_eq (by omega), if_pos (by omega), kids_eq (hR.2.2.2.2.ups hR.2.1) hi, obind_some]
  simp only
  rw [show lp54_87_2 fuelN (nd l (i : Int)).fro (kidsOf l i) (lenI (kidsOf l i)) 0 [] [] (i : Int) l lv [] = _ from e1, obind_some]
  unfold osum
  simp only
  rw [List.drop_zero, List.nil_append, segP2 hs (by omega) (by omega) (by omega) [] [] fuelN _ _ (big_fuel (by omega)) h3 (by omega), obind_some]
  simp only
  rw [bif_t (eqI_t rfl), ofBytes_to]
  rfl

theorem row_ref : fn32 lv l (i : Int) = some (rowL l lv i, ()) := by
  have hb := bounds hR l.length i hi hi
  unfold Bd at hb
  have hk := kids_bd hR hi
  have hkl : (kidsOf l i).length ≤ 60 := by have := kidsF_len (l := l) (i := (i : Int)) (l.length - (i + 1)) (i + 1); unfold kidsOf; omega
  have h1 := rowT_len l lv 40 hs.1 (kidsOf l i) (nd l (i : Int)).fro hk (by omega)
  have h3 := atT_ge l (n := lv.length) (kidsOf l i) (nd l (i : Int)).fro hk (by omega)
  have h5 := hs.1
  have e1 := rowR hs (i := (i : Int)) (fun k hk => bounds hR l.length k hk hk) (by omega) (l.length - (i + 1)) fuelN (i + 1) (nd l (i : Int)).fro [] (by omega) (big_fuel (by omega)) (by omega) (by simp)
  rw [fn32, bif_t (inI_t (by omega) (by omega)), addK_eq (by omega) (by omega), show (i : Int) + 1 = ((i + 1 : Nat) : Int) by omega,
    show lp32_4 fuelN lv l (i : Int) [] (nd l (i : Int)).fro ((i + 1 : Nat) : Int) = _ from e1, obind_some]
  unfold osum
  simp only
  rw [List.nil_append, show kidsF l (i : Int) (l.length - (i + 1)) (i + 1) = kidsOf l i from rfl]
  have e2 := segR2 hs (l := l) (i := (i : Int)) (by omega) (by omega) (by omega) fuelN (atT l (nd l (i : Int)).fro (kidsOf l i)) (rowT l lv (nd l (i : Int)).fro (kidsOf l i)) (big_fuel (by omega)) h3 (by omega)
  rw [show lp32_12 fuelN lv l (i : Int) _ _ = _ from e2]
  rfl
end

/-! ### the first word -/

def isW (l : List Nd) (k : Int) : Bool := decide ((nd l k).kind = 7 ∧ (nd l k).fro < (nd l k).too)
def firstK (l : List Nd) (lv : List Lf) : List Int → Option Lf
  | [] => none
  | k :: ks => if isW l k then some (lf lv (nd l k).fro) else firstK l lv ks

theorem wordP {l : List Nd} {lv : List Lf} {ks : List Int} (hk : ∀ k ∈ ks, Bd l lv.length k) (hkl : ks.length ≤ 100) : ∀ (N j : Nat), ks.length - j < N → j ≤ ks.length →
    lp72_2 N lv l ks (lenI ks) (j : Int) 0 [] 0 0 = some (match firstK l lv (ks.drop j) with | none => .inl ((), ((0, [], 0, 0, ()), ())) | some f => .inr ((true, ()), ((f.1, f.2.1, f.2.2.1, f.2.2.2.1, ()), ())))
  | 0, j, h, _ => by omega
  | N + 1, j, h, hj => by
    rw [lp72_2, st72_2]
    by_cases c : j < ks.length
    · have hg : getI ks 0 (j : Int) = ks[j] := by simp [getI, List.getD, c]
      have hb := hk ks[j] (List.getElem_mem _)
      unfold Bd at hb
      have hin : inI l ks[j] = true := inI_t hb.1 hb.2.1
      have ih := wordP hk hkl N (j + 1) (by omega) (by omega)
      rw [bif_t (ltI_t (by rw [lenI_eq]; omega)), bif_t (inI_t (by omega) (by omega)), hg, hin, addK_eq (by omega) (by omega), show (j : Int) + 1 = ((j + 1 : Nat) : Int) by omega, List.drop_eq_getElem_cons c, firstK]
      simp only [cond_true]
      by_cases d : (nd l ks[j]).kind = 7
      · rw [bif_t (eqI_t d)]
        by_cases e : (nd l ks[j]).fro < (nd l ks[j]).too
        · rw [bif_t (ltI_t e), bif_t (inI_t hb.2.2.1 (by omega)), if_pos (by simp [isW, d, e])]
        · rw [bif_f (ltI_n e), if_neg (by simp [isW, e]), ih]
      · rw [bif_f (eqI_f d), if_neg (by simp [isW, d]), ih]
    · rw [bif_f (ltI_n (by rw [lenI_eq]; omega)), List.drop_eq_nil_of_le (by omega)]
      rfl

theorem wordR {l : List Nd} {lv : List Lf} {i : Int} (hb : ∀ k : Nat, k < l.length → Bd l lv.length (k : Int)) (hll : l.length ≤ 100) : ∀ (d N k : Nat), k + d = l.length → d < N →
    lp34_2 N lv l i (k : Int) 0 [] 0 0 = some (match firstK l lv (kidsF l i d k) with | none => .inl ((), ((0, [], 0, 0, ()), ())) | some f => .inr ((), ((f.1, f.2.1, f.2.2.1, f.2.2.2.1, ()), ())))
  | d, 0, k, _, h => by omega
  | 0, N + 1, k, hk, h => by
    rw [lp34_2, st34_2, bif_f (ltI_n (by rw [lenI_eq]; omega))]
    rfl
  | d + 1, N + 1, k, hk, h => by
    have hbk := hb k (by omega)
    unfold Bd at hbk
    have hin : inI l (k : Int) = true := inI_t hbk.1 hbk.2.1
    have ih := wordR (i := i) hb hll d N (k + 1) (by omega) (by omega)
    rw [lp34_2, st34_2, bif_t (ltI_t (by rw [lenI_eq]; omega)), hin, addK_eq (by omega) (by omega), show (k : Int) + 1 = ((k + 1 : Nat) : Int) by omega, kidsF]
    simp only [cond_true]
    by_cases c : (nd l (k : Int)).up = i
    · rw [bif_t (eqI_t c), if_pos (by simp [isKid, c]), firstK]
      by_cases d' : (nd l (k : Int)).kind = 7
      · rw [bif_t (eqI_t d')]
        by_cases e : (nd l (k : Int)).fro < (nd l (k : Int)).too
        · rw [bif_t (ltI_t e), bif_t (inI_t hbk.2.2.1 (by omega)), if_pos (by simp [isW, d', e])]
        · rw [bif_f (ltI_n e), if_neg (by simp [isW, e]), ih]
      · rw [bif_f (eqI_f d'), if_neg (by simp [isW, d']), ih]
    · rw [bif_f (eqI_f c), if_neg (by simp [isKid, c]), ih]

section
variable {lv : List Lf} {l : List Nd} (hR : Rt l lv.length) (hl : l.length ≤ 60) {i : Nat} (hi : i < l.length)
include hR hl hi

theorem first_prog : fn72 lv l (i : Int) = some (match firstK l lv (kidsOf l i) with | none => ((0, ([], (0, (0, ())))), (false, ())) | some f => (f, (true, ()))) := by
  have hk := kids_bd hR hi
  have hkl : (kidsOf l i).length ≤ 60 := by have := kidsF_len (l := l) (i := (i : Int)) (l.length - (i + 1)) (i + 1); unfold kidsOf; omega
  have e1 := wordP hk (by omega) fuelN 0 (big_fuel (by omega)) (by omega)
  rw [fn72, fn21_eq (by omega), if_pos (by omega), kids_eq (hR.2.2.2.2.ups hR.2.1) hi, obind_some]
  simp only
  rw [show lp72_2 fuelN lv l (kidsOf l i) (lenI (kidsOf l i)) 0 0 [] 0 0 = _ from e1, obind_some, List.drop_zero]
  cases firstK l lv (kidsOf l i) <;> rfl

theorem first_ref : fn34 lv l (i : Int) = some ((firstK l lv (kidsOf l i)).getD (0, ([], (0, (0, ())))), ()) := by
  have e1 := wordR (i := (i : Int)) (fun k hk => bounds hR l.length k hk hk) (by omega) (l.length - (i + 1)) fuelN (i + 1) (by omega) (big_fuel (by omega))
  rw [fn34, addK_eq (by omega) (by omega), show (i : Int) + 1 = ((i + 1 : Nat) : Int) by omega, show lp34_2 fuelN lv l (i : Int) ((i + 1 : Nat) : Int) 0 [] 0 0 = _ from e1, obind_some]
  show _ = some ((firstK l lv (kidsF l (i : Int) (l.length - (i + 1)) (i + 1))).getD (0, ([], (0, (0, ())))), ())
  cases firstK l lv (kidsF l (i : Int) (l.length - (i + 1)) (i + 1)) <;> rfl
end

/-- a node without a next one below it has none below it at all -/
theorem kids_next {l : List Nd} {n : Int} (hR : Rt l n) {i : Nat} (hi : i < l.length) : (0 < (kidsOf l i).length) ↔ (i + 1 < l.length ∧ (nd l ((i : Int) + 1)).up = (i : Int)) := by
  obtain ⟨hne, hup, hfr, hto, hok⟩ := hR
  have hups := hok.ups hup
  constructor
  · intro h
    obtain ⟨k, hk⟩ := List.exists_mem_of_length_pos h
    obtain ⟨h1, h2, h3⟩ := kidsF_mem _ _ _ hk
    have hlt : i + 1 < l.length := by omega
    refine ⟨hlt, ?_⟩
    by_cases e : k = (i : Int) + 1
    · rw [← e]; exact h3
    · obtain ⟨_, _, _, h4⟩ := hok k (by omega) (by omega)
      obtain ⟨_, _, h5, _⟩ := h4 (by omega)
      rw [h3] at h5
      have h6 := anc_between hok hup l.length (k - 1) (i : Int) ((i : Int) + 1) (by omega) (by omega) h5 (by omega) (by omega)
      rw [anc_cons hups (by omega) (by omega)] at h6
      rcases List.mem_cons.1 h6 with h7 | h7
      · omega
      · have h8 := hups ((i : Int) + 1) (by omega) (by omega)
        have := anc_mem hups l.length _ (i : Int) (by omega) (by omega) h7
        omega
  · rintro ⟨h1, h2⟩
    unfold kidsOf
    rw [show l.length - (i + 1) = (l.length - (i + 2)) + 1 by omega, kidsF, if_pos (by simp only [isKid, decide_eq_true_eq]; exact h2)]
    simp
end Go.Proofs.Ytkloefipjbeneaa
