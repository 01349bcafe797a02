/-
  strconv.Itoa, by the kit's contract.
-/
import Derived.Test.YtnmaceljkegenaaDoorE
import Derived.Ground.NamesProg
import Derived.Shelf.Strconv.Itoa3
namespace Go.Proofs.YtnmaceljkegenaaDoor
open Go.RowKit Go.Shelf Go.Lib Go.Sort
set_option linter.unusedVariables false
set_option linter.unusedSimpArgs false
def laysItoa_ren : Go.Shelf.Ren := ⟨fun | 171 => 20 | 243 => 24 | 246 => 26 | 283 => 28 | 284 => 29 | 285 => 30 | 286 => 31 | 129 => 33 | 317 => 32 | 318 => 34 | 319 => 35 | 320 => 36 | 337 => 37 | 338 => 38 | n => n, fun | 3 => 3 | 9 => 9 | 2 => 2 | 4 => 4 | 171 => 58 | 0 => 0 | 53 => 59 | 37 => 35 | 5 => 5 | 173 => 62 | 212 => 66 | 51 => 67 | 20 => 20 | 213 => 68 | 46 => 70 | 232 => 73 | 233 => 74 | n => n, fun | 17 => 1 | 18 => 2 | 19 => 3 | n => n⟩
theorem laysItoa : Go.Proofs.LaysM.n171 Tryd.prog laysItoa_ren := {
  mixed := by kernel_rfl
  f129 := Tryd.func33.trans (congrArg some (by kernel_rfl))
  f171 := Tryd.func20.trans (congrArg some (by kernel_rfl))
  f243 := Tryd.func24.trans (congrArg some (by kernel_rfl))
  f246 := Tryd.func26.trans (congrArg some (by kernel_rfl))
  f283 := Tryd.func28.trans (congrArg some (by kernel_rfl))
  f284 := Tryd.func29.trans (congrArg some (by kernel_rfl))
  f285 := Tryd.func30.trans (congrArg some (by kernel_rfl))
  f286 := Tryd.func31.trans (congrArg some (by kernel_rfl))
  f317 := Tryd.func32.trans (congrArg some (by kernel_rfl))
  f318 := Tryd.func34.trans (congrArg some (by kernel_rfl))
  f319 := Tryd.func35.trans (congrArg some (by kernel_rfl))
  f320 := Tryd.func36.trans (congrArg some (by kernel_rfl))
  f337 := Tryd.func37.trans (congrArg some (by kernel_rfl))
  f338 := Tryd.func38.trans (congrArg some (by kernel_rfl))
  t0 := Tryd.underlying0
  a0 := Tryd.isAgg0
  z0 := Tryd.sizeOf0
  v0 := Tryd.zeroValue0
  t2 := Tryd.underlying2
  a2 := Tryd.isAgg2
  z2 := Tryd.sizeOf2
  v2 := Tryd.zeroValue2
  t3 := Tryd.underlying3
  a3 := Tryd.isAgg3
  z3 := Tryd.sizeOf3
  v3 := Tryd.zeroValue3
  t4 := Tryd.underlying4
  a4 := Tryd.isAgg4
  z4 := Tryd.sizeOf4
  v4 := Tryd.zeroValue4
  t5 := Tryd.underlying5
  a5 := Tryd.isAgg5
  z5 := Tryd.sizeOf5
  v5 := Tryd.zeroValue5
  t9 := Tryd.underlying9
  a9 := Tryd.isAgg9
  z9 := Tryd.sizeOf9
  v9 := Tryd.zeroValue9
  t20 := Tryd.underlying20
  a20 := Tryd.isAgg20
  z20 := Tryd.sizeOf20
  v20 := Tryd.zeroValue20
  t37 := Tryd.underlying35
  a37 := Tryd.isAgg35
  z37 := Tryd.sizeOf35
  v37 := Tryd.zeroValue35
  t46 := Tryd.underlying70
  a46 := Tryd.isAgg70
  z46 := Tryd.sizeOf70
  v46 := Tryd.zeroValue70
  t51 := Tryd.underlying67
  a51 := Tryd.isAgg67
  z51 := Tryd.sizeOf67
  v51 := Tryd.zeroValue67
  t53 := Tryd.underlying59
  a53 := Tryd.isAgg59
  z53 := Tryd.sizeOf59
  v53 := Tryd.zeroValue59
  t171 := Tryd.underlying58
  a171 := Tryd.isAgg58
  z171 := Tryd.sizeOf58
  v171 := Tryd.zeroValue58
  t173 := Tryd.underlying62
  a173 := Tryd.isAgg62
  z173 := Tryd.sizeOf62
  v173 := Tryd.zeroValue62
  t212 := Tryd.underlying66
  a212 := Tryd.isAgg66
  z212 := Tryd.sizeOf66
  v212 := Tryd.zeroValue66
  t213 := Tryd.underlying68
  a213 := Tryd.isAgg68
  z213 := Tryd.sizeOf68
  t232 := Tryd.underlying73
  a232 := Tryd.isAgg73
  z232 := Tryd.sizeOf73
  v232 := Tryd.zeroValue73
  t233 := Tryd.underlying74
  a233 := Tryd.isAgg74
  z233 := Tryd.sizeOf74
  v233 := Tryd.zeroValue74
  g17 := by kernel_rfl
  g18 := by kernel_rfl
  g19 := by kernel_rfl
  i0 := by kernel_rfl
  i2 := by kernel_rfl
  i3 := by kernel_rfl
  i4 := by kernel_rfl
  i5 := by kernel_rfl
  i9 := by kernel_rfl
  i20 := by kernel_rfl
  i37 := by kernel_rfl
  i46 := by kernel_rfl
  i51 := by kernel_rfl
  i53 := by kernel_rfl
  i171 := by kernel_rfl
  i173 := by kernel_rfl
  i212 := by kernel_rfl
  i232 := by kernel_rfl
  i233 := by kernel_rfl
  m17 := by kernel_rfl
  m18 := by kernel_rfl
  m19 := by kernel_rfl }

def digK : Nat → Nat → List UInt8
  | 0, _ => []
  | f + 1, u => bif Nat.blt u 10 then [UInt8.ofNat (48 + u)] else digK f (u / 10) ++ [UInt8.ofNat (48 + u % 10)]
theorem digK_eq : ∀ (f u : Nat), 0 < f → u < 10 ^ f → digK f u = Lib.decDigits u
  | 0, u, h, _ => by omega
  | f + 1, u, _, h => by
    rw [digK, Lib.decDigits]
    by_cases hu : u < 10
    · rw [dif_pos hu, show Nat.blt u 10 = true from by simpa [Nat.blt_eq] using hu, cond_true]
    · rw [dif_neg hu, show Nat.blt u 10 = false from Bool.eq_false_iff.2 (by simpa [Nat.blt_eq] using hu), cond_false]
      have hf : 0 < f := by
        rcases Nat.eq_zero_or_pos f with e | e
        · subst e; simp at h; omega
        · exact e
      rw [digK_eq f (u / 10) hf (by rw [Nat.pow_succ] at h; omega)]
def itoaK (n : Int) : List UInt8 := bif decide (n < 0) then 45 :: digK 20 n.natAbs else digK 20 n.toNat
theorem itoaK_eq {n : Int} (h1 : -9223372036854775808 ≤ n) (h2 : n ≤ 9223372036854775807) : itoaK n = Lib.itoa n := by
  have h20 : (10 : Nat) ^ 20 = 100000000000000000000 := by decide
  unfold itoaK Lib.itoa
  rw [digK_eq 20 _ (by omega) (by rw [h20]; omega), digK_eq 20 _ (by omega) (by rw [h20]; omega)]
  by_cases h : n < 0
  · rw [if_pos h, decide_eq_true h]; rfl
  · rw [if_neg h, decide_eq_false h]; rfl
def itoaF (n : Int) : Option (List UInt8 × Unit) := bif decide (-9223372036854775808 ≤ n) && decide (n ≤ 9223372036854775807) then some (itoaK n, ()) else none
def sumItoa : Sum := ⟨[.int .i64], [(.str, false)], fun x => itoaF x.1⟩

theorem drewN_heap : ∀ (k : Nat) (w : World), (w.drewN k).heap = w.heap := fun k w => rfl

theorem sumItoa_ok : SumOk Tryd.prog 20 sumItoa := by
  intro w bar args' x y hphi hbar hdv hy
  obtain ⟨u, us1, e1, h1, h3⟩ := hdv
  obtain rfl : us1 = [] := h3
  have ha : args' = #[u] := by
    apply Array.ext'
    simpa using e1
  subst ha
  have e4 := h1.int_inv
  subst e4
  have hy : itoaF x.1 = some y := hy
  unfold itoaF at hy
  obtain ⟨hb, hy⟩ := bif_some hy
  simp only [Bool.and_eq_true, decide_eq_true_eq] at hb
  cases hy
  rw [itoaK_eq hb.1 hb.2]
  have hc := Any.strconv_Itoa laysItoa x.1 hb.1 hb.2 w hphi
  refine .inl ⟨callFunc_run noGor Tryd.func20 (show Tryd.f20.body = some ((Tryd.f20.body).getD .skip) by kernel_rfl) _ _, hc.mono fun e w' ⟨he, k, os, hw⟩ => ?_⟩
  have hbel : Below w.heap.size w w' := by
    subst hw
    refine ⟨rfl, rfl, rfl, ?_, fun b hb => ?_⟩
    · show w.heap.size ≤ (w.heap ++ os).size
      simp
    · show (w.heap ++ os)[b]? = w.heap[b]?
      exact Array.getElem?_append_left hb
  refine ⟨(base0 w bar).at_ w', [.string ⟨(Lib.itoa x.1).toArray⟩], he, rfl, (base0_ok hphi hbar).ext hbel, rfl, rfl, rfl, ?_⟩
  simp only [sumItoa, vals, VRels, VRel, and_true]
  exact VD.str_mk

noncomputable def sg2 (g : FuncId) : Option Sum := bif Nat.beq g 20 then some sumItoa else sg1 g
theorem sg2_ok : ∀ g s, sg2 g = some s → SumOk Tryd.prog g s := fun g s h => by
  unfold sg2 at h
  rw [cond_eq_ite] at h
  split at h
  · rename_i hg
    obtain rfl : g = 20 := Nat.eq_of_beq_eq_true hg
    cases h
    exact sumItoa_ok
  · exact sg1_ok g s h
end Go.Proofs.YtnmaceljkegenaaDoor
