/-
  strconv.Itoa, by the kit's contract.
-/
import Derived.Test.YtipbcgjogddigaaGreatDoorE
import Derived.Ground.NamesProg
import Derived.Shelf.Strconv.Itoa3
namespace Go.Proofs.YtipbcgjogddigaaGreatDoor
open Go.RowKit Go.Shelf Go.Lib Go.Sort
set_option linter.unusedVariables false
set_option linter.unusedSimpArgs false
def laysItoa_ren : Go.Shelf.Ren := ⟨fun | 171 => 9 | 243 => 17 | 246 => 30 | 283 => 42 | 284 => 43 | 285 => 44 | 286 => 45 | 129 => 57 | 317 => 56 | 318 => 58 | 319 => 59 | 320 => 60 | 337 => 78 | 338 => 79 | n => n, fun | 3 => 3 | 9 => 9 | 2 => 2 | 4 => 4 | 171 => 93 | 0 => 0 | 53 => 94 | 37 => 97 | 5 => 5 | 173 => 98 | 212 => 109 | 51 => 110 | 20 => 20 | 213 => 111 | 46 => 112 | 232 => 142 | 233 => 143 | n => n, fun | 17 => 0 | 18 => 1 | 19 => 2 | n => n⟩
theorem laysItoa : Go.Proofs.LaysM.n171 Tryz.prog laysItoa_ren := {
  mixed := by kernel_rfl
  f129 := Tryz.func57.trans (congrArg some (by kernel_rfl))
  f171 := Tryz.func9.trans (congrArg some (by kernel_rfl))
  f243 := Tryz.func17.trans (congrArg some (by kernel_rfl))
  f246 := Tryz.func30.trans (congrArg some (by kernel_rfl))
  f283 := Tryz.func42.trans (congrArg some (by kernel_rfl))
  f284 := Tryz.func43.trans (congrArg some (by kernel_rfl))
  f285 := Tryz.func44.trans (congrArg some (by kernel_rfl))
  f286 := Tryz.func45.trans (congrArg some (by kernel_rfl))
  f317 := Tryz.func56.trans (congrArg some (by kernel_rfl))
  f318 := Tryz.func58.trans (congrArg some (by kernel_rfl))
  f319 := Tryz.func59.trans (congrArg some (by kernel_rfl))
  f320 := Tryz.func60.trans (congrArg some (by kernel_rfl))
  f337 := Tryz.func78.trans (congrArg some (by kernel_rfl))
  f338 := Tryz.func79.trans (congrArg some (by kernel_rfl))
  t0 := Tryz.underlying0
  a0 := Tryz.isAgg0
  z0 := Tryz.sizeOf0
  v0 := Tryz.zeroValue0
  t2 := Tryz.underlying2
  a2 := Tryz.isAgg2
  z2 := Tryz.sizeOf2
  v2 := Tryz.zeroValue2
  t3 := Tryz.underlying3
  a3 := Tryz.isAgg3
  z3 := Tryz.sizeOf3
  v3 := Tryz.zeroValue3
  t4 := Tryz.underlying4
  a4 := Tryz.isAgg4
  z4 := Tryz.sizeOf4
  v4 := Tryz.zeroValue4
  t5 := Tryz.underlying5
  a5 := Tryz.isAgg5
  z5 := Tryz.sizeOf5
  v5 := Tryz.zeroValue5
  t9 := Tryz.underlying9
  a9 := Tryz.isAgg9
  z9 := Tryz.sizeOf9
  v9 := Tryz.zeroValue9
  t20 := Tryz.underlying20
  a20 := Tryz.isAgg20
  z20 := Tryz.sizeOf20
  v20 := Tryz.zeroValue20
  t37 := Tryz.underlying97
  a37 := Tryz.isAgg97
  z37 := Tryz.sizeOf97
  v37 := Tryz.zeroValue97
  t46 := Tryz.underlying112
  a46 := Tryz.isAgg112
  z46 := Tryz.sizeOf112
  v46 := Tryz.zeroValue112
  t51 := Tryz.underlying110
  a51 := Tryz.isAgg110
  z51 := Tryz.sizeOf110
  v51 := Tryz.zeroValue110
  t53 := Tryz.underlying94
  a53 := Tryz.isAgg94
  z53 := Tryz.sizeOf94
  v53 := Tryz.zeroValue94
  t171 := Tryz.underlying93
  a171 := Tryz.isAgg93
  z171 := Tryz.sizeOf93
  v171 := Tryz.zeroValue93
  t173 := Tryz.underlying98
  a173 := Tryz.isAgg98
  z173 := Tryz.sizeOf98
  v173 := Tryz.zeroValue98
  t212 := Tryz.underlying109
  a212 := Tryz.isAgg109
  z212 := Tryz.sizeOf109
  v212 := Tryz.zeroValue109
  t213 := Tryz.underlying111
  a213 := Tryz.isAgg111
  z213 := Tryz.sizeOf111
  t232 := Tryz.underlying142
  a232 := Tryz.isAgg142
  z232 := Tryz.sizeOf142
  v232 := Tryz.zeroValue142
  t233 := Tryz.underlying143
  a233 := Tryz.isAgg143
  z233 := Tryz.sizeOf143
  v233 := Tryz.zeroValue143
  g17 := by kernel_rfl
  g18 := by kernel_rfl
  g19 := by kernel_rfl
  i0 := by kernel_rfl
  i2 := by kernel_rfl
  i3 := by kernel_rfl
  i4 := by kernel_rfl
  i5 := by kernel_rfl
  i9 := by kernel_rfl
  i20 := by kernel_rfl
  i37 := by kernel_rfl
  i46 := by kernel_rfl
  i51 := by kernel_rfl
  i53 := by kernel_rfl
  i171 := by kernel_rfl
  i173 := by kernel_rfl
  i212 := by kernel_rfl
  i232 := by kernel_rfl
  i233 := by kernel_rfl
  m17 := by kernel_rfl
  m18 := by kernel_rfl
  m19 := by kernel_rfl }

def digK : Nat → Nat → List UInt8
  | 0, _ => []
  | f + 1, u => bif Nat.blt u 10 then [UInt8.ofNat (48 + u)] else digK f (u / 10) ++ [UInt8.ofNat (48 + u % 10)]
theorem digK_eq : ∀ (f u : Nat), 0 < f → u < 10 ^ f → digK f u = Lib.decDigits u
  | 0, u, h, _ => by omega
  | f + 1, u, _, h => by
    rw [digK, Lib.decDigits]
    by_cases hu : u < 10
    · rw [dif_pos hu, show Nat.blt u 10 = true from by simpa [Nat.blt_eq] using hu, cond_true]
    · rw [dif_neg hu, show Nat.blt u 10 = false from Bool.eq_false_iff.2 (by simpa [Nat.blt_eq] using hu), cond_false]
      have hf : 0 < f := by
        rcases Nat.eq_zero_or_pos f with e | e
        · subst e; simp at h; omega
        · exact e
      rw [digK_eq f (u / 10) hf (by rw [Nat.pow_succ] at h; omega)]
def itoaK (n : Int) : List UInt8 := bif decide (n < 0) then 45 :: digK 20 n.natAbs else digK 20 n.toNat
theorem itoaK_eq {n : Int} (h1 : -9223372036854775808 ≤ n) (h2 : n ≤ 9223372036854775807) : itoaK n = Lib.itoa n := by
  have h20 : (10 : Nat) ^ 20 = 100000000000000000000 := by decide
  unfold itoaK Lib.itoa
  rw [digK_eq 20 _ (by omega) (by rw [h20]; omega), digK_eq 20 _ (by omega) (by rw [h20]; omega)]
  by_cases h : n < 0
  · rw [if_pos h, decide_eq_true h]; rfl
  · rw [if_neg h, decide_eq_false h]; rfl
def itoaF (n : Int) : Option (List UInt8 × Unit) := bif decide (-9223372036854775808 ≤ n) && decide (n ≤ 9223372036854775807) then some (itoaK n, ()) else none
def sumItoa : Sum := ⟨[.int .i64], [(.str, false)], fun x => itoaF x.1⟩

theorem drewN_heap : ∀ (k : Nat) (w : World), (w.drewN k).heap = w.heap := fun k w => rfl

theorem sumItoa_ok : SumOk Tryz.prog 9 sumItoa := by
  intro w bar args' x y hphi hbar hdv hy
  obtain ⟨u, us1, e1, h1, h3⟩ := hdv
  obtain rfl : us1 = [] := h3
  have ha : args' = #[u] := by
    apply Array.ext'
    simpa using e1
  subst ha
  have e4 := h1.int_inv
  subst e4
  have hy : itoaF x.1 = some y := hy
  unfold itoaF at hy
  obtain ⟨hb, hy⟩ := bif_some hy
  simp only [Bool.and_eq_true, decide_eq_true_eq] at hb
  cases hy
  rw [itoaK_eq hb.1 hb.2]
  have hc := Any.strconv_Itoa laysItoa x.1 hb.1 hb.2 w hphi
  refine .inl ⟨callFunc_run noGor Tryz.func9 (show Tryz.f9.body = some ((Tryz.f9.body).getD .skip) by kernel_rfl) _ _, hc.mono fun e w' ⟨he, k, os, hw⟩ => ?_⟩
  have hbel : Below w.heap.size w w' := by
    subst hw
    refine ⟨rfl, rfl, rfl, ?_, fun b hb => ?_⟩
    · show w.heap.size ≤ (w.heap ++ os).size
      simp
    · show (w.heap ++ os)[b]? = w.heap[b]?
      exact Array.getElem?_append_left hb
  refine ⟨(base0 w bar).at_ w', [.string ⟨(Lib.itoa x.1).toArray⟩], he, rfl, (base0_ok hphi hbar).ext hbel, rfl, rfl, rfl, ?_⟩
  simp only [sumItoa, vals, VRels, VRel, and_true]
  exact VD.str_mk

noncomputable def sg2 (g : FuncId) : Option Sum := bif Nat.beq g 9 then some sumItoa else sg1 g
theorem sg2_ok : ∀ g s, sg2 g = some s → SumOk Tryz.prog g s := fun g s h => by
  unfold sg2 at h
  rw [cond_eq_ite] at h
  split at h
  · rename_i hg
    obtain rfl : g = 9 := Nat.eq_of_beq_eq_true hg
    cases h
    exact sumItoa_ok
  · exact sg1_ok g s h
end Go.Proofs.YtipbcgjogddigaaGreatDoor
