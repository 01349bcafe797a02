/-
  strconv.Itoa, by the kit's contract.
-/
import Derived.Test.YtipbcgjogddigaaGreatDoorE
import Derived.Ground.NamesProg
import Derived.Shelf.Lay
import Derived.Shelf.Strconv.Itoa3
namespace Go.Proofs.YtipbcgjogddigaaGreatDoor
open Go.RowKit Go.Shelf Go.Lib Go.Sort
set_option linter.unusedVariables false
set_option linter.unusedSimpArgs false
shelf_lay LaysM.n171 Nm 171 at Tryz as laysItoa

def digK : Nat → Nat → List UInt8
  | 0, _ => []
  | f + 1, u => bif Nat.blt u 10 then [UInt8.ofNat (48 + u)] else digK f (u / 10) ++ [UInt8.ofNat (48 + u % 10)]
theorem digK_eq : ∀ (f u : Nat), 0 < f → u < 10 ^ f → digK f u = Lib.decDigits u
  | 0, u, h, _ => by omega
  | f + 1, u, _, h => by
    rw [digK, Lib.decDigits]
    by_cases hu : u < 10
    · rw [dif_pos hu, show Nat.blt u 10 = true from by simpa [Nat.blt_eq] using hu, cond_true]
    · rw [dif_neg hu, show Nat.blt u 10 = false from Bool.eq_false_iff.2 (by simpa [Nat.blt_eq] using hu), cond_false]
      have hf : 0 < f := by
        rcases Nat.eq_zero_or_pos f with e | e
        · subst e; simp at h; omega
        · exact e
      rw [digK_eq f (u / 10) hf (by rw [Nat.pow_succ] at h; omega)]
def itoaK (n : Int) : List UInt8 := bif decide (n < 0) then 45 :: digK 20 n.natAbs else digK 20 n.toNat
theorem itoaK_eq {n : Int} (h1 : -9223372036854775808 ≤ n) (h2 : n ≤ 9223372036854775807) : itoaK n = Lib.itoa n := by
  have h20 : (10 : Nat) ^ 20 = 100000000000000000000 := by decide
  unfold itoaK Lib.itoa
  rw [digK_eq 20 _ (by omega) (by rw [h20]; omega), digK_eq 20 _ (by omega) (by rw [h20]; omega)]
  by_cases h : n < 0
  · rw [if_pos h, decide_eq_true h]; rfl
  · rw [if_neg h, decide_eq_false h]; rfl
def itoaF (n : Int) : Option (List UInt8 × Unit) := bif decide (-9223372036854775808 ≤ n) && decide (n ≤ 9223372036854775807) then some (itoaK n, ()) else none
def sumItoa : Sum := ⟨[.int .i64], [(.str, false)], fun x => itoaF x.1⟩

theorem drewN_heap : ∀ (k : Nat) (w : World), (w.drewN k).heap = w.heap := fun k w => rfl

theorem sumItoa_ok : SumOk Tryz.prog 9 sumItoa := by
  intro w bar args' x y hphi hbar hdv hy
  obtain ⟨u, us1, e1, h1, h3⟩ := hdv
  obtain rfl : us1 = [] := h3
  have ha : args' = #[u] := by
    apply Array.ext'
    simpa using e1
  subst ha
  have e4 := h1.int_inv
  subst e4
  have hy : itoaF x.1 = some y := hy
  unfold itoaF at hy
  obtain ⟨hb, hy⟩ := bif_some hy
  simp only [Bool.and_eq_true, decide_eq_true_eq] at hb
  cases hy
  rw [itoaK_eq hb.1 hb.2]
  have hc := Any.strconv_Itoa laysItoa x.1 hb.1 hb.2 w hphi
  refine .inl ⟨callFunc_run noGor Tryz.func9 (show Tryz.f9.body = some ((Tryz.f9.body).getD .skip) by kernel_rfl) _ _, hc.mono fun e w' ⟨he, k, os, hw⟩ => ?_⟩
  have hbel : Below w.heap.size w w' := by
    subst hw
    refine ⟨rfl, rfl, rfl, ?_, fun b hb => ?_⟩
    · show w.heap.size ≤ (w.heap ++ os).size
      simp
    · show (w.heap ++ os)[b]? = w.heap[b]?
      exact Array.getElem?_append_left hb
  refine ⟨(base0 w bar).at_ w', [.string ⟨(Lib.itoa x.1).toArray⟩], he, rfl, (base0_ok hphi hbar).ext hbel, rfl, rfl, rfl, ?_⟩
  simp only [sumItoa, vals, VRels, VRel, and_true]
  exact VD.str_mk

noncomputable def sg2 (g : FuncId) : Option Sum := bif Nat.beq g 9 then some sumItoa else sg1 g
theorem sg2_ok : ∀ g s, sg2 g = some s → SumOk Tryz.prog g s := fun g s h => by
  unfold sg2 at h
  rw [cond_eq_ite] at h
  split at h
  · rename_i hg
    obtain rfl : g = 9 := Nat.eq_of_beq_eq_true hg
    cases h
    exact sumItoa_ok
  · exact sg1_ok g s h
end Go.Proofs.YtipbcgjogddigaaGreatDoor
