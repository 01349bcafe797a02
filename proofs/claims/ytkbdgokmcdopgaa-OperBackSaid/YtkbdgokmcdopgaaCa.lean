/-
  Contracts of the byte classes: class.Of, Ends, Safe, and the reference's In, Class, Ends, Safe.
-/
import Derived.Test.YtkbdgokmcdopgaaProg
import Derived.WalkKit
import Derived.WalkLawsBesides
import Derived.WalkSpells
import Derived.Below

import Derived.Outline
import Derived.Deep.QuietTactic
import Derived.BigQuiet
namespace Go.Proofs.Ytkbdgokmcdopgaa
open Go.RowKit
set_option linter.unusedVariables false
set_option linter.unusedSimpArgs false

theorem hid {p : Prop} (h : p) : Hid p := h

theorem beqF {a b : Int} (h : a ≠ b) : (a == b) = false := by simpa using h

theorem beqT {a b : Int} (h : a = b) : (a == b) = true := by simpa using h

theorem bneF {a b : Int} (h : a = b) : (a != b) = false := by simpa using h

theorem bneT {a b : Int} (h : a ≠ b) : (a != b) = true := by simpa using h

theorem nbeqF {a b : Nat} (h : a ≠ b) : (a == b) = false := by simpa using h

theorem ret_int {k : IntKind} {a b : Int} (h : a = b) : Ending.returned (.int k a) = .returned (.int k b) := by rw [h]

theorem ret_bool {a b : Bool} (h : a = b) : Ending.returned (.bool a) = .returned (.bool b) := by rw [h]

theorem byte_lo (c : UInt8) : (0 : Int) ≤ c.toNat := by omega

theorem byte_hi (c : UInt8) : (c.toNat : Int) ≤ 255 := by have := c.toNat_lt; omega

theorem size_list (s : ByteArray) : s.data.toList.length = s.size := by simp

theorem ext_list (s : ByteArray) (a b : Nat) : (s.extract a b).data.toList = (s.data.toList.drop a).take (b - a) := by
  simp [ByteArray.data_extract, Array.toList_extract, List.extract_eq_take_drop]

theorem ext_size (s : ByteArray) (a b : Nat) (hb : b ≤ s.size) : (s.extract a b).size = b - a := by
  rw [ByteArray.size_extract]; omega

def clsOf (b : Int) : Int :=
  if b = 32 ∨ b = 9 then 1 else if b = 10 then 2 else if 48 ≤ b ∧ b ≤ 57 then 6 else
  if (97 ≤ b ∧ b ≤ 122) ∨ (65 ≤ b ∧ b ≤ 90) ∨ b = 95 then 5 else
  if b = 124 ∨ b = 38 ∨ b = 59 ∨ b = 60 ∨ b = 62 ∨ b = 40 ∨ b = 41 then 3 else
  if b = 92 ∨ b = 39 ∨ b = 34 ∨ b = 96 ∨ b = 36 then 4 else 0

set_option maxHeartbeats 400000 in
theorem of_any (b : Int) (w : World) (h0 : 0 ≤ b) (h1 : b ≤ 255) :
    Calls Try.prog 20 #[.int .u8 b] w fun e w' => e = .returned (.int .i64 (clsOf b)) ∧ w = w' := by
  go_enter Try.func20, Try.ntmps20
  go_wp2
  all_goals
    go_ret
    refine ⟨ret_int ?_, rfl⟩
    simp_all [clsOf]
    try omega

def inS (b : Int) (s : List UInt8) : Bool := s.any fun c => (c.toNat : Int) == b

theorem take_snoc (s : ByteArray) (k : Nat) (h : k < s.size) : s.data.toList.take (k + 1) = s.data.toList.take k ++ [s[k]] := by
  rw [List.take_succ_eq_append_getElem (by simpa using h)]; rfl

theorem take_all (s : ByteArray) (k : Nat) (h : s.size ≤ k) : s.data.toList.take k = s.data.toList := List.take_of_length_le (by simpa using h)

theorem get_mem (s : ByteArray) (k : Nat) (h : k < s.size) : s[k] ∈ s.data.toList := by
  have : s[k] = s.data.toList[k]'(by simpa using h) := rfl
  rw [this]; exact List.getElem_mem _

theorem inS_true {b : Int} {s : ByteArray} {k : Nat} (h : k < s.size) (hb : ((s[k].toNat : Int) == b) = true) : true = inS b s.data.toList :=
  (List.any_eq_true.2 ⟨s[k], get_mem s k h, hb⟩).symm

theorem inS_snoc {b : Int} {s : ByteArray} {k : Nat} (h : k < s.size) (hn : inS b (s.data.toList.take k) = false) (hb : ((s[k].toNat : Int) == b) = false) : inS b (s.data.toList.take (k + 1)) = false := by
  rw [take_snoc s k h, inS, List.any_append]; simp only [inS] at hn; rw [hn]; simp only [List.any_cons, List.any_nil, hb]; rfl

theorem bytes_size (l : List UInt8) : (ByteArray.mk l.toArray).size = l.length := rfl

/-- the reference's class -/
def rcls (b : Int) : Int :=
  if b = 32 ∨ b = 9 then 1 else if b = 10 then 2 else
  if inS b [124, 38, 59, 60, 62, 40, 41] then 3 else if inS b [92, 39, 34, 96, 36] then 4 else
  if inS b [65, 66, 67, 68, 69, 70, 71, 72, 73, 74, 75, 76, 77, 78, 79, 80, 81, 82, 83, 84, 85, 86, 87, 88, 89, 90, 97, 98, 99, 100, 101, 102, 103, 104, 105, 106, 107, 108, 109, 110, 111, 112, 113, 114, 115, 116, 117, 118, 119, 120, 121, 122, 95] then 5 else
  if inS b [48, 49, 50, 51, 52, 53, 54, 55, 56, 57] then 6 else 0

set_option maxHeartbeats 400000 in
theorem rcls_eq (b : Int) (h0 : 0 ≤ b) (h1 : b ≤ 255) : rcls b = clsOf b := by
  obtain ⟨n, rfl⟩ : ∃ n : Nat, b = n := ⟨b.toNat, by omega⟩
  have hn : n < 256 := by omega
  clear h0 h1
  revert n
  decide +kernel

def endsB (b : Int) : Bool := clsOf b == 1 || clsOf b == 2 || clsOf b == 3

def safeB (b : Int) : Bool := inS b [37, 43, 44, 45, 46, 47, 58, 64] || clsOf b == 5 || clsOf b == 6 || decide (128 ≤ b)

end Go.Proofs.Ytkbdgokmcdopgaa
