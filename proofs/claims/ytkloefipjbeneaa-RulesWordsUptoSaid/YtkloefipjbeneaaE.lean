import Derived.Test.YtkloefipjbeneaaProg
import Derived.Test.YtkloefipjbeneaaBd
import Derived.Shelf.Strings.Builder1
namespace Go.Proofs.Ytkloefipjbeneaa
open Go.RowKit
set_option linter.unusedVariables false
set_option maxRecDepth 100000

def ti1 : TI := ⟨true, .fn, 1, 8, none, [.nilfn], false, false⟩
def ti2 : TI := ⟨true, (.int .i64), 1, 8, some (.int .i64), [.val (.int .i64) 0], false, false⟩
def ti3 : TI := ⟨true, (.int .i64), 1, 8, some (.int .i64), [.val (.int .i64) 0], false, false⟩
def ti4 : TI := ⟨true, .bool, 1, 1, some .bool, [.val .bool false], false, false⟩
def ti5 : TI := ⟨true, (.int .u8), 1, 1, some (.int .u8), [.val (.int .u8) 0], false, false⟩
def ti7 : TI := ⟨true, (.struct [(0, 2), (1, 3), (2, 4), (3, 6)]), 4, 24, none, [.val (.int .i64) 0, .val (.int .i64) 0, .val .bool false, .val (.int .u8) 0], false, false⟩
def ti8 : TI := ⟨true, (.struct [(0, 2), (1, 3), (2, 4), (3, 6)]), 4, 24, none, [.val (.int .i64) 0, .val (.int .i64) 0, .val .bool false, .val (.int .u8) 0], false, false⟩
def ti9 : TI := ⟨true, .str, 1, 16, some .str, [.val .str []], false, false⟩
def ti10 : TI := ⟨true, .str, 1, 16, some .str, [.val .str []], false, false⟩
def ti11 : TI := ⟨true, .str, 1, 16, some .str, [.val .str []], false, false⟩
def ti12 : TI := ⟨true, (.int .u64), 1, 8, some (.int .u64), [.val (.int .u64) 0], false, false⟩
def ti13 : TI := ⟨true, (.struct [(0, 9), (1, 12)]), 2, 24, some (.pair .str (.pair (.int .u64) .unit)), [.val .str [], .val (.int .u64) 0], false, false⟩
def ti14 : TI := ⟨true, (.struct [(0, 9), (1, 12)]), 2, 24, some (.pair .str (.pair (.int .u64) .unit)), [.val .str [], .val (.int .u64) 0], false, false⟩
def ti15 : TI := ⟨true, (.ptr 96), 1, 8, none, [.nilp], false, false⟩
def ti16 : TI := ⟨true, (.ptr 99), 1, 8, none, [.nilp], false, false⟩
def ti17 : TI := ⟨true, (.ptr 108), 1, 8, none, [.nilp], false, false⟩
def ti18 : TI := ⟨true, (.struct [(0, 17)]), 1, 8, none, [.nilp], false, false⟩
def ti19 : TI := ⟨true, (.struct [(0, 17)]), 1, 8, none, [.nilp], false, false⟩
def ti21 : TI := ⟨true, (.int .i32), 1, 4, some (.int .i32), [.val (.int .i32) 0], false, false⟩
def ti22 : TI := ⟨true, (.struct [(0, 3), (1, 9), (2, 3), (3, 3)]), 4, 40, some (.pair (.int .i64) (.pair .str (.pair (.int .i64) (.pair (.int .i64) .unit)))), [.val (.int .i64) 0, .val .str [], .val (.int .i64) 0, .val (.int .i64) 0], false, false⟩
def ti23 : TI := ⟨true, (.struct [(0, 3), (1, 9), (2, 3), (3, 3)]), 4, 40, some (.pair (.int .i64) (.pair .str (.pair (.int .i64) (.pair (.int .i64) .unit)))), [.val (.int .i64) 0, .val .str [], .val (.int .i64) 0, .val (.int .i64) 0], true, false⟩
def ti24 : TI := ⟨true, .fn, 1, 8, none, [.nilfn], false, false⟩
def ti25 : TI := ⟨true, .fn, 1, 8, none, [.nilfn], false, false⟩
def ti26 : TI := ⟨true, (.slice 5), 1, 24, some (.list (.int .u8)), [.nils], false, false⟩
def ti27 : TI := ⟨true, .fn, 1, 8, none, [.nilfn], false, false⟩
def ti28 : TI := ⟨true, .fn, 1, 8, none, [.nilfn], false, false⟩
def ti29 : TI := ⟨true, (.slice 23), 1, 24, some (.list (.pair (.int .i64) (.pair .str (.pair (.int .i64) (.pair (.int .i64) .unit))))), [.nils], false, false⟩
def ti30 : TI := ⟨true, (.slice 43), 1, 24, some (.list (.pair (.int .i64) (.pair (.int .i64) (.pair (.int .i64) (.pair (.int .i64) .unit))))), [.nils], false, false⟩
def ti31 : TI := ⟨true, .fn, 1, 8, none, [.nilfn], false, false⟩
def ti32 : TI := ⟨true, .fn, 1, 8, none, [.nilfn], false, false⟩
def ti33 : TI := ⟨true, .fn, 1, 8, none, [.nilfn], false, false⟩
def ti34 : TI := ⟨true, .fn, 1, 8, none, [.nilfn], false, false⟩
def ti35 : TI := ⟨true, .fn, 1, 8, none, [.nilfn], false, false⟩
def ti36 : TI := ⟨true, (.slice 9), 1, 24, some (.list .str), [.nils], false, false⟩
def ti37 : TI := ⟨true, .fn, 1, 8, none, [.nilfn], false, false⟩
def ti38 : TI := ⟨true, .fn, 1, 8, none, [.nilfn], false, false⟩
def ti39 : TI := ⟨true, .fn, 1, 8, none, [.nilfn], false, false⟩
def ti40 : TI := ⟨true, .fn, 1, 8, none, [.nilfn], false, false⟩
def ti41 : TI := ⟨true, .fn, 1, 8, none, [.nilfn], false, false⟩
def ti42 : TI := ⟨true, (.struct [(0, 3), (1, 3), (2, 3), (3, 3)]), 4, 32, some (.pair (.int .i64) (.pair (.int .i64) (.pair (.int .i64) (.pair (.int .i64) .unit)))), [.val (.int .i64) 0, .val (.int .i64) 0, .val (.int .i64) 0, .val (.int .i64) 0], false, false⟩
def ti43 : TI := ⟨true, (.struct [(0, 3), (1, 3), (2, 3), (3, 3)]), 4, 32, some (.pair (.int .i64) (.pair (.int .i64) (.pair (.int .i64) (.pair (.int .i64) .unit)))), [.val (.int .i64) 0, .val (.int .i64) 0, .val (.int .i64) 0, .val (.int .i64) 0], true, false⟩
def ti44 : TI := ⟨true, .fn, 1, 8, none, [.nilfn], false, false⟩
def ti45 : TI := ⟨true, .fn, 1, 8, none, [.nilfn], false, false⟩
def ti46 : TI := ⟨true, .fn, 1, 8, none, [.nilfn], false, false⟩
def ti47 : TI := ⟨true, (.slice 3), 1, 24, some (.list (.int .i64)), [.nils], false, false⟩
def ti48 : TI := ⟨true, .fn, 1, 8, none, [.nilfn], false, false⟩
def ti49 : TI := ⟨true, .fn, 1, 8, none, [.nilfn], false, false⟩
def ti50 : TI := ⟨true, .fn, 1, 8, none, [.nilfn], false, false⟩
def ti51 : TI := ⟨true, .fn, 1, 8, none, [.nilfn], false, false⟩
def ti52 : TI := ⟨true, .fn, 1, 8, none, [.nilfn], false, false⟩
def ti53 : TI := ⟨true, .fn, 1, 8, none, [.nilfn], false, false⟩
def ti54 : TI := ⟨true, .fn, 1, 8, none, [.nilfn], false, false⟩
def ti55 : TI := ⟨true, .fn, 1, 8, none, [.nilfn], false, false⟩
def ti56 : TI := ⟨true, .fn, 1, 8, none, [.nilfn], false, false⟩
def ti57 : TI := ⟨true, .fn, 1, 8, none, [.nilfn], false, false⟩
def ti58 : TI := ⟨true, (.slice 4), 1, 24, some (.list .bool), [.nils], false, false⟩
def ti59 : TI := ⟨true, (.slice 4), 1, 24, some (.list .bool), [.nils], false, false⟩
def ti60 : TI := ⟨true, .fn, 1, 8, none, [.nilfn], false, false⟩
def ti61 : TI := ⟨true, .fn, 1, 8, none, [.nilfn], false, false⟩
def ti62 : TI := ⟨true, .fn, 1, 8, none, [.nilfn], false, false⟩
def ti63 : TI := ⟨true, .fn, 1, 8, none, [.nilfn], false, false⟩
def ti64 : TI := ⟨true, .fn, 1, 8, none, [.nilfn], false, false⟩
def ti65 : TI := ⟨true, .fn, 1, 8, none, [.nilfn], false, false⟩
def ti66 : TI := ⟨true, .fn, 1, 8, none, [.nilfn], false, false⟩
def ti67 : TI := ⟨true, .fn, 1, 8, none, [.nilfn], false, false⟩
def ti69 : TI := ⟨true, .fn, 1, 8, none, [.nilfn], false, false⟩
def ti70 : TI := ⟨true, (.ptr 72), 1, 8, none, [.nilp], false, false⟩
def ti71 : TI := ⟨true, (.struct [(0, 9), (1, 4)]), 2, 24, some (.pair .str (.pair .bool .unit)), [.val .str [], .val .bool false], false, false⟩
def ti72 : TI := ⟨true, (.struct [(0, 9), (1, 4)]), 2, 24, some (.pair .str (.pair .bool .unit)), [.val .str [], .val .bool false], true, false⟩
def ti73 : TI := ⟨true, .fn, 1, 8, none, [.nilfn], false, false⟩
def ti74 : TI := ⟨true, .fn, 1, 8, none, [.nilfn], false, false⟩
def ti75 : TI := ⟨true, .fn, 1, 8, none, [.nilfn], false, false⟩
def ti76 : TI := ⟨true, .fn, 1, 8, none, [.nilfn], false, false⟩
def ti77 : TI := ⟨true, (.ptr 79), 1, 8, none, [.nilp], false, false⟩
def ti78 : TI := ⟨true, (.struct [(0, 77), (1, 26)]), 2, 32, none, [.nilp, .nils], false, false⟩
def ti79 : TI := ⟨true, (.struct [(0, 77), (1, 26)]), 2, 32, none, [.nilp, .nils], false, true⟩
def ti80 : TI := ⟨true, .fn, 1, 8, none, [.nilfn], false, false⟩
def ti81 : TI := ⟨true, .fn, 1, 8, none, [.nilfn], false, false⟩
def ti82 : TI := ⟨true, .fn, 1, 8, none, [.nilfn], false, false⟩
def ti85 : TI := ⟨true, .fn, 1, 8, none, [.nilfn], false, false⟩
def ti86 : TI := ⟨true, .fn, 1, 8, none, [.nilfn], false, false⟩
def ti88 : TI := ⟨true, .fn, 1, 8, none, [.nilfn], false, false⟩
def ti89 : TI := ⟨true, .fn, 1, 8, none, [.nilfn], false, false⟩
def ti90 : TI := ⟨true, .fn, 1, 8, none, [.nilfn], false, false⟩
def ti91 : TI := ⟨true, (.ptr 5), 1, 8, none, [.nilp], false, false⟩
def ti92 : TI := ⟨true, .fn, 1, 8, none, [.nilfn], false, false⟩
def ti94 : TI := ⟨true, .fn, 1, 8, none, [.nilfn], false, false⟩
def ti95 : TI := ⟨true, (.struct [(0, 17), (1, 17), (2, 17), (3, 9)]), 4, 40, none, [.nilp, .nilp, .nilp, .val .str []], false, false⟩
def ti96 : TI := ⟨true, (.struct [(0, 17), (1, 17), (2, 17), (3, 9)]), 4, 40, none, [.nilp, .nilp, .nilp, .val .str []], false, false⟩
def ti100 : TI := ⟨true, .fn, 1, 8, none, [.nilfn], false, false⟩
def ti101 : TI := ⟨true, (.int .u32), 1, 4, some (.int .u32), [.val (.int .u32) 0], false, false⟩
def ti104 : TI := ⟨true, .fn, 1, 8, none, [.nilfn], false, false⟩
def ti105 : TI := ⟨true, (.int .i32), 1, 4, some (.int .i32), [.val (.int .i32) 0], false, false⟩
def ti106 : TI := ⟨true, (.int .i32), 1, 4, some (.int .i32), [.val (.int .i32) 0], false, false⟩
def ti107 : TI := ⟨true, (.struct [(0, 12), (1, 12), (2, 101), (3, 102), (4, 5), (5, 5), (6, 103), (7, 104), (8, 91), (9, 105), (10, 106)]), 11, 48, none, [.val (.int .u64) 0, .val (.int .u64) 0, .val (.int .u32) 0, .val (.int .u8) 0, .val (.int .u8) 0, .val (.int .u8) 0, .val (.int .u8) 0, .nilfn, .nilp, .val (.int .i32) 0, .val (.int .i32) 0], false, false⟩
def ti108 : TI := ⟨true, (.struct [(0, 12), (1, 12), (2, 101), (3, 102), (4, 5), (5, 5), (6, 103), (7, 104), (8, 91), (9, 105), (10, 106)]), 11, 48, none, [.val (.int .u64) 0, .val (.int .u64) 0, .val (.int .u32) 0, .val (.int .u8) 0, .val (.int .u8) 0, .val (.int .u8) 0, .val (.int .u8) 0, .nilfn, .nilp, .val (.int .i32) 0, .val (.int .i32) 0], false, false⟩
def tt : TT := (.node 51 ti51 (.node 27 ti27 (.node 14 ti14 (.node 8 ti8 (.node 4 ti4 (.node 2 ti2 (.node 1 ti1 .nil .nil) (.node 3 ti3 .nil .nil)) (.node 7 ti7 (.node 5 ti5 .nil .nil) .nil)) (.node 11 ti11 (.node 10 ti10 (.node 9 ti9 .nil .nil) .nil) (.node 13 ti13 (.node 12 ti12 .nil .nil) .nil))) (.node 21 ti21 (.node 17 ti17 (.node 16 ti16 (.node 15 ti15 .nil .nil) .nil) (.node 19 ti19 (.node 18 ti18 .nil .nil) .nil)) (.node 24 ti24 (.node 23 ti23 (.node 22 ti22 .nil .nil) .nil) (.node 26 ti26 (.node 25 ti25 .nil .nil) .nil)))) (.node 39 ti39 (.node 33 ti33 (.node 30 ti30 (.node 29 ti29 (.node 28 ti28 .nil .nil) .nil) (.node 32 ti32 (.node 31 ti31 .nil .nil) .nil)) (.node 36 ti36 (.node 35 ti35 (.node 34 ti34 .nil .nil) .nil) (.node 38 ti38 (.node 37 ti37 .nil .nil) .nil))) (.node 45 ti45 (.node 42 ti42 (.node 41 ti41 (.node 40 ti40 .nil .nil) .nil) (.node 44 ti44 (.node 43 ti43 .nil .nil) .nil)) (.node 48 ti48 (.node 47 ti47 (.node 46 ti46 .nil .nil) .nil) (.node 50 ti50 (.node 49 ti49 .nil .nil) .nil))))) (.node 76 ti76 (.node 63 ti63 (.node 57 ti57 (.node 54 ti54 (.node 53 ti53 (.node 52 ti52 .nil .nil) .nil) (.node 56 ti56 (.node 55 ti55 .nil .nil) .nil)) (.node 60 ti60 (.node 59 ti59 (.node 58 ti58 .nil .nil) .nil) (.node 62 ti62 (.node 61 ti61 .nil .nil) .nil))) (.node 70 ti70 (.node 66 ti66 (.node 65 ti65 (.node 64 ti64 .nil .nil) .nil) (.node 69 ti69 (.node 67 ti67 .nil .nil) .nil)) (.node 73 ti73 (.node 72 ti72 (.node 71 ti71 .nil .nil) .nil) (.node 75 ti75 (.node 74 ti74 .nil .nil) .nil)))) (.node 91 ti91 (.node 82 ti82 (.node 79 ti79 (.node 78 ti78 (.node 77 ti77 .nil .nil) .nil) (.node 81 ti81 (.node 80 ti80 .nil .nil) .nil)) (.node 88 ti88 (.node 86 ti86 (.node 85 ti85 .nil .nil) .nil) (.node 90 ti90 (.node 89 ti89 .nil .nil) .nil))) (.node 101 ti101 (.node 95 ti95 (.node 94 ti94 (.node 92 ti92 .nil .nil) .nil) (.node 100 ti100 (.node 96 ti96 .nil .nil) .nil)) (.node 106 ti106 (.node 105 ti105 (.node 104 ti104 .nil .nil) .nil) (.node 108 ti108 (.node 107 ti107 .nil .nil) .nil))))))

theorem zero_of {P : Program} {t : TypeId} {j : TypeInfo} (h : (P.info? t).map (·.zero) = some (some (.int .u8 0))) (hj : P.info? t = some j) : j.zero = some (.int .u8 0) := by rw [hj] at h; simpa using h
theorem tok1 : TIok Try.prog tt 1 ti1 := fun _ => ⟨by kernel_rfl, by kernel_rfl, .inl rfl, (fun y h => by cases h), .inr rfl, (fun h => by cases h), by kernel_rfl, rfl, (fun h => by cases h), (fun h => by cases h), (fun h => by cases h)⟩
theorem tok2 : TIok Try.prog tt 2 ti2 := fun _ => ⟨by kernel_rfl, by kernel_rfl, .inr (by kernel_rfl), (fun y h => by cases h; rfl), .inr rfl, (fun h => by cases h), by kernel_rfl, rfl, (fun h => by cases h), (fun h => by cases h), (fun h => by cases h)⟩
theorem tok3 : TIok Try.prog tt 3 ti3 := fun _ => ⟨by kernel_rfl, by kernel_rfl, .inr (by kernel_rfl), (fun y h => by cases h; rfl), .inr rfl, (fun h => by cases h), by kernel_rfl, rfl, (fun h => by cases h), (fun h => by cases h), (fun h => by cases h)⟩
theorem tok4 : TIok Try.prog tt 4 ti4 := fun _ => ⟨by kernel_rfl, by kernel_rfl, .inr (by kernel_rfl), (fun y h => by cases h; rfl), .inr rfl, (fun h => by cases h), by kernel_rfl, rfl, (fun h => by cases h), (fun h => by cases h), (fun h => by cases h)⟩
theorem tok5 : TIok Try.prog tt 5 ti5 := fun _ => ⟨by kernel_rfl, by kernel_rfl, .inr (by kernel_rfl), (fun y h => by cases h; rfl), .inr rfl, (fun h => by cases h), by kernel_rfl, rfl, (fun _ => rfl), (fun h => by cases h), (fun _ j hj => zero_of (by kernel_rfl) hj)⟩
theorem tok7 : TIok Try.prog tt 7 ti7 := fun _ => ⟨by kernel_rfl, by kernel_rfl, .inl rfl, (fun y h => by cases h), .inl rfl, (fun h => by cases h), by kernel_rfl, rfl, (fun h => by cases h), (fun h => by cases h), (fun h => by cases h)⟩
theorem tok8 : TIok Try.prog tt 8 ti8 := fun _ => ⟨by kernel_rfl, by kernel_rfl, .inl rfl, (fun y h => by cases h), .inl rfl, (fun h => by cases h), by kernel_rfl, rfl, (fun h => by cases h), (fun h => by cases h), (fun h => by cases h)⟩
theorem tok9 : TIok Try.prog tt 9 ti9 := fun _ => ⟨by kernel_rfl, by kernel_rfl, .inr (by kernel_rfl), (fun y h => by cases h; rfl), .inr rfl, (fun h => by cases h), by kernel_rfl, rfl, (fun h => by cases h), (fun h => by cases h), (fun h => by cases h)⟩
theorem tok10 : TIok Try.prog tt 10 ti10 := fun _ => ⟨by kernel_rfl, by kernel_rfl, .inr (by kernel_rfl), (fun y h => by cases h; rfl), .inr rfl, (fun h => by cases h), by kernel_rfl, rfl, (fun h => by cases h), (fun h => by cases h), (fun h => by cases h)⟩
theorem tok11 : TIok Try.prog tt 11 ti11 := fun _ => ⟨by kernel_rfl, by kernel_rfl, .inr (by kernel_rfl), (fun y h => by cases h; rfl), .inr rfl, (fun h => by cases h), by kernel_rfl, rfl, (fun h => by cases h), (fun h => by cases h), (fun h => by cases h)⟩
theorem tok12 : TIok Try.prog tt 12 ti12 := fun _ => ⟨by kernel_rfl, by kernel_rfl, .inr (by kernel_rfl), (fun y h => by cases h; rfl), .inr rfl, (fun h => by cases h), by kernel_rfl, rfl, (fun h => by cases h), (fun h => by cases h), (fun h => by cases h)⟩
theorem tok13 : TIok Try.prog tt 13 ti13 := fun _ => ⟨by kernel_rfl, by kernel_rfl, .inr (by kernel_rfl), (fun y h => by cases h; rfl), .inl rfl, (fun h => by cases h), by kernel_rfl, rfl, (fun h => by cases h), (fun h => by cases h), (fun h => by cases h)⟩
theorem tok14 : TIok Try.prog tt 14 ti14 := fun _ => ⟨by kernel_rfl, by kernel_rfl, .inr (by kernel_rfl), (fun y h => by cases h; rfl), .inl rfl, (fun h => by cases h), by kernel_rfl, rfl, (fun h => by cases h), (fun h => by cases h), (fun h => by cases h)⟩
theorem tok15 : TIok Try.prog tt 15 ti15 := fun _ => ⟨by kernel_rfl, by kernel_rfl, .inl rfl, (fun y h => by cases h), .inr rfl, (fun h => by cases h), by kernel_rfl, rfl, (fun h => by cases h), (fun h => by cases h), (fun h => by cases h)⟩
theorem tok16 : TIok Try.prog tt 16 ti16 := fun _ => ⟨by kernel_rfl, by kernel_rfl, .inl rfl, (fun y h => by cases h), .inr rfl, (fun h => by cases h), by kernel_rfl, rfl, (fun h => by cases h), (fun h => by cases h), (fun h => by cases h)⟩
theorem tok17 : TIok Try.prog tt 17 ti17 := fun _ => ⟨by kernel_rfl, by kernel_rfl, .inl rfl, (fun y h => by cases h), .inr rfl, (fun h => by cases h), by kernel_rfl, rfl, (fun h => by cases h), (fun h => by cases h), (fun h => by cases h)⟩
theorem tok18 : TIok Try.prog tt 18 ti18 := fun _ => ⟨by kernel_rfl, by kernel_rfl, .inl rfl, (fun y h => by cases h), .inl rfl, (fun h => by cases h), by kernel_rfl, rfl, (fun h => by cases h), (fun h => by cases h), (fun h => by cases h)⟩
theorem tok19 : TIok Try.prog tt 19 ti19 := fun _ => ⟨by kernel_rfl, by kernel_rfl, .inl rfl, (fun y h => by cases h), .inl rfl, (fun h => by cases h), by kernel_rfl, rfl, (fun h => by cases h), (fun h => by cases h), (fun h => by cases h)⟩
theorem tok21 : TIok Try.prog tt 21 ti21 := fun _ => ⟨by kernel_rfl, by kernel_rfl, .inr (by kernel_rfl), (fun y h => by cases h; rfl), .inr rfl, (fun h => by cases h), by kernel_rfl, rfl, (fun h => by cases h), (fun h => by cases h), (fun h => by cases h)⟩
theorem tok22 : TIok Try.prog tt 22 ti22 := fun _ => ⟨by kernel_rfl, by kernel_rfl, .inr (by kernel_rfl), (fun y h => by cases h; rfl), .inl rfl, (fun h => by cases h), by kernel_rfl, rfl, (fun h => by cases h), (fun h => by cases h), (fun h => by cases h)⟩
theorem tok23 : TIok Try.prog tt 23 ti23 := fun _ => ⟨by kernel_rfl, by kernel_rfl, .inr (by kernel_rfl), (fun y h => by cases h; rfl), .inl rfl, (fun _ => ⟨by kernel_rfl, by kernel_rfl, by kernel_rfl⟩), by kernel_rfl, rfl, (fun h => by cases h), (fun h => by cases h), (fun h => by cases h)⟩
theorem tok24 : TIok Try.prog tt 24 ti24 := fun _ => ⟨by kernel_rfl, by kernel_rfl, .inl rfl, (fun y h => by cases h), .inr rfl, (fun h => by cases h), by kernel_rfl, rfl, (fun h => by cases h), (fun h => by cases h), (fun h => by cases h)⟩
theorem tok25 : TIok Try.prog tt 25 ti25 := fun _ => ⟨by kernel_rfl, by kernel_rfl, .inl rfl, (fun y h => by cases h), .inr rfl, (fun h => by cases h), by kernel_rfl, rfl, (fun h => by cases h), (fun h => by cases h), (fun h => by cases h)⟩
theorem tok26 : TIok Try.prog tt 26 ti26 := fun _ => ⟨by kernel_rfl, by kernel_rfl, .inr (by kernel_rfl), (fun y h => by cases h; rfl), .inr rfl, (fun h => by cases h), by kernel_rfl, rfl, (fun h => by cases h), (fun h => by cases h), (fun h => by cases h)⟩
theorem tok27 : TIok Try.prog tt 27 ti27 := fun _ => ⟨by kernel_rfl, by kernel_rfl, .inl rfl, (fun y h => by cases h), .inr rfl, (fun h => by cases h), by kernel_rfl, rfl, (fun h => by cases h), (fun h => by cases h), (fun h => by cases h)⟩
theorem tok28 : TIok Try.prog tt 28 ti28 := fun _ => ⟨by kernel_rfl, by kernel_rfl, .inl rfl, (fun y h => by cases h), .inr rfl, (fun h => by cases h), by kernel_rfl, rfl, (fun h => by cases h), (fun h => by cases h), (fun h => by cases h)⟩
theorem tok29 : TIok Try.prog tt 29 ti29 := fun _ => ⟨by kernel_rfl, by kernel_rfl, .inr (by kernel_rfl), (fun y h => by cases h; rfl), .inr rfl, (fun h => by cases h), by kernel_rfl, rfl, (fun h => by cases h), (fun h => by cases h), (fun h => by cases h)⟩
theorem tok30 : TIok Try.prog tt 30 ti30 := fun _ => ⟨by kernel_rfl, by kernel_rfl, .inr (by kernel_rfl), (fun y h => by cases h; rfl), .inr rfl, (fun h => by cases h), by kernel_rfl, rfl, (fun h => by cases h), (fun h => by cases h), (fun h => by cases h)⟩
theorem tok31 : TIok Try.prog tt 31 ti31 := fun _ => ⟨by kernel_rfl, by kernel_rfl, .inl rfl, (fun y h => by cases h), .inr rfl, (fun h => by cases h), by kernel_rfl, rfl, (fun h => by cases h), (fun h => by cases h), (fun h => by cases h)⟩
theorem tok32 : TIok Try.prog tt 32 ti32 := fun _ => ⟨by kernel_rfl, by kernel_rfl, .inl rfl, (fun y h => by cases h), .inr rfl, (fun h => by cases h), by kernel_rfl, rfl, (fun h => by cases h), (fun h => by cases h), (fun h => by cases h)⟩
theorem tok33 : TIok Try.prog tt 33 ti33 := fun _ => ⟨by kernel_rfl, by kernel_rfl, .inl rfl, (fun y h => by cases h), .inr rfl, (fun h => by cases h), by kernel_rfl, rfl, (fun h => by cases h), (fun h => by cases h), (fun h => by cases h)⟩
theorem tok34 : TIok Try.prog tt 34 ti34 := fun _ => ⟨by kernel_rfl, by kernel_rfl, .inl rfl, (fun y h => by cases h), .inr rfl, (fun h => by cases h), by kernel_rfl, rfl, (fun h => by cases h), (fun h => by cases h), (fun h => by cases h)⟩
theorem tok35 : TIok Try.prog tt 35 ti35 := fun _ => ⟨by kernel_rfl, by kernel_rfl, .inl rfl, (fun y h => by cases h), .inr rfl, (fun h => by cases h), by kernel_rfl, rfl, (fun h => by cases h), (fun h => by cases h), (fun h => by cases h)⟩
theorem tok36 : TIok Try.prog tt 36 ti36 := fun _ => ⟨by kernel_rfl, by kernel_rfl, .inr (by kernel_rfl), (fun y h => by cases h; rfl), .inr rfl, (fun h => by cases h), by kernel_rfl, rfl, (fun h => by cases h), (fun h => by cases h), (fun h => by cases h)⟩
theorem tok37 : TIok Try.prog tt 37 ti37 := fun _ => ⟨by kernel_rfl, by kernel_rfl, .inl rfl, (fun y h => by cases h), .inr rfl, (fun h => by cases h), by kernel_rfl, rfl, (fun h => by cases h), (fun h => by cases h), (fun h => by cases h)⟩
theorem tok38 : TIok Try.prog tt 38 ti38 := fun _ => ⟨by kernel_rfl, by kernel_rfl, .inl rfl, (fun y h => by cases h), .inr rfl, (fun h => by cases h), by kernel_rfl, rfl, (fun h => by cases h), (fun h => by cases h), (fun h => by cases h)⟩
theorem tok39 : TIok Try.prog tt 39 ti39 := fun _ => ⟨by kernel_rfl, by kernel_rfl, .inl rfl, (fun y h => by cases h), .inr rfl, (fun h => by cases h), by kernel_rfl, rfl, (fun h => by cases h), (fun h => by cases h), (fun h => by cases h)⟩
theorem tok40 : TIok Try.prog tt 40 ti40 := fun _ => ⟨by kernel_rfl, by kernel_rfl, .inl rfl, (fun y h => by cases h), .inr rfl, (fun h => by cases h), by kernel_rfl, rfl, (fun h => by cases h), (fun h => by cases h), (fun h => by cases h)⟩
theorem tok41 : TIok Try.prog tt 41 ti41 := fun _ => ⟨by kernel_rfl, by kernel_rfl, .inl rfl, (fun y h => by cases h), .inr rfl, (fun h => by cases h), by kernel_rfl, rfl, (fun h => by cases h), (fun h => by cases h), (fun h => by cases h)⟩
theorem tok42 : TIok Try.prog tt 42 ti42 := fun _ => ⟨by kernel_rfl, by kernel_rfl, .inr (by kernel_rfl), (fun y h => by cases h; rfl), .inl rfl, (fun h => by cases h), by kernel_rfl, rfl, (fun h => by cases h), (fun h => by cases h), (fun h => by cases h)⟩
theorem tok43 : TIok Try.prog tt 43 ti43 := fun _ => ⟨by kernel_rfl, by kernel_rfl, .inr (by kernel_rfl), (fun y h => by cases h; rfl), .inl rfl, (fun _ => ⟨by kernel_rfl, by kernel_rfl, by kernel_rfl⟩), by kernel_rfl, rfl, (fun h => by cases h), (fun h => by cases h), (fun h => by cases h)⟩
theorem tok44 : TIok Try.prog tt 44 ti44 := fun _ => ⟨by kernel_rfl, by kernel_rfl, .inl rfl, (fun y h => by cases h), .inr rfl, (fun h => by cases h), by kernel_rfl, rfl, (fun h => by cases h), (fun h => by cases h), (fun h => by cases h)⟩
theorem tok45 : TIok Try.prog tt 45 ti45 := fun _ => ⟨by kernel_rfl, by kernel_rfl, .inl rfl, (fun y h => by cases h), .inr rfl, (fun h => by cases h), by kernel_rfl, rfl, (fun h => by cases h), (fun h => by cases h), (fun h => by cases h)⟩
theorem tok46 : TIok Try.prog tt 46 ti46 := fun _ => ⟨by kernel_rfl, by kernel_rfl, .inl rfl, (fun y h => by cases h), .inr rfl, (fun h => by cases h), by kernel_rfl, rfl, (fun h => by cases h), (fun h => by cases h), (fun h => by cases h)⟩
theorem tok47 : TIok Try.prog tt 47 ti47 := fun _ => ⟨by kernel_rfl, by kernel_rfl, .inr (by kernel_rfl), (fun y h => by cases h; rfl), .inr rfl, (fun h => by cases h), by kernel_rfl, rfl, (fun h => by cases h), (fun h => by cases h), (fun h => by cases h)⟩
theorem tok48 : TIok Try.prog tt 48 ti48 := fun _ => ⟨by kernel_rfl, by kernel_rfl, .inl rfl, (fun y h => by cases h), .inr rfl, (fun h => by cases h), by kernel_rfl, rfl, (fun h => by cases h), (fun h => by cases h), (fun h => by cases h)⟩
theorem tok49 : TIok Try.prog tt 49 ti49 := fun _ => ⟨by kernel_rfl, by kernel_rfl, .inl rfl, (fun y h => by cases h), .inr rfl, (fun h => by cases h), by kernel_rfl, rfl, (fun h => by cases h), (fun h => by cases h), (fun h => by cases h)⟩
theorem tok50 : TIok Try.prog tt 50 ti50 := fun _ => ⟨by kernel_rfl, by kernel_rfl, .inl rfl, (fun y h => by cases h), .inr rfl, (fun h => by cases h), by kernel_rfl, rfl, (fun h => by cases h), (fun h => by cases h), (fun h => by cases h)⟩
theorem tok51 : TIok Try.prog tt 51 ti51 := fun _ => ⟨by kernel_rfl, by kernel_rfl, .inl rfl, (fun y h => by cases h), .inr rfl, (fun h => by cases h), by kernel_rfl, rfl, (fun h => by cases h), (fun h => by cases h), (fun h => by cases h)⟩
theorem tok52 : TIok Try.prog tt 52 ti52 := fun _ => ⟨by kernel_rfl, by kernel_rfl, .inl rfl, (fun y h => by cases h), .inr rfl, (fun h => by cases h), by kernel_rfl, rfl, (fun h => by cases h), (fun h => by cases h), (fun h => by cases h)⟩
theorem tok53 : TIok Try.prog tt 53 ti53 := fun _ => ⟨by kernel_rfl, by kernel_rfl, .inl rfl, (fun y h => by cases h), .inr rfl, (fun h => by cases h), by kernel_rfl, rfl, (fun h => by cases h), (fun h => by cases h), (fun h => by cases h)⟩
theorem tok54 : TIok Try.prog tt 54 ti54 := fun _ => ⟨by kernel_rfl, by kernel_rfl, .inl rfl, (fun y h => by cases h), .inr rfl, (fun h => by cases h), by kernel_rfl, rfl, (fun h => by cases h), (fun h => by cases h), (fun h => by cases h)⟩
theorem tok55 : TIok Try.prog tt 55 ti55 := fun _ => ⟨by kernel_rfl, by kernel_rfl, .inl rfl, (fun y h => by cases h), .inr rfl, (fun h => by cases h), by kernel_rfl, rfl, (fun h => by cases h), (fun h => by cases h), (fun h => by cases h)⟩
theorem tok56 : TIok Try.prog tt 56 ti56 := fun _ => ⟨by kernel_rfl, by kernel_rfl, .inl rfl, (fun y h => by cases h), .inr rfl, (fun h => by cases h), by kernel_rfl, rfl, (fun h => by cases h), (fun h => by cases h), (fun h => by cases h)⟩
theorem tok57 : TIok Try.prog tt 57 ti57 := fun _ => ⟨by kernel_rfl, by kernel_rfl, .inl rfl, (fun y h => by cases h), .inr rfl, (fun h => by cases h), by kernel_rfl, rfl, (fun h => by cases h), (fun h => by cases h), (fun h => by cases h)⟩
theorem tok58 : TIok Try.prog tt 58 ti58 := fun _ => ⟨by kernel_rfl, by kernel_rfl, .inr (by kernel_rfl), (fun y h => by cases h; rfl), .inr rfl, (fun h => by cases h), by kernel_rfl, rfl, (fun h => by cases h), (fun h => by cases h), (fun h => by cases h)⟩
theorem tok59 : TIok Try.prog tt 59 ti59 := fun _ => ⟨by kernel_rfl, by kernel_rfl, .inr (by kernel_rfl), (fun y h => by cases h; rfl), .inr rfl, (fun h => by cases h), by kernel_rfl, rfl, (fun h => by cases h), (fun h => by cases h), (fun h => by cases h)⟩
theorem tok60 : TIok Try.prog tt 60 ti60 := fun _ => ⟨by kernel_rfl, by kernel_rfl, .inl rfl, (fun y h => by cases h), .inr rfl, (fun h => by cases h), by kernel_rfl, rfl, (fun h => by cases h), (fun h => by cases h), (fun h => by cases h)⟩
theorem tok61 : TIok Try.prog tt 61 ti61 := fun _ => ⟨by kernel_rfl, by kernel_rfl, .inl rfl, (fun y h => by cases h), .inr rfl, (fun h => by cases h), by kernel_rfl, rfl, (fun h => by cases h), (fun h => by cases h), (fun h => by cases h)⟩
theorem tok62 : TIok Try.prog tt 62 ti62 := fun _ => ⟨by kernel_rfl, by kernel_rfl, .inl rfl, (fun y h => by cases h), .inr rfl, (fun h => by cases h), by kernel_rfl, rfl, (fun h => by cases h), (fun h => by cases h), (fun h => by cases h)⟩
theorem tok63 : TIok Try.prog tt 63 ti63 := fun _ => ⟨by kernel_rfl, by kernel_rfl, .inl rfl, (fun y h => by cases h), .inr rfl, (fun h => by cases h), by kernel_rfl, rfl, (fun h => by cases h), (fun h => by cases h), (fun h => by cases h)⟩
theorem tok64 : TIok Try.prog tt 64 ti64 := fun _ => ⟨by kernel_rfl, by kernel_rfl, .inl rfl, (fun y h => by cases h), .inr rfl, (fun h => by cases h), by kernel_rfl, rfl, (fun h => by cases h), (fun h => by cases h), (fun h => by cases h)⟩
theorem tok65 : TIok Try.prog tt 65 ti65 := fun _ => ⟨by kernel_rfl, by kernel_rfl, .inl rfl, (fun y h => by cases h), .inr rfl, (fun h => by cases h), by kernel_rfl, rfl, (fun h => by cases h), (fun h => by cases h), (fun h => by cases h)⟩
theorem tok66 : TIok Try.prog tt 66 ti66 := fun _ => ⟨by kernel_rfl, by kernel_rfl, .inl rfl, (fun y h => by cases h), .inr rfl, (fun h => by cases h), by kernel_rfl, rfl, (fun h => by cases h), (fun h => by cases h), (fun h => by cases h)⟩
theorem tok67 : TIok Try.prog tt 67 ti67 := fun _ => ⟨by kernel_rfl, by kernel_rfl, .inl rfl, (fun y h => by cases h), .inr rfl, (fun h => by cases h), by kernel_rfl, rfl, (fun h => by cases h), (fun h => by cases h), (fun h => by cases h)⟩
theorem tok69 : TIok Try.prog tt 69 ti69 := fun _ => ⟨by kernel_rfl, by kernel_rfl, .inl rfl, (fun y h => by cases h), .inr rfl, (fun h => by cases h), by kernel_rfl, rfl, (fun h => by cases h), (fun h => by cases h), (fun h => by cases h)⟩
theorem tok70 : TIok Try.prog tt 70 ti70 := fun _ => ⟨by kernel_rfl, by kernel_rfl, .inl rfl, (fun y h => by cases h), .inr rfl, (fun h => by cases h), by kernel_rfl, rfl, (fun h => by cases h), (fun h => by cases h), (fun h => by cases h)⟩
theorem tok71 : TIok Try.prog tt 71 ti71 := fun _ => ⟨by kernel_rfl, by kernel_rfl, .inr (by kernel_rfl), (fun y h => by cases h; rfl), .inl rfl, (fun h => by cases h), by kernel_rfl, rfl, (fun h => by cases h), (fun h => by cases h), (fun h => by cases h)⟩
theorem tok72 : TIok Try.prog tt 72 ti72 := fun _ => ⟨by kernel_rfl, by kernel_rfl, .inr (by kernel_rfl), (fun y h => by cases h; rfl), .inl rfl, (fun _ => ⟨by kernel_rfl, by kernel_rfl, by kernel_rfl⟩), by kernel_rfl, rfl, (fun h => by cases h), (fun h => by cases h), (fun h => by cases h)⟩
theorem tok73 : TIok Try.prog tt 73 ti73 := fun _ => ⟨by kernel_rfl, by kernel_rfl, .inl rfl, (fun y h => by cases h), .inr rfl, (fun h => by cases h), by kernel_rfl, rfl, (fun h => by cases h), (fun h => by cases h), (fun h => by cases h)⟩
theorem tok74 : TIok Try.prog tt 74 ti74 := fun _ => ⟨by kernel_rfl, by kernel_rfl, .inl rfl, (fun y h => by cases h), .inr rfl, (fun h => by cases h), by kernel_rfl, rfl, (fun h => by cases h), (fun h => by cases h), (fun h => by cases h)⟩
theorem tok75 : TIok Try.prog tt 75 ti75 := fun _ => ⟨by kernel_rfl, by kernel_rfl, .inl rfl, (fun y h => by cases h), .inr rfl, (fun h => by cases h), by kernel_rfl, rfl, (fun h => by cases h), (fun h => by cases h), (fun h => by cases h)⟩
theorem tok76 : TIok Try.prog tt 76 ti76 := fun _ => ⟨by kernel_rfl, by kernel_rfl, .inl rfl, (fun y h => by cases h), .inr rfl, (fun h => by cases h), by kernel_rfl, rfl, (fun h => by cases h), (fun h => by cases h), (fun h => by cases h)⟩
theorem tok77 : TIok Try.prog tt 77 ti77 := fun _ => ⟨by kernel_rfl, by kernel_rfl, .inl rfl, (fun y h => by cases h), .inr rfl, (fun h => by cases h), by kernel_rfl, rfl, (fun h => by cases h), (fun h => by cases h), (fun h => by cases h)⟩
theorem tok78 : TIok Try.prog tt 78 ti78 := fun _ => ⟨by kernel_rfl, by kernel_rfl, .inl rfl, (fun y h => by cases h), .inl rfl, (fun h => by cases h), by kernel_rfl, rfl, (fun h => by cases h), (fun h => by cases h), (fun h => by cases h)⟩
theorem tok79 : TIok Try.prog tt 79 ti79 := fun _ => ⟨by kernel_rfl, by kernel_rfl, .inl rfl, (fun y h => by cases h), .inl rfl, (fun h => by cases h), by kernel_rfl, rfl, (fun h => by cases h), (fun _ => rfl), (fun h => by cases h)⟩
theorem tok80 : TIok Try.prog tt 80 ti80 := fun _ => ⟨by kernel_rfl, by kernel_rfl, .inl rfl, (fun y h => by cases h), .inr rfl, (fun h => by cases h), by kernel_rfl, rfl, (fun h => by cases h), (fun h => by cases h), (fun h => by cases h)⟩
theorem tok81 : TIok Try.prog tt 81 ti81 := fun _ => ⟨by kernel_rfl, by kernel_rfl, .inl rfl, (fun y h => by cases h), .inr rfl, (fun h => by cases h), by kernel_rfl, rfl, (fun h => by cases h), (fun h => by cases h), (fun h => by cases h)⟩
theorem tok82 : TIok Try.prog tt 82 ti82 := fun _ => ⟨by kernel_rfl, by kernel_rfl, .inl rfl, (fun y h => by cases h), .inr rfl, (fun h => by cases h), by kernel_rfl, rfl, (fun h => by cases h), (fun h => by cases h), (fun h => by cases h)⟩
theorem tok85 : TIok Try.prog tt 85 ti85 := fun _ => ⟨by kernel_rfl, by kernel_rfl, .inl rfl, (fun y h => by cases h), .inr rfl, (fun h => by cases h), by kernel_rfl, rfl, (fun h => by cases h), (fun h => by cases h), (fun h => by cases h)⟩
theorem tok86 : TIok Try.prog tt 86 ti86 := fun _ => ⟨by kernel_rfl, by kernel_rfl, .inl rfl, (fun y h => by cases h), .inr rfl, (fun h => by cases h), by kernel_rfl, rfl, (fun h => by cases h), (fun h => by cases h), (fun h => by cases h)⟩
theorem tok88 : TIok Try.prog tt 88 ti88 := fun _ => ⟨by kernel_rfl, by kernel_rfl, .inl rfl, (fun y h => by cases h), .inr rfl, (fun h => by cases h), by kernel_rfl, rfl, (fun h => by cases h), (fun h => by cases h), (fun h => by cases h)⟩
theorem tok89 : TIok Try.prog tt 89 ti89 := fun _ => ⟨by kernel_rfl, by kernel_rfl, .inl rfl, (fun y h => by cases h), .inr rfl, (fun h => by cases h), by kernel_rfl, rfl, (fun h => by cases h), (fun h => by cases h), (fun h => by cases h)⟩
theorem tok90 : TIok Try.prog tt 90 ti90 := fun _ => ⟨by kernel_rfl, by kernel_rfl, .inl rfl, (fun y h => by cases h), .inr rfl, (fun h => by cases h), by kernel_rfl, rfl, (fun h => by cases h), (fun h => by cases h), (fun h => by cases h)⟩
theorem tok91 : TIok Try.prog tt 91 ti91 := fun _ => ⟨by kernel_rfl, by kernel_rfl, .inl rfl, (fun y h => by cases h), .inr rfl, (fun h => by cases h), by kernel_rfl, rfl, (fun h => by cases h), (fun h => by cases h), (fun h => by cases h)⟩
theorem tok92 : TIok Try.prog tt 92 ti92 := fun _ => ⟨by kernel_rfl, by kernel_rfl, .inl rfl, (fun y h => by cases h), .inr rfl, (fun h => by cases h), by kernel_rfl, rfl, (fun h => by cases h), (fun h => by cases h), (fun h => by cases h)⟩
theorem tok94 : TIok Try.prog tt 94 ti94 := fun _ => ⟨by kernel_rfl, by kernel_rfl, .inl rfl, (fun y h => by cases h), .inr rfl, (fun h => by cases h), by kernel_rfl, rfl, (fun h => by cases h), (fun h => by cases h), (fun h => by cases h)⟩
theorem tok95 : TIok Try.prog tt 95 ti95 := fun _ => ⟨by kernel_rfl, by kernel_rfl, .inl rfl, (fun y h => by cases h), .inl rfl, (fun h => by cases h), by kernel_rfl, rfl, (fun h => by cases h), (fun h => by cases h), (fun h => by cases h)⟩
theorem tok96 : TIok Try.prog tt 96 ti96 := fun _ => ⟨by kernel_rfl, by kernel_rfl, .inl rfl, (fun y h => by cases h), .inl rfl, (fun h => by cases h), by kernel_rfl, rfl, (fun h => by cases h), (fun h => by cases h), (fun h => by cases h)⟩
theorem tok100 : TIok Try.prog tt 100 ti100 := fun _ => ⟨by kernel_rfl, by kernel_rfl, .inl rfl, (fun y h => by cases h), .inr rfl, (fun h => by cases h), by kernel_rfl, rfl, (fun h => by cases h), (fun h => by cases h), (fun h => by cases h)⟩
theorem tok101 : TIok Try.prog tt 101 ti101 := fun _ => ⟨by kernel_rfl, by kernel_rfl, .inr (by kernel_rfl), (fun y h => by cases h; rfl), .inr rfl, (fun h => by cases h), by kernel_rfl, rfl, (fun h => by cases h), (fun h => by cases h), (fun h => by cases h)⟩
theorem tok104 : TIok Try.prog tt 104 ti104 := fun _ => ⟨by kernel_rfl, by kernel_rfl, .inl rfl, (fun y h => by cases h), .inr rfl, (fun h => by cases h), by kernel_rfl, rfl, (fun h => by cases h), (fun h => by cases h), (fun h => by cases h)⟩
theorem tok105 : TIok Try.prog tt 105 ti105 := fun _ => ⟨by kernel_rfl, by kernel_rfl, .inr (by kernel_rfl), (fun y h => by cases h; rfl), .inr rfl, (fun h => by cases h), by kernel_rfl, rfl, (fun h => by cases h), (fun h => by cases h), (fun h => by cases h)⟩
theorem tok106 : TIok Try.prog tt 106 ti106 := fun _ => ⟨by kernel_rfl, by kernel_rfl, .inr (by kernel_rfl), (fun y h => by cases h; rfl), .inr rfl, (fun h => by cases h), by kernel_rfl, rfl, (fun h => by cases h), (fun h => by cases h), (fun h => by cases h)⟩
theorem tok107 : TIok Try.prog tt 107 ti107 := fun _ => ⟨by kernel_rfl, by kernel_rfl, .inl rfl, (fun y h => by cases h), .inl rfl, (fun h => by cases h), by kernel_rfl, rfl, (fun h => by cases h), (fun h => by cases h), (fun h => by cases h)⟩
theorem tok108 : TIok Try.prog tt 108 ti108 := fun _ => ⟨by kernel_rfl, by kernel_rfl, .inl rfl, (fun y h => by cases h), .inl rfl, (fun h => by cases h), by kernel_rfl, rfl, (fun h => by cases h), (fun h => by cases h), (fun h => by cases h)⟩
theorem tok : TOk Try.prog tt := TOk.of_all (⟨tok51, ⟨tok27, ⟨tok14, ⟨tok8, ⟨tok4, ⟨tok2, ⟨tok1, trivial, trivial⟩, ⟨tok3, trivial, trivial⟩⟩, ⟨tok7, ⟨tok5, trivial, trivial⟩, trivial⟩⟩, ⟨tok11, ⟨tok10, ⟨tok9, trivial, trivial⟩, trivial⟩, ⟨tok13, ⟨tok12, trivial, trivial⟩, trivial⟩⟩⟩, ⟨tok21, ⟨tok17, ⟨tok16, ⟨tok15, trivial, trivial⟩, trivial⟩, ⟨tok19, ⟨tok18, trivial, trivial⟩, trivial⟩⟩, ⟨tok24, ⟨tok23, ⟨tok22, trivial, trivial⟩, trivial⟩, ⟨tok26, ⟨tok25, trivial, trivial⟩, trivial⟩⟩⟩⟩, ⟨tok39, ⟨tok33, ⟨tok30, ⟨tok29, ⟨tok28, trivial, trivial⟩, trivial⟩, ⟨tok32, ⟨tok31, trivial, trivial⟩, trivial⟩⟩, ⟨tok36, ⟨tok35, ⟨tok34, trivial, trivial⟩, trivial⟩, ⟨tok38, ⟨tok37, trivial, trivial⟩, trivial⟩⟩⟩, ⟨tok45, ⟨tok42, ⟨tok41, ⟨tok40, trivial, trivial⟩, trivial⟩, ⟨tok44, ⟨tok43, trivial, trivial⟩, trivial⟩⟩, ⟨tok48, ⟨tok47, ⟨tok46, trivial, trivial⟩, trivial⟩, ⟨tok50, ⟨tok49, trivial, trivial⟩, trivial⟩⟩⟩⟩⟩, ⟨tok76, ⟨tok63, ⟨tok57, ⟨tok54, ⟨tok53, ⟨tok52, trivial, trivial⟩, trivial⟩, ⟨tok56, ⟨tok55, trivial, trivial⟩, trivial⟩⟩, ⟨tok60, ⟨tok59, ⟨tok58, trivial, trivial⟩, trivial⟩, ⟨tok62, ⟨tok61, trivial, trivial⟩, trivial⟩⟩⟩, ⟨tok70, ⟨tok66, ⟨tok65, ⟨tok64, trivial, trivial⟩, trivial⟩, ⟨tok69, ⟨tok67, trivial, trivial⟩, trivial⟩⟩, ⟨tok73, ⟨tok72, ⟨tok71, trivial, trivial⟩, trivial⟩, ⟨tok75, ⟨tok74, trivial, trivial⟩, trivial⟩⟩⟩⟩, ⟨tok91, ⟨tok82, ⟨tok79, ⟨tok78, ⟨tok77, trivial, trivial⟩, trivial⟩, ⟨tok81, ⟨tok80, trivial, trivial⟩, trivial⟩⟩, ⟨tok88, ⟨tok86, ⟨tok85, trivial, trivial⟩, trivial⟩, ⟨tok90, ⟨tok89, trivial, trivial⟩, trivial⟩⟩⟩, ⟨tok101, ⟨tok95, ⟨tok94, ⟨tok92, trivial, trivial⟩, trivial⟩, ⟨tok100, ⟨tok96, trivial, trivial⟩, trivial⟩⟩, ⟨tok106, ⟨tok105, ⟨tok104, trivial, trivial⟩, trivial⟩, ⟨tok108, ⟨tok107, trivial, trivial⟩, trivial⟩⟩⟩⟩⟩⟩)

def noGorB (P : Program) : Bool := P.funcs.toList.all fun fn => fn.body.isNone || !(fn.name == "runtime.NumGoroutine")
theorem noGor_of {P : Program} (h : noGorB P = true) : NoGor P := fun f fn c hf hb => by
  have h1 := List.all_eq_true.1 h fn (by have := Array.mem_of_getElem? hf; simpa using this)
  simpa [hb] using h1
theorem noGor : NoGor Try.prog := noGor_of (by kernel_rfl)
theorem mixed : Try.prog.follows .mixedOrders = true := by kernel_rfl
noncomputable def sg0 (g : FuncId) : Option Sum := bif Nat.beq g 76 then some sumIB else none
theorem sg0_ok : ∀ g s, sg0 g = some s → SumOk Try.prog g s := fun g s h => by
  unfold sg0 at h
  rw [cond_eq_ite] at h
  split at h
  · rename_i hg
    obtain rfl : g = 76 := Nat.eq_of_beq_eq_true hg
    cases h
    exact (sumIB_ok Try.func76 (by kernel_rfl) (by kernel_rfl) (by kernel_rfl) (by kernel_rfl))
  cases h
def chkRen : Go.Shelf.Ren := ⟨fun | 240 => 88 | 276 => 93 | n => n, fun | 0 => 0 | 4 => 4 | 9 => 9 | 20 => 20 | 37 => 26 | 70 => 77 | 72 => 79 | 164 => 93 | n => n, fun n => n⟩
theorem chkLays : Go.Proofs.Lays.n240 Try.prog chkRen := {
  mixed := mixed,
  f240 := (Try.func88).trans (by kernel_rfl),
  f276 := (Try.func93).trans (by kernel_rfl),
  t0 := Try.underlying0, a0 := Try.isAgg0, z0 := Try.sizeOf0, v0 := Try.zeroValue0,
  t4 := Try.underlying4, a4 := Try.isAgg4, z4 := Try.sizeOf4, v4 := Try.zeroValue4,
  t9 := Try.underlying9, a9 := Try.isAgg9, z9 := Try.sizeOf9, v9 := Try.zeroValue9,
  t20 := Try.underlying20, a20 := Try.isAgg20, z20 := Try.sizeOf20, v20 := Try.zeroValue20,
  t70 := Try.underlying77, a70 := Try.isAgg77, z70 := Try.sizeOf77, v70 := Try.zeroValue77,
  t72 := Try.underlying79, a72 := Try.isAgg79, z72 := Try.sizeOf79, v72 := Try.zeroValue79,
  t164 := Try.underlying93, a164 := Try.isAgg93, z164 := Try.sizeOf93, v164 := Try.zeroValue93 }
theorem chkX : Go.Proofs.Builder.X72 Try.prog chkRen := { sizeBuilder := by kernel_rfl, liesBuilder := by kernel_rfl }
theorem chk_ok (g : FuncId) (h : isChk g = true) : CheckOk Try.prog g := by
  simp only [isChk, Bool.and_eq_true] at h
  obtain rfl : g = 88 := Nat.eq_of_beq_eq_true h.1
  exact fun w b hs hf => ⟨callFunc_run noGor Try.func88 (show Try.f88.body = some ((Try.f88.body).getD .skip) by kernel_rfl) _ _, fun h0 => Any.Builder_copyCheck_used chkLays chkX b w h0, fun h0 => Any.Builder_copyCheck_fresh chkLays chkX b w h0 hs hf⟩
/-- the plain machine, closed -/
noncomputable def env0 : Env := { P := Try.prog, T := tt, cl := true, kp := fun _ _ => none, sg := sg0, lp := fun _ _ => none, bf := isChk }
theorem rf_ok : ∀ E, LoopsOk Try.prog E → RfOk E := fun E h f k asg bd hr => rfAt_ok h f k asg bd hr
theorem env0_ok : EnvOk env0 := ⟨tok, mixed, noGor, sg0_ok, fun f fn c _ _ => loopsOk_none (fun _ => rfl) (fun _ => rfl) c, rf_ok _ fun f fn c _ _ => loopsOk_none (fun _ => rfl) (fun _ => rfl) c, chk_ok, fun _ _ h => by cases h⟩
end Go.Proofs.Ytkloefipjbeneaa
