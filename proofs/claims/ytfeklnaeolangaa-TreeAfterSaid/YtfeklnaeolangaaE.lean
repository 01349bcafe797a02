import Derived.Test.YtfeklnaeolangaaProg
import Derived.Test.YtfeklnaeolangaaBd
import Derived.Shelf.Strings.Builder1
namespace Go.Proofs.Ytfeklnaeolangaa
open Go.RowKit
set_option linter.unusedVariables false
set_option maxRecDepth 100000

def ti1 : TI := ⟨true, .fn, 1, 8, none, [.nilfn], false, false⟩
def ti2 : TI := ⟨true, (.int .i64), 1, 8, some (.int .i64), [.val (.int .i64) 0], false, false⟩
def ti3 : TI := ⟨true, (.int .i64), 1, 8, some (.int .i64), [.val (.int .i64) 0], false, false⟩
def ti4 : TI := ⟨true, .bool, 1, 1, some .bool, [.val .bool false], false, false⟩
def ti5 : TI := ⟨true, (.int .u8), 1, 1, some (.int .u8), [.val (.int .u8) 0], false, false⟩
def ti7 : TI := ⟨true, (.struct [(0, 2), (1, 3), (2, 4), (3, 6)]), 4, 24, none, [.val (.int .i64) 0, .val (.int .i64) 0, .val .bool false, .val (.int .u8) 0], false, false⟩
def ti8 : TI := ⟨true, (.struct [(0, 2), (1, 3), (2, 4), (3, 6)]), 4, 24, none, [.val (.int .i64) 0, .val (.int .i64) 0, .val .bool false, .val (.int .u8) 0], false, false⟩
def ti9 : TI := ⟨true, .str, 1, 16, some .str, [.val .str []], false, false⟩
def ti10 : TI := ⟨true, .str, 1, 16, some .str, [.val .str []], false, false⟩
def ti11 : TI := ⟨true, .str, 1, 16, some .str, [.val .str []], false, false⟩
def ti12 : TI := ⟨true, (.int .u64), 1, 8, some (.int .u64), [.val (.int .u64) 0], false, false⟩
def ti13 : TI := ⟨true, (.struct [(0, 9), (1, 12)]), 2, 24, some (.pair .str (.pair (.int .u64) .unit)), [.val .str [], .val (.int .u64) 0], false, false⟩
def ti14 : TI := ⟨true, (.struct [(0, 9), (1, 12)]), 2, 24, some (.pair .str (.pair (.int .u64) .unit)), [.val .str [], .val (.int .u64) 0], false, false⟩
def ti15 : TI := ⟨true, (.ptr 61), 1, 8, none, [.nilp], false, false⟩
def ti16 : TI := ⟨true, (.ptr 64), 1, 8, none, [.nilp], false, false⟩
def ti17 : TI := ⟨true, (.ptr 74), 1, 8, none, [.nilp], false, false⟩
def ti18 : TI := ⟨true, (.struct [(0, 17)]), 1, 8, none, [.nilp], false, false⟩
def ti19 : TI := ⟨true, (.struct [(0, 17)]), 1, 8, none, [.nilp], false, false⟩
def ti21 : TI := ⟨true, (.int .i32), 1, 4, some (.int .i32), [.val (.int .i32) 0], false, false⟩
def ti22 : TI := ⟨true, (.slice 31), 1, 24, some (.list (.pair (.int .i64) (.pair (.int .i64) (.pair (.int .i64) (.pair (.int .i64) .unit))))), [.nils], false, false⟩
def ti23 : TI := ⟨true, .fn, 1, 8, none, [.nilfn], false, false⟩
def ti24 : TI := ⟨true, .fn, 1, 8, none, [.nilfn], false, false⟩
def ti25 : TI := ⟨true, (.int .i64), 1, 8, some (.int .i64), [.val (.int .i64) 0], false, false⟩
def ti27 : TI := ⟨true, .fn, 1, 8, none, [.nilfn], false, false⟩
def ti29 : TI := ⟨true, .fn, 1, 8, none, [.nilfn], false, false⟩
def ti30 : TI := ⟨true, (.struct [(0, 3), (1, 3), (2, 3), (3, 3)]), 4, 32, some (.pair (.int .i64) (.pair (.int .i64) (.pair (.int .i64) (.pair (.int .i64) .unit)))), [.val (.int .i64) 0, .val (.int .i64) 0, .val (.int .i64) 0, .val (.int .i64) 0], false, false⟩
def ti31 : TI := ⟨true, (.struct [(0, 3), (1, 3), (2, 3), (3, 3)]), 4, 32, some (.pair (.int .i64) (.pair (.int .i64) (.pair (.int .i64) (.pair (.int .i64) .unit)))), [.val (.int .i64) 0, .val (.int .i64) 0, .val (.int .i64) 0, .val (.int .i64) 0], true, false⟩
def ti32 : TI := ⟨true, .fn, 1, 8, none, [.nilfn], false, false⟩
def ti33 : TI := ⟨true, .fn, 1, 8, none, [.nilfn], false, false⟩
def ti34 : TI := ⟨true, .fn, 1, 8, none, [.nilfn], false, false⟩
def ti35 : TI := ⟨true, .fn, 1, 8, none, [.nilfn], false, false⟩
def ti36 : TI := ⟨true, .fn, 1, 8, none, [.nilfn], false, false⟩
def ti37 : TI := ⟨true, .fn, 1, 8, none, [.nilfn], false, false⟩
def ti38 : TI := ⟨true, .fn, 1, 8, none, [.nilfn], false, false⟩
def ti39 : TI := ⟨true, (.slice 3), 1, 24, some (.list (.int .i64)), [.nils], false, false⟩
def ti40 : TI := ⟨true, .fn, 1, 8, none, [.nilfn], false, false⟩
def ti41 : TI := ⟨true, .fn, 1, 8, none, [.nilfn], false, false⟩
def ti42 : TI := ⟨true, .fn, 1, 8, none, [.nilfn], false, false⟩
def ti43 : TI := ⟨true, .fn, 1, 8, none, [.nilfn], false, false⟩
def ti45 : TI := ⟨true, .fn, 1, 8, none, [.nilfn], false, false⟩
def ti46 : TI := ⟨true, .fn, 1, 8, none, [.nilfn], false, false⟩
def ti48 : TI := ⟨true, .fn, 1, 8, none, [.nilfn], false, false⟩
def ti49 : TI := ⟨true, .fn, 1, 8, none, [.nilfn], false, false⟩
def ti50 : TI := ⟨true, .fn, 1, 8, none, [.nilfn], false, false⟩
def ti51 : TI := ⟨true, .fn, 1, 8, none, [.nilfn], false, false⟩
def ti52 : TI := ⟨true, .fn, 1, 8, none, [.nilfn], false, false⟩
def ti53 : TI := ⟨true, .fn, 1, 8, none, [.nilfn], false, false⟩
def ti54 : TI := ⟨true, .fn, 1, 8, none, [.nilfn], false, false⟩
def ti56 : TI := ⟨true, .fn, 1, 8, none, [.nilfn], false, false⟩
def ti57 : TI := ⟨true, .fn, 1, 8, none, [.nilfn], false, false⟩
def ti58 : TI := ⟨true, .fn, 1, 8, none, [.nilfn], false, false⟩
def ti59 : TI := ⟨true, .fn, 1, 8, none, [.nilfn], false, false⟩
def ti60 : TI := ⟨true, (.struct [(0, 17), (1, 17), (2, 17), (3, 9)]), 4, 40, none, [.nilp, .nilp, .nilp, .val .str []], false, false⟩
def ti61 : TI := ⟨true, (.struct [(0, 17), (1, 17), (2, 17), (3, 9)]), 4, 40, none, [.nilp, .nilp, .nilp, .val .str []], false, false⟩
def ti65 : TI := ⟨true, .fn, 1, 8, none, [.nilfn], false, false⟩
def ti66 : TI := ⟨true, (.int .u32), 1, 4, some (.int .u32), [.val (.int .u32) 0], false, false⟩
def ti69 : TI := ⟨true, .fn, 1, 8, none, [.nilfn], false, false⟩
def ti70 : TI := ⟨true, (.ptr 5), 1, 8, none, [.nilp], false, false⟩
def ti71 : TI := ⟨true, (.int .i32), 1, 4, some (.int .i32), [.val (.int .i32) 0], false, false⟩
def ti72 : TI := ⟨true, (.int .i32), 1, 4, some (.int .i32), [.val (.int .i32) 0], false, false⟩
def ti73 : TI := ⟨true, (.struct [(0, 12), (1, 12), (2, 66), (3, 67), (4, 5), (5, 5), (6, 68), (7, 69), (8, 70), (9, 71), (10, 72)]), 11, 48, none, [.val (.int .u64) 0, .val (.int .u64) 0, .val (.int .u32) 0, .val (.int .u8) 0, .val (.int .u8) 0, .val (.int .u8) 0, .val (.int .u8) 0, .nilfn, .nilp, .val (.int .i32) 0, .val (.int .i32) 0], false, false⟩
def ti74 : TI := ⟨true, (.struct [(0, 12), (1, 12), (2, 66), (3, 67), (4, 5), (5, 5), (6, 68), (7, 69), (8, 70), (9, 71), (10, 72)]), 11, 48, none, [.val (.int .u64) 0, .val (.int .u64) 0, .val (.int .u32) 0, .val (.int .u8) 0, .val (.int .u8) 0, .val (.int .u8) 0, .val (.int .u8) 0, .nilfn, .nilp, .val (.int .i32) 0, .val (.int .i32) 0], false, false⟩
def tt : TT := (.node 36 ti36 (.node 17 ti17 (.node 9 ti9 (.node 4 ti4 (.node 2 ti2 (.node 1 ti1 .nil .nil) (.node 3 ti3 .nil .nil)) (.node 7 ti7 (.node 5 ti5 .nil .nil) (.node 8 ti8 .nil .nil))) (.node 13 ti13 (.node 11 ti11 (.node 10 ti10 .nil .nil) (.node 12 ti12 .nil .nil)) (.node 15 ti15 (.node 14 ti14 .nil .nil) (.node 16 ti16 .nil .nil)))) (.node 27 ti27 (.node 22 ti22 (.node 19 ti19 (.node 18 ti18 .nil .nil) (.node 21 ti21 .nil .nil)) (.node 24 ti24 (.node 23 ti23 .nil .nil) (.node 25 ti25 .nil .nil))) (.node 32 ti32 (.node 30 ti30 (.node 29 ti29 .nil .nil) (.node 31 ti31 .nil .nil)) (.node 34 ti34 (.node 33 ti33 .nil .nil) (.node 35 ti35 .nil .nil))))) (.node 54 ti54 (.node 45 ti45 (.node 40 ti40 (.node 38 ti38 (.node 37 ti37 .nil .nil) (.node 39 ti39 .nil .nil)) (.node 42 ti42 (.node 41 ti41 .nil .nil) (.node 43 ti43 .nil .nil))) (.node 50 ti50 (.node 48 ti48 (.node 46 ti46 .nil .nil) (.node 49 ti49 .nil .nil)) (.node 52 ti52 (.node 51 ti51 .nil .nil) (.node 53 ti53 .nil .nil)))) (.node 66 ti66 (.node 59 ti59 (.node 57 ti57 (.node 56 ti56 .nil .nil) (.node 58 ti58 .nil .nil)) (.node 61 ti61 (.node 60 ti60 .nil .nil) (.node 65 ti65 .nil .nil))) (.node 72 ti72 (.node 70 ti70 (.node 69 ti69 .nil .nil) (.node 71 ti71 .nil .nil)) (.node 74 ti74 (.node 73 ti73 .nil .nil) .nil)))))

theorem zero_of {P : Program} {t : TypeId} {j : TypeInfo} (h : (P.info? t).map (·.zero) = some (some (.int .u8 0))) (hj : P.info? t = some j) : j.zero = some (.int .u8 0) := by rw [hj] at h; simpa using h
theorem tok1 : TIok Try.prog tt 1 ti1 := fun _ => ⟨by kernel_rfl, by kernel_rfl, .inl rfl, (fun y h => by cases h), .inr rfl, (fun h => by cases h), by kernel_rfl, rfl, (fun h => by cases h), (fun h => by cases h), (fun h => by cases h)⟩
theorem tok2 : TIok Try.prog tt 2 ti2 := fun _ => ⟨by kernel_rfl, by kernel_rfl, .inr (by kernel_rfl), (fun y h => by cases h; rfl), .inr rfl, (fun h => by cases h), by kernel_rfl, rfl, (fun h => by cases h), (fun h => by cases h), (fun h => by cases h)⟩
theorem tok3 : TIok Try.prog tt 3 ti3 := fun _ => ⟨by kernel_rfl, by kernel_rfl, .inr (by kernel_rfl), (fun y h => by cases h; rfl), .inr rfl, (fun h => by cases h), by kernel_rfl, rfl, (fun h => by cases h), (fun h => by cases h), (fun h => by cases h)⟩
theorem tok4 : TIok Try.prog tt 4 ti4 := fun _ => ⟨by kernel_rfl, by kernel_rfl, .inr (by kernel_rfl), (fun y h => by cases h; rfl), .inr rfl, (fun h => by cases h), by kernel_rfl, rfl, (fun h => by cases h), (fun h => by cases h), (fun h => by cases h)⟩
theorem tok5 : TIok Try.prog tt 5 ti5 := fun _ => ⟨by kernel_rfl, by kernel_rfl, .inr (by kernel_rfl), (fun y h => by cases h; rfl), .inr rfl, (fun h => by cases h), by kernel_rfl, rfl, (fun _ => rfl), (fun h => by cases h), (fun _ j hj => zero_of (by kernel_rfl) hj)⟩
theorem tok7 : TIok Try.prog tt 7 ti7 := fun _ => ⟨by kernel_rfl, by kernel_rfl, .inl rfl, (fun y h => by cases h), .inl rfl, (fun h => by cases h), by kernel_rfl, rfl, (fun h => by cases h), (fun h => by cases h), (fun h => by cases h)⟩
theorem tok8 : TIok Try.prog tt 8 ti8 := fun _ => ⟨by kernel_rfl, by kernel_rfl, .inl rfl, (fun y h => by cases h), .inl rfl, (fun h => by cases h), by kernel_rfl, rfl, (fun h => by cases h), (fun h => by cases h), (fun h => by cases h)⟩
theorem tok9 : TIok Try.prog tt 9 ti9 := fun _ => ⟨by kernel_rfl, by kernel_rfl, .inr (by kernel_rfl), (fun y h => by cases h; rfl), .inr rfl, (fun h => by cases h), by kernel_rfl, rfl, (fun h => by cases h), (fun h => by cases h), (fun h => by cases h)⟩
theorem tok10 : TIok Try.prog tt 10 ti10 := fun _ => ⟨by kernel_rfl, by kernel_rfl, .inr (by kernel_rfl), (fun y h => by cases h; rfl), .inr rfl, (fun h => by cases h), by kernel_rfl, rfl, (fun h => by cases h), (fun h => by cases h), (fun h => by cases h)⟩
theorem tok11 : TIok Try.prog tt 11 ti11 := fun _ => ⟨by kernel_rfl, by kernel_rfl, .inr (by kernel_rfl), (fun y h => by cases h; rfl), .inr rfl, (fun h => by cases h), by kernel_rfl, rfl, (fun h => by cases h), (fun h => by cases h), (fun h => by cases h)⟩
theorem tok12 : TIok Try.prog tt 12 ti12 := fun _ => ⟨by kernel_rfl, by kernel_rfl, .inr (by kernel_rfl), (fun y h => by cases h; rfl), .inr rfl, (fun h => by cases h), by kernel_rfl, rfl, (fun h => by cases h), (fun h => by cases h), (fun h => by cases h)⟩
theorem tok13 : TIok Try.prog tt 13 ti13 := fun _ => ⟨by kernel_rfl, by kernel_rfl, .inr (by kernel_rfl), (fun y h => by cases h; rfl), .inl rfl, (fun h => by cases h), by kernel_rfl, rfl, (fun h => by cases h), (fun h => by cases h), (fun h => by cases h)⟩
theorem tok14 : TIok Try.prog tt 14 ti14 := fun _ => ⟨by kernel_rfl, by kernel_rfl, .inr (by kernel_rfl), (fun y h => by cases h; rfl), .inl rfl, (fun h => by cases h), by kernel_rfl, rfl, (fun h => by cases h), (fun h => by cases h), (fun h => by cases h)⟩
theorem tok15 : TIok Try.prog tt 15 ti15 := fun _ => ⟨by kernel_rfl, by kernel_rfl, .inl rfl, (fun y h => by cases h), .inr rfl, (fun h => by cases h), by kernel_rfl, rfl, (fun h => by cases h), (fun h => by cases h), (fun h => by cases h)⟩
theorem tok16 : TIok Try.prog tt 16 ti16 := fun _ => ⟨by kernel_rfl, by kernel_rfl, .inl rfl, (fun y h => by cases h), .inr rfl, (fun h => by cases h), by kernel_rfl, rfl, (fun h => by cases h), (fun h => by cases h), (fun h => by cases h)⟩
theorem tok17 : TIok Try.prog tt 17 ti17 := fun _ => ⟨by kernel_rfl, by kernel_rfl, .inl rfl, (fun y h => by cases h), .inr rfl, (fun h => by cases h), by kernel_rfl, rfl, (fun h => by cases h), (fun h => by cases h), (fun h => by cases h)⟩
theorem tok18 : TIok Try.prog tt 18 ti18 := fun _ => ⟨by kernel_rfl, by kernel_rfl, .inl rfl, (fun y h => by cases h), .inl rfl, (fun h => by cases h), by kernel_rfl, rfl, (fun h => by cases h), (fun h => by cases h), (fun h => by cases h)⟩
theorem tok19 : TIok Try.prog tt 19 ti19 := fun _ => ⟨by kernel_rfl, by kernel_rfl, .inl rfl, (fun y h => by cases h), .inl rfl, (fun h => by cases h), by kernel_rfl, rfl, (fun h => by cases h), (fun h => by cases h), (fun h => by cases h)⟩
theorem tok21 : TIok Try.prog tt 21 ti21 := fun _ => ⟨by kernel_rfl, by kernel_rfl, .inr (by kernel_rfl), (fun y h => by cases h; rfl), .inr rfl, (fun h => by cases h), by kernel_rfl, rfl, (fun h => by cases h), (fun h => by cases h), (fun h => by cases h)⟩
theorem tok22 : TIok Try.prog tt 22 ti22 := fun _ => ⟨by kernel_rfl, by kernel_rfl, .inr (by kernel_rfl), (fun y h => by cases h; rfl), .inr rfl, (fun h => by cases h), by kernel_rfl, rfl, (fun h => by cases h), (fun h => by cases h), (fun h => by cases h)⟩
theorem tok23 : TIok Try.prog tt 23 ti23 := fun _ => ⟨by kernel_rfl, by kernel_rfl, .inl rfl, (fun y h => by cases h), .inr rfl, (fun h => by cases h), by kernel_rfl, rfl, (fun h => by cases h), (fun h => by cases h), (fun h => by cases h)⟩
theorem tok24 : TIok Try.prog tt 24 ti24 := fun _ => ⟨by kernel_rfl, by kernel_rfl, .inl rfl, (fun y h => by cases h), .inr rfl, (fun h => by cases h), by kernel_rfl, rfl, (fun h => by cases h), (fun h => by cases h), (fun h => by cases h)⟩
theorem tok25 : TIok Try.prog tt 25 ti25 := fun _ => ⟨by kernel_rfl, by kernel_rfl, .inr (by kernel_rfl), (fun y h => by cases h; rfl), .inr rfl, (fun h => by cases h), by kernel_rfl, rfl, (fun h => by cases h), (fun h => by cases h), (fun h => by cases h)⟩
theorem tok27 : TIok Try.prog tt 27 ti27 := fun _ => ⟨by kernel_rfl, by kernel_rfl, .inl rfl, (fun y h => by cases h), .inr rfl, (fun h => by cases h), by kernel_rfl, rfl, (fun h => by cases h), (fun h => by cases h), (fun h => by cases h)⟩
theorem tok29 : TIok Try.prog tt 29 ti29 := fun _ => ⟨by kernel_rfl, by kernel_rfl, .inl rfl, (fun y h => by cases h), .inr rfl, (fun h => by cases h), by kernel_rfl, rfl, (fun h => by cases h), (fun h => by cases h), (fun h => by cases h)⟩
theorem tok30 : TIok Try.prog tt 30 ti30 := fun _ => ⟨by kernel_rfl, by kernel_rfl, .inr (by kernel_rfl), (fun y h => by cases h; rfl), .inl rfl, (fun h => by cases h), by kernel_rfl, rfl, (fun h => by cases h), (fun h => by cases h), (fun h => by cases h)⟩
theorem tok31 : TIok Try.prog tt 31 ti31 := fun _ => ⟨by kernel_rfl, by kernel_rfl, .inr (by kernel_rfl), (fun y h => by cases h; rfl), .inl rfl, (fun _ => ⟨by kernel_rfl, by kernel_rfl, by kernel_rfl⟩), by kernel_rfl, rfl, (fun h => by cases h), (fun h => by cases h), (fun h => by cases h)⟩
theorem tok32 : TIok Try.prog tt 32 ti32 := fun _ => ⟨by kernel_rfl, by kernel_rfl, .inl rfl, (fun y h => by cases h), .inr rfl, (fun h => by cases h), by kernel_rfl, rfl, (fun h => by cases h), (fun h => by cases h), (fun h => by cases h)⟩
theorem tok33 : TIok Try.prog tt 33 ti33 := fun _ => ⟨by kernel_rfl, by kernel_rfl, .inl rfl, (fun y h => by cases h), .inr rfl, (fun h => by cases h), by kernel_rfl, rfl, (fun h => by cases h), (fun h => by cases h), (fun h => by cases h)⟩
theorem tok34 : TIok Try.prog tt 34 ti34 := fun _ => ⟨by kernel_rfl, by kernel_rfl, .inl rfl, (fun y h => by cases h), .inr rfl, (fun h => by cases h), by kernel_rfl, rfl, (fun h => by cases h), (fun h => by cases h), (fun h => by cases h)⟩
theorem tok35 : TIok Try.prog tt 35 ti35 := fun _ => ⟨by kernel_rfl, by kernel_rfl, .inl rfl, (fun y h => by cases h), .inr rfl, (fun h => by cases h), by kernel_rfl, rfl, (fun h => by cases h), (fun h => by cases h), (fun h => by cases h)⟩
theorem tok36 : TIok Try.prog tt 36 ti36 := fun _ => ⟨by kernel_rfl, by kernel_rfl, .inl rfl, (fun y h => by cases h), .inr rfl, (fun h => by cases h), by kernel_rfl, rfl, (fun h => by cases h), (fun h => by cases h), (fun h => by cases h)⟩
theorem tok37 : TIok Try.prog tt 37 ti37 := fun _ => ⟨by kernel_rfl, by kernel_rfl, .inl rfl, (fun y h => by cases h), .inr rfl, (fun h => by cases h), by kernel_rfl, rfl, (fun h => by cases h), (fun h => by cases h), (fun h => by cases h)⟩
theorem tok38 : TIok Try.prog tt 38 ti38 := fun _ => ⟨by kernel_rfl, by kernel_rfl, .inl rfl, (fun y h => by cases h), .inr rfl, (fun h => by cases h), by kernel_rfl, rfl, (fun h => by cases h), (fun h => by cases h), (fun h => by cases h)⟩
theorem tok39 : TIok Try.prog tt 39 ti39 := fun _ => ⟨by kernel_rfl, by kernel_rfl, .inr (by kernel_rfl), (fun y h => by cases h; rfl), .inr rfl, (fun h => by cases h), by kernel_rfl, rfl, (fun h => by cases h), (fun h => by cases h), (fun h => by cases h)⟩
theorem tok40 : TIok Try.prog tt 40 ti40 := fun _ => ⟨by kernel_rfl, by kernel_rfl, .inl rfl, (fun y h => by cases h), .inr rfl, (fun h => by cases h), by kernel_rfl, rfl, (fun h => by cases h), (fun h => by cases h), (fun h => by cases h)⟩
theorem tok41 : TIok Try.prog tt 41 ti41 := fun _ => ⟨by kernel_rfl, by kernel_rfl, .inl rfl, (fun y h => by cases h), .inr rfl, (fun h => by cases h), by kernel_rfl, rfl, (fun h => by cases h), (fun h => by cases h), (fun h => by cases h)⟩
theorem tok42 : TIok Try.prog tt 42 ti42 := fun _ => ⟨by kernel_rfl, by kernel_rfl, .inl rfl, (fun y h => by cases h), .inr rfl, (fun h => by cases h), by kernel_rfl, rfl, (fun h => by cases h), (fun h => by cases h), (fun h => by cases h)⟩
theorem tok43 : TIok Try.prog tt 43 ti43 := fun _ => ⟨by kernel_rfl, by kernel_rfl, .inl rfl, (fun y h => by cases h), .inr rfl, (fun h => by cases h), by kernel_rfl, rfl, (fun h => by cases h), (fun h => by cases h), (fun h => by cases h)⟩
theorem tok45 : TIok Try.prog tt 45 ti45 := fun _ => ⟨by kernel_rfl, by kernel_rfl, .inl rfl, (fun y h => by cases h), .inr rfl, (fun h => by cases h), by kernel_rfl, rfl, (fun h => by cases h), (fun h => by cases h), (fun h => by cases h)⟩
theorem tok46 : TIok Try.prog tt 46 ti46 := fun _ => ⟨by kernel_rfl, by kernel_rfl, .inl rfl, (fun y h => by cases h), .inr rfl, (fun h => by cases h), by kernel_rfl, rfl, (fun h => by cases h), (fun h => by cases h), (fun h => by cases h)⟩
theorem tok48 : TIok Try.prog tt 48 ti48 := fun _ => ⟨by kernel_rfl, by kernel_rfl, .inl rfl, (fun y h => by cases h), .inr rfl, (fun h => by cases h), by kernel_rfl, rfl, (fun h => by cases h), (fun h => by cases h), (fun h => by cases h)⟩
theorem tok49 : TIok Try.prog tt 49 ti49 := fun _ => ⟨by kernel_rfl, by kernel_rfl, .inl rfl, (fun y h => by cases h), .inr rfl, (fun h => by cases h), by kernel_rfl, rfl, (fun h => by cases h), (fun h => by cases h), (fun h => by cases h)⟩
theorem tok50 : TIok Try.prog tt 50 ti50 := fun _ => ⟨by kernel_rfl, by kernel_rfl, .inl rfl, (fun y h => by cases h), .inr rfl, (fun h => by cases h), by kernel_rfl, rfl, (fun h => by cases h), (fun h => by cases h), (fun h => by cases h)⟩
theorem tok51 : TIok Try.prog tt 51 ti51 := fun _ => ⟨by kernel_rfl, by kernel_rfl, .inl rfl, (fun y h => by cases h), .inr rfl, (fun h => by cases h), by kernel_rfl, rfl, (fun h => by cases h), (fun h => by cases h), (fun h => by cases h)⟩
theorem tok52 : TIok Try.prog tt 52 ti52 := fun _ => ⟨by kernel_rfl, by kernel_rfl, .inl rfl, (fun y h => by cases h), .inr rfl, (fun h => by cases h), by kernel_rfl, rfl, (fun h => by cases h), (fun h => by cases h), (fun h => by cases h)⟩
theorem tok53 : TIok Try.prog tt 53 ti53 := fun _ => ⟨by kernel_rfl, by kernel_rfl, .inl rfl, (fun y h => by cases h), .inr rfl, (fun h => by cases h), by kernel_rfl, rfl, (fun h => by cases h), (fun h => by cases h), (fun h => by cases h)⟩
theorem tok54 : TIok Try.prog tt 54 ti54 := fun _ => ⟨by kernel_rfl, by kernel_rfl, .inl rfl, (fun y h => by cases h), .inr rfl, (fun h => by cases h), by kernel_rfl, rfl, (fun h => by cases h), (fun h => by cases h), (fun h => by cases h)⟩
theorem tok56 : TIok Try.prog tt 56 ti56 := fun _ => ⟨by kernel_rfl, by kernel_rfl, .inl rfl, (fun y h => by cases h), .inr rfl, (fun h => by cases h), by kernel_rfl, rfl, (fun h => by cases h), (fun h => by cases h), (fun h => by cases h)⟩
theorem tok57 : TIok Try.prog tt 57 ti57 := fun _ => ⟨by kernel_rfl, by kernel_rfl, .inl rfl, (fun y h => by cases h), .inr rfl, (fun h => by cases h), by kernel_rfl, rfl, (fun h => by cases h), (fun h => by cases h), (fun h => by cases h)⟩
theorem tok58 : TIok Try.prog tt 58 ti58 := fun _ => ⟨by kernel_rfl, by kernel_rfl, .inl rfl, (fun y h => by cases h), .inr rfl, (fun h => by cases h), by kernel_rfl, rfl, (fun h => by cases h), (fun h => by cases h), (fun h => by cases h)⟩
theorem tok59 : TIok Try.prog tt 59 ti59 := fun _ => ⟨by kernel_rfl, by kernel_rfl, .inl rfl, (fun y h => by cases h), .inr rfl, (fun h => by cases h), by kernel_rfl, rfl, (fun h => by cases h), (fun h => by cases h), (fun h => by cases h)⟩
theorem tok60 : TIok Try.prog tt 60 ti60 := fun _ => ⟨by kernel_rfl, by kernel_rfl, .inl rfl, (fun y h => by cases h), .inl rfl, (fun h => by cases h), by kernel_rfl, rfl, (fun h => by cases h), (fun h => by cases h), (fun h => by cases h)⟩
theorem tok61 : TIok Try.prog tt 61 ti61 := fun _ => ⟨by kernel_rfl, by kernel_rfl, .inl rfl, (fun y h => by cases h), .inl rfl, (fun h => by cases h), by kernel_rfl, rfl, (fun h => by cases h), (fun h => by cases h), (fun h => by cases h)⟩
theorem tok65 : TIok Try.prog tt 65 ti65 := fun _ => ⟨by kernel_rfl, by kernel_rfl, .inl rfl, (fun y h => by cases h), .inr rfl, (fun h => by cases h), by kernel_rfl, rfl, (fun h => by cases h), (fun h => by cases h), (fun h => by cases h)⟩
theorem tok66 : TIok Try.prog tt 66 ti66 := fun _ => ⟨by kernel_rfl, by kernel_rfl, .inr (by kernel_rfl), (fun y h => by cases h; rfl), .inr rfl, (fun h => by cases h), by kernel_rfl, rfl, (fun h => by cases h), (fun h => by cases h), (fun h => by cases h)⟩
theorem tok69 : TIok Try.prog tt 69 ti69 := fun _ => ⟨by kernel_rfl, by kernel_rfl, .inl rfl, (fun y h => by cases h), .inr rfl, (fun h => by cases h), by kernel_rfl, rfl, (fun h => by cases h), (fun h => by cases h), (fun h => by cases h)⟩
theorem tok70 : TIok Try.prog tt 70 ti70 := fun _ => ⟨by kernel_rfl, by kernel_rfl, .inl rfl, (fun y h => by cases h), .inr rfl, (fun h => by cases h), by kernel_rfl, rfl, (fun h => by cases h), (fun h => by cases h), (fun h => by cases h)⟩
theorem tok71 : TIok Try.prog tt 71 ti71 := fun _ => ⟨by kernel_rfl, by kernel_rfl, .inr (by kernel_rfl), (fun y h => by cases h; rfl), .inr rfl, (fun h => by cases h), by kernel_rfl, rfl, (fun h => by cases h), (fun h => by cases h), (fun h => by cases h)⟩
theorem tok72 : TIok Try.prog tt 72 ti72 := fun _ => ⟨by kernel_rfl, by kernel_rfl, .inr (by kernel_rfl), (fun y h => by cases h; rfl), .inr rfl, (fun h => by cases h), by kernel_rfl, rfl, (fun h => by cases h), (fun h => by cases h), (fun h => by cases h)⟩
theorem tok73 : TIok Try.prog tt 73 ti73 := fun _ => ⟨by kernel_rfl, by kernel_rfl, .inl rfl, (fun y h => by cases h), .inl rfl, (fun h => by cases h), by kernel_rfl, rfl, (fun h => by cases h), (fun h => by cases h), (fun h => by cases h)⟩
theorem tok74 : TIok Try.prog tt 74 ti74 := fun _ => ⟨by kernel_rfl, by kernel_rfl, .inl rfl, (fun y h => by cases h), .inl rfl, (fun h => by cases h), by kernel_rfl, rfl, (fun h => by cases h), (fun h => by cases h), (fun h => by cases h)⟩
theorem tok : TOk Try.prog tt := TOk.of_all (⟨tok36, ⟨tok17, ⟨tok9, ⟨tok4, ⟨tok2, ⟨tok1, trivial, trivial⟩, ⟨tok3, trivial, trivial⟩⟩, ⟨tok7, ⟨tok5, trivial, trivial⟩, ⟨tok8, trivial, trivial⟩⟩⟩, ⟨tok13, ⟨tok11, ⟨tok10, trivial, trivial⟩, ⟨tok12, trivial, trivial⟩⟩, ⟨tok15, ⟨tok14, trivial, trivial⟩, ⟨tok16, trivial, trivial⟩⟩⟩⟩, ⟨tok27, ⟨tok22, ⟨tok19, ⟨tok18, trivial, trivial⟩, ⟨tok21, trivial, trivial⟩⟩, ⟨tok24, ⟨tok23, trivial, trivial⟩, ⟨tok25, trivial, trivial⟩⟩⟩, ⟨tok32, ⟨tok30, ⟨tok29, trivial, trivial⟩, ⟨tok31, trivial, trivial⟩⟩, ⟨tok34, ⟨tok33, trivial, trivial⟩, ⟨tok35, trivial, trivial⟩⟩⟩⟩⟩, ⟨tok54, ⟨tok45, ⟨tok40, ⟨tok38, ⟨tok37, trivial, trivial⟩, ⟨tok39, trivial, trivial⟩⟩, ⟨tok42, ⟨tok41, trivial, trivial⟩, ⟨tok43, trivial, trivial⟩⟩⟩, ⟨tok50, ⟨tok48, ⟨tok46, trivial, trivial⟩, ⟨tok49, trivial, trivial⟩⟩, ⟨tok52, ⟨tok51, trivial, trivial⟩, ⟨tok53, trivial, trivial⟩⟩⟩⟩, ⟨tok66, ⟨tok59, ⟨tok57, ⟨tok56, trivial, trivial⟩, ⟨tok58, trivial, trivial⟩⟩, ⟨tok61, ⟨tok60, trivial, trivial⟩, ⟨tok65, trivial, trivial⟩⟩⟩, ⟨tok72, ⟨tok70, ⟨tok69, trivial, trivial⟩, ⟨tok71, trivial, trivial⟩⟩, ⟨tok74, ⟨tok73, trivial, trivial⟩, trivial⟩⟩⟩⟩⟩)

def noGorB (P : Program) : Bool := P.funcs.toList.all fun fn => fn.body.isNone || !(fn.name == "runtime.NumGoroutine")
theorem noGor_of {P : Program} (h : noGorB P = true) : NoGor P := fun f fn c hf hb => by
  have h1 := List.all_eq_true.1 h fn (by have := Array.mem_of_getElem? hf; simpa using this)
  simpa [hb] using h1
theorem noGor : NoGor Try.prog := noGor_of (by kernel_rfl)
theorem mixed : Try.prog.follows .mixedOrders = true := by kernel_rfl
noncomputable def sg0 (g : FuncId) : Option Sum := bif Nat.beq g 38 then some sumIB else none
theorem sg0_ok : ∀ g s, sg0 g = some s → SumOk Try.prog g s := fun g s h => by
  unfold sg0 at h
  rw [cond_eq_ite] at h
  split at h
  · rename_i hg
    obtain rfl : g = 38 := Nat.eq_of_beq_eq_true hg
    cases h
    exact (sumIB_ok Try.func38 (by kernel_rfl) (by kernel_rfl) (by kernel_rfl) (by kernel_rfl))
  cases h
theorem chk_ok (g : FuncId) (h : isChk g = true) : CheckOk Try.prog g := by simp [isChk, chkF] at h
/-- the plain machine, closed -/
noncomputable def env0 : Env := { P := Try.prog, T := tt, cl := true, kp := fun _ _ => none, sg := sg0, lp := fun _ _ => none, bf := isChk }
theorem rf_ok : ∀ E, LoopsOk Try.prog E → RfOk E := fun E h f k asg bd hr => rfAt_ok h f k asg bd hr
theorem env0_ok : EnvOk env0 := ⟨tok, mixed, noGor, sg0_ok, fun f fn c _ _ => loopsOk_none (fun _ => rfl) (fun _ => rfl) c, rf_ok _ fun f fn c _ _ => loopsOk_none (fun _ => rfl) (fun _ => rfl) c, chk_ok⟩
end Go.Proofs.Ytfeklnaeolangaa
