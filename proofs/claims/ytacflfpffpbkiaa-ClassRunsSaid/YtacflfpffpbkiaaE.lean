import Derived.Test.YtacflfpffpbkiaaProg
import Derived.Test.YtacflfpffpbkiaaBd
import Derived.Shelf.Strings.Builder1
namespace Go.Proofs.Ytacflfpffpbkiaa
open Go.RowKit
set_option linter.unusedVariables false
set_option maxRecDepth 100000

def ti1 : TI := ⟨true, .fn, 1, 8, none, [.nilfn], false, false⟩
def ti2 : TI := ⟨true, (.int .i64), 1, 8, some (.int .i64), [.val (.int .i64) 0], false, false⟩
def ti3 : TI := ⟨true, (.int .i64), 1, 8, some (.int .i64), [.val (.int .i64) 0], false, false⟩
def ti4 : TI := ⟨true, .bool, 1, 1, some .bool, [.val .bool false], false, false⟩
def ti5 : TI := ⟨true, (.int .u8), 1, 1, some (.int .u8), [.val (.int .u8) 0], false, false⟩
def ti7 : TI := ⟨true, (.struct [(0, 2), (1, 3), (2, 4), (3, 6)]), 4, 24, none, [.val (.int .i64) 0, .val (.int .i64) 0, .val .bool false, .val (.int .u8) 0], false, false⟩
def ti8 : TI := ⟨true, (.struct [(0, 2), (1, 3), (2, 4), (3, 6)]), 4, 24, none, [.val (.int .i64) 0, .val (.int .i64) 0, .val .bool false, .val (.int .u8) 0], false, false⟩
def ti9 : TI := ⟨true, .str, 1, 16, some .str, [.val .str []], false, false⟩
def ti10 : TI := ⟨true, .str, 1, 16, some .str, [.val .str []], false, false⟩
def ti11 : TI := ⟨true, .str, 1, 16, some .str, [.val .str []], false, false⟩
def ti12 : TI := ⟨true, (.int .u64), 1, 8, some (.int .u64), [.val (.int .u64) 0], false, false⟩
def ti13 : TI := ⟨true, (.struct [(0, 9), (1, 12)]), 2, 24, some (.pair .str (.pair (.int .u64) .unit)), [.val .str [], .val (.int .u64) 0], false, false⟩
def ti14 : TI := ⟨true, (.struct [(0, 9), (1, 12)]), 2, 24, some (.pair .str (.pair (.int .u64) .unit)), [.val .str [], .val (.int .u64) 0], false, false⟩
def ti15 : TI := ⟨true, (.ptr 40), 1, 8, none, [.nilp], false, false⟩
def ti16 : TI := ⟨true, (.ptr 43), 1, 8, none, [.nilp], false, false⟩
def ti17 : TI := ⟨true, (.ptr 53), 1, 8, none, [.nilp], false, false⟩
def ti18 : TI := ⟨true, (.struct [(0, 17)]), 1, 8, none, [.nilp], false, false⟩
def ti19 : TI := ⟨true, (.struct [(0, 17)]), 1, 8, none, [.nilp], false, false⟩
def ti21 : TI := ⟨true, (.int .i32), 1, 4, some (.int .i32), [.val (.int .i32) 0], false, false⟩
def ti22 : TI := ⟨true, .fn, 1, 8, none, [.nilfn], false, false⟩
def ti23 : TI := ⟨true, (.slice 26), 1, 24, some (.list (.pair (.int .i64) (.pair (.int .i64) (.pair (.int .i64) .unit)))), [.nils], false, false⟩
def ti24 : TI := ⟨true, .fn, 1, 8, none, [.nilfn], false, false⟩
def ti25 : TI := ⟨true, (.struct [(0, 3), (1, 3), (2, 3)]), 3, 24, some (.pair (.int .i64) (.pair (.int .i64) (.pair (.int .i64) .unit))), [.val (.int .i64) 0, .val (.int .i64) 0, .val (.int .i64) 0], false, false⟩
def ti26 : TI := ⟨true, (.struct [(0, 3), (1, 3), (2, 3)]), 3, 24, some (.pair (.int .i64) (.pair (.int .i64) (.pair (.int .i64) .unit))), [.val (.int .i64) 0, .val (.int .i64) 0, .val (.int .i64) 0], true, false⟩
def ti27 : TI := ⟨true, .fn, 1, 8, none, [.nilfn], false, false⟩
def ti28 : TI := ⟨true, .fn, 1, 8, none, [.nilfn], false, false⟩
def ti29 : TI := ⟨true, .fn, 1, 8, none, [.nilfn], false, false⟩
def ti30 : TI := ⟨true, .fn, 1, 8, none, [.nilfn], false, false⟩
def ti31 : TI := ⟨true, .fn, 1, 8, none, [.nilfn], false, false⟩
def ti32 : TI := ⟨true, .fn, 1, 8, none, [.nilfn], false, false⟩
def ti33 : TI := ⟨true, .fn, 1, 8, none, [.nilfn], false, false⟩
def ti34 : TI := ⟨true, .fn, 1, 8, none, [.nilfn], false, false⟩
def ti35 : TI := ⟨true, .fn, 1, 8, none, [.nilfn], false, false⟩
def ti36 : TI := ⟨true, .fn, 1, 8, none, [.nilfn], false, false⟩
def ti37 : TI := ⟨true, .fn, 1, 8, none, [.nilfn], false, false⟩
def ti38 : TI := ⟨true, .fn, 1, 8, none, [.nilfn], false, false⟩
def ti39 : TI := ⟨true, (.struct [(0, 17), (1, 17), (2, 17), (3, 9)]), 4, 40, none, [.nilp, .nilp, .nilp, .val .str []], false, false⟩
def ti40 : TI := ⟨true, (.struct [(0, 17), (1, 17), (2, 17), (3, 9)]), 4, 40, none, [.nilp, .nilp, .nilp, .val .str []], false, false⟩
def ti44 : TI := ⟨true, .fn, 1, 8, none, [.nilfn], false, false⟩
def ti45 : TI := ⟨true, (.int .u32), 1, 4, some (.int .u32), [.val (.int .u32) 0], false, false⟩
def ti48 : TI := ⟨true, .fn, 1, 8, none, [.nilfn], false, false⟩
def ti49 : TI := ⟨true, (.ptr 5), 1, 8, none, [.nilp], false, false⟩
def ti50 : TI := ⟨true, (.int .i32), 1, 4, some (.int .i32), [.val (.int .i32) 0], false, false⟩
def ti51 : TI := ⟨true, (.int .i32), 1, 4, some (.int .i32), [.val (.int .i32) 0], false, false⟩
def ti52 : TI := ⟨true, (.struct [(0, 12), (1, 12), (2, 45), (3, 46), (4, 5), (5, 5), (6, 47), (7, 48), (8, 49), (9, 50), (10, 51)]), 11, 48, none, [.val (.int .u64) 0, .val (.int .u64) 0, .val (.int .u32) 0, .val (.int .u8) 0, .val (.int .u8) 0, .val (.int .u8) 0, .val (.int .u8) 0, .nilfn, .nilp, .val (.int .i32) 0, .val (.int .i32) 0], false, false⟩
def ti53 : TI := ⟨true, (.struct [(0, 12), (1, 12), (2, 45), (3, 46), (4, 5), (5, 5), (6, 47), (7, 48), (8, 49), (9, 50), (10, 51)]), 11, 48, none, [.val (.int .u64) 0, .val (.int .u64) 0, .val (.int .u32) 0, .val (.int .u8) 0, .val (.int .u8) 0, .val (.int .u8) 0, .val (.int .u8) 0, .nilfn, .nilp, .val (.int .i32) 0, .val (.int .i32) 0], false, false⟩
def tt : TT := (.node 26 ti26 (.node 13 ti13 (.node 7 ti7 (.node 3 ti3 (.node 2 ti2 (.node 1 ti1 .nil .nil) .nil) (.node 5 ti5 (.node 4 ti4 .nil .nil) .nil)) (.node 10 ti10 (.node 9 ti9 (.node 8 ti8 .nil .nil) .nil) (.node 12 ti12 (.node 11 ti11 .nil .nil) .nil))) (.node 19 ti19 (.node 16 ti16 (.node 15 ti15 (.node 14 ti14 .nil .nil) .nil) (.node 18 ti18 (.node 17 ti17 .nil .nil) .nil)) (.node 23 ti23 (.node 22 ti22 (.node 21 ti21 .nil .nil) .nil) (.node 25 ti25 (.node 24 ti24 .nil .nil) .nil)))) (.node 38 ti38 (.node 32 ti32 (.node 29 ti29 (.node 28 ti28 (.node 27 ti27 .nil .nil) .nil) (.node 31 ti31 (.node 30 ti30 .nil .nil) .nil)) (.node 35 ti35 (.node 34 ti34 (.node 33 ti33 .nil .nil) .nil) (.node 37 ti37 (.node 36 ti36 .nil .nil) .nil))) (.node 49 ti49 (.node 44 ti44 (.node 40 ti40 (.node 39 ti39 .nil .nil) .nil) (.node 48 ti48 (.node 45 ti45 .nil .nil) .nil)) (.node 52 ti52 (.node 51 ti51 (.node 50 ti50 .nil .nil) .nil) (.node 53 ti53 .nil .nil)))))

theorem zero_of {P : Program} {t : TypeId} {j : TypeInfo} (h : (P.info? t).map (·.zero) = some (some (.int .u8 0))) (hj : P.info? t = some j) : j.zero = some (.int .u8 0) := by rw [hj] at h; simpa using h
theorem tok1 : TIok Try.prog tt 1 ti1 := fun _ => ⟨by kernel_rfl, by kernel_rfl, .inl rfl, (fun y h => by cases h), .inr rfl, (fun h => by cases h), by kernel_rfl, rfl, (fun h => by cases h), (fun h => by cases h), (fun h => by cases h)⟩
theorem tok2 : TIok Try.prog tt 2 ti2 := fun _ => ⟨by kernel_rfl, by kernel_rfl, .inr (by kernel_rfl), (fun y h => by cases h; rfl), .inr rfl, (fun h => by cases h), by kernel_rfl, rfl, (fun h => by cases h), (fun h => by cases h), (fun h => by cases h)⟩
theorem tok3 : TIok Try.prog tt 3 ti3 := fun _ => ⟨by kernel_rfl, by kernel_rfl, .inr (by kernel_rfl), (fun y h => by cases h; rfl), .inr rfl, (fun h => by cases h), by kernel_rfl, rfl, (fun h => by cases h), (fun h => by cases h), (fun h => by cases h)⟩
theorem tok4 : TIok Try.prog tt 4 ti4 := fun _ => ⟨by kernel_rfl, by kernel_rfl, .inr (by kernel_rfl), (fun y h => by cases h; rfl), .inr rfl, (fun h => by cases h), by kernel_rfl, rfl, (fun h => by cases h), (fun h => by cases h), (fun h => by cases h)⟩
theorem tok5 : TIok Try.prog tt 5 ti5 := fun _ => ⟨by kernel_rfl, by kernel_rfl, .inr (by kernel_rfl), (fun y h => by cases h; rfl), .inr rfl, (fun h => by cases h), by kernel_rfl, rfl, (fun _ => rfl), (fun h => by cases h), (fun _ j hj => zero_of (by kernel_rfl) hj)⟩
theorem tok7 : TIok Try.prog tt 7 ti7 := fun _ => ⟨by kernel_rfl, by kernel_rfl, .inl rfl, (fun y h => by cases h), .inl rfl, (fun h => by cases h), by kernel_rfl, rfl, (fun h => by cases h), (fun h => by cases h), (fun h => by cases h)⟩
theorem tok8 : TIok Try.prog tt 8 ti8 := fun _ => ⟨by kernel_rfl, by kernel_rfl, .inl rfl, (fun y h => by cases h), .inl rfl, (fun h => by cases h), by kernel_rfl, rfl, (fun h => by cases h), (fun h => by cases h), (fun h => by cases h)⟩
theorem tok9 : TIok Try.prog tt 9 ti9 := fun _ => ⟨by kernel_rfl, by kernel_rfl, .inr (by kernel_rfl), (fun y h => by cases h; rfl), .inr rfl, (fun h => by cases h), by kernel_rfl, rfl, (fun h => by cases h), (fun h => by cases h), (fun h => by cases h)⟩
theorem tok10 : TIok Try.prog tt 10 ti10 := fun _ => ⟨by kernel_rfl, by kernel_rfl, .inr (by kernel_rfl), (fun y h => by cases h; rfl), .inr rfl, (fun h => by cases h), by kernel_rfl, rfl, (fun h => by cases h), (fun h => by cases h), (fun h => by cases h)⟩
theorem tok11 : TIok Try.prog tt 11 ti11 := fun _ => ⟨by kernel_rfl, by kernel_rfl, .inr (by kernel_rfl), (fun y h => by cases h; rfl), .inr rfl, (fun h => by cases h), by kernel_rfl, rfl, (fun h => by cases h), (fun h => by cases h), (fun h => by cases h)⟩
theorem tok12 : TIok Try.prog tt 12 ti12 := fun _ => ⟨by kernel_rfl, by kernel_rfl, .inr (by kernel_rfl), (fun y h => by cases h; rfl), .inr rfl, (fun h => by cases h), by kernel_rfl, rfl, (fun h => by cases h), (fun h => by cases h), (fun h => by cases h)⟩
theorem tok13 : TIok Try.prog tt 13 ti13 := fun _ => ⟨by kernel_rfl, by kernel_rfl, .inr (by kernel_rfl), (fun y h => by cases h; rfl), .inl rfl, (fun h => by cases h), by kernel_rfl, rfl, (fun h => by cases h), (fun h => by cases h), (fun h => by cases h)⟩
theorem tok14 : TIok Try.prog tt 14 ti14 := fun _ => ⟨by kernel_rfl, by kernel_rfl, .inr (by kernel_rfl), (fun y h => by cases h; rfl), .inl rfl, (fun h => by cases h), by kernel_rfl, rfl, (fun h => by cases h), (fun h => by cases h), (fun h => by cases h)⟩
theorem tok15 : TIok Try.prog tt 15 ti15 := fun _ => ⟨by kernel_rfl, by kernel_rfl, .inl rfl, (fun y h => by cases h), .inr rfl, (fun h => by cases h), by kernel_rfl, rfl, (fun h => by cases h), (fun h => by cases h), (fun h => by cases h)⟩
theorem tok16 : TIok Try.prog tt 16 ti16 := fun _ => ⟨by kernel_rfl, by kernel_rfl, .inl rfl, (fun y h => by cases h), .inr rfl, (fun h => by cases h), by kernel_rfl, rfl, (fun h => by cases h), (fun h => by cases h), (fun h => by cases h)⟩
theorem tok17 : TIok Try.prog tt 17 ti17 := fun _ => ⟨by kernel_rfl, by kernel_rfl, .inl rfl, (fun y h => by cases h), .inr rfl, (fun h => by cases h), by kernel_rfl, rfl, (fun h => by cases h), (fun h => by cases h), (fun h => by cases h)⟩
theorem tok18 : TIok Try.prog tt 18 ti18 := fun _ => ⟨by kernel_rfl, by kernel_rfl, .inl rfl, (fun y h => by cases h), .inl rfl, (fun h => by cases h), by kernel_rfl, rfl, (fun h => by cases h), (fun h => by cases h), (fun h => by cases h)⟩
theorem tok19 : TIok Try.prog tt 19 ti19 := fun _ => ⟨by kernel_rfl, by kernel_rfl, .inl rfl, (fun y h => by cases h), .inl rfl, (fun h => by cases h), by kernel_rfl, rfl, (fun h => by cases h), (fun h => by cases h), (fun h => by cases h)⟩
theorem tok21 : TIok Try.prog tt 21 ti21 := fun _ => ⟨by kernel_rfl, by kernel_rfl, .inr (by kernel_rfl), (fun y h => by cases h; rfl), .inr rfl, (fun h => by cases h), by kernel_rfl, rfl, (fun h => by cases h), (fun h => by cases h), (fun h => by cases h)⟩
theorem tok22 : TIok Try.prog tt 22 ti22 := fun _ => ⟨by kernel_rfl, by kernel_rfl, .inl rfl, (fun y h => by cases h), .inr rfl, (fun h => by cases h), by kernel_rfl, rfl, (fun h => by cases h), (fun h => by cases h), (fun h => by cases h)⟩
theorem tok23 : TIok Try.prog tt 23 ti23 := fun _ => ⟨by kernel_rfl, by kernel_rfl, .inr (by kernel_rfl), (fun y h => by cases h; rfl), .inr rfl, (fun h => by cases h), by kernel_rfl, rfl, (fun h => by cases h), (fun h => by cases h), (fun h => by cases h)⟩
theorem tok24 : TIok Try.prog tt 24 ti24 := fun _ => ⟨by kernel_rfl, by kernel_rfl, .inl rfl, (fun y h => by cases h), .inr rfl, (fun h => by cases h), by kernel_rfl, rfl, (fun h => by cases h), (fun h => by cases h), (fun h => by cases h)⟩
theorem tok25 : TIok Try.prog tt 25 ti25 := fun _ => ⟨by kernel_rfl, by kernel_rfl, .inr (by kernel_rfl), (fun y h => by cases h; rfl), .inl rfl, (fun h => by cases h), by kernel_rfl, rfl, (fun h => by cases h), (fun h => by cases h), (fun h => by cases h)⟩
theorem tok26 : TIok Try.prog tt 26 ti26 := fun _ => ⟨by kernel_rfl, by kernel_rfl, .inr (by kernel_rfl), (fun y h => by cases h; rfl), .inl rfl, (fun _ => ⟨by kernel_rfl, by kernel_rfl, by kernel_rfl⟩), by kernel_rfl, rfl, (fun h => by cases h), (fun h => by cases h), (fun h => by cases h)⟩
theorem tok27 : TIok Try.prog tt 27 ti27 := fun _ => ⟨by kernel_rfl, by kernel_rfl, .inl rfl, (fun y h => by cases h), .inr rfl, (fun h => by cases h), by kernel_rfl, rfl, (fun h => by cases h), (fun h => by cases h), (fun h => by cases h)⟩
theorem tok28 : TIok Try.prog tt 28 ti28 := fun _ => ⟨by kernel_rfl, by kernel_rfl, .inl rfl, (fun y h => by cases h), .inr rfl, (fun h => by cases h), by kernel_rfl, rfl, (fun h => by cases h), (fun h => by cases h), (fun h => by cases h)⟩
theorem tok29 : TIok Try.prog tt 29 ti29 := fun _ => ⟨by kernel_rfl, by kernel_rfl, .inl rfl, (fun y h => by cases h), .inr rfl, (fun h => by cases h), by kernel_rfl, rfl, (fun h => by cases h), (fun h => by cases h), (fun h => by cases h)⟩
theorem tok30 : TIok Try.prog tt 30 ti30 := fun _ => ⟨by kernel_rfl, by kernel_rfl, .inl rfl, (fun y h => by cases h), .inr rfl, (fun h => by cases h), by kernel_rfl, rfl, (fun h => by cases h), (fun h => by cases h), (fun h => by cases h)⟩
theorem tok31 : TIok Try.prog tt 31 ti31 := fun _ => ⟨by kernel_rfl, by kernel_rfl, .inl rfl, (fun y h => by cases h), .inr rfl, (fun h => by cases h), by kernel_rfl, rfl, (fun h => by cases h), (fun h => by cases h), (fun h => by cases h)⟩
theorem tok32 : TIok Try.prog tt 32 ti32 := fun _ => ⟨by kernel_rfl, by kernel_rfl, .inl rfl, (fun y h => by cases h), .inr rfl, (fun h => by cases h), by kernel_rfl, rfl, (fun h => by cases h), (fun h => by cases h), (fun h => by cases h)⟩
theorem tok33 : TIok Try.prog tt 33 ti33 := fun _ => ⟨by kernel_rfl, by kernel_rfl, .inl rfl, (fun y h => by cases h), .inr rfl, (fun h => by cases h), by kernel_rfl, rfl, (fun h => by cases h), (fun h => by cases h), (fun h => by cases h)⟩
theorem tok34 : TIok Try.prog tt 34 ti34 := fun _ => ⟨by kernel_rfl, by kernel_rfl, .inl rfl, (fun y h => by cases h), .inr rfl, (fun h => by cases h), by kernel_rfl, rfl, (fun h => by cases h), (fun h => by cases h), (fun h => by cases h)⟩
theorem tok35 : TIok Try.prog tt 35 ti35 := fun _ => ⟨by kernel_rfl, by kernel_rfl, .inl rfl, (fun y h => by cases h), .inr rfl, (fun h => by cases h), by kernel_rfl, rfl, (fun h => by cases h), (fun h => by cases h), (fun h => by cases h)⟩
theorem tok36 : TIok Try.prog tt 36 ti36 := fun _ => ⟨by kernel_rfl, by kernel_rfl, .inl rfl, (fun y h => by cases h), .inr rfl, (fun h => by cases h), by kernel_rfl, rfl, (fun h => by cases h), (fun h => by cases h), (fun h => by cases h)⟩
theorem tok37 : TIok Try.prog tt 37 ti37 := fun _ => ⟨by kernel_rfl, by kernel_rfl, .inl rfl, (fun y h => by cases h), .inr rfl, (fun h => by cases h), by kernel_rfl, rfl, (fun h => by cases h), (fun h => by cases h), (fun h => by cases h)⟩
theorem tok38 : TIok Try.prog tt 38 ti38 := fun _ => ⟨by kernel_rfl, by kernel_rfl, .inl rfl, (fun y h => by cases h), .inr rfl, (fun h => by cases h), by kernel_rfl, rfl, (fun h => by cases h), (fun h => by cases h), (fun h => by cases h)⟩
theorem tok39 : TIok Try.prog tt 39 ti39 := fun _ => ⟨by kernel_rfl, by kernel_rfl, .inl rfl, (fun y h => by cases h), .inl rfl, (fun h => by cases h), by kernel_rfl, rfl, (fun h => by cases h), (fun h => by cases h), (fun h => by cases h)⟩
theorem tok40 : TIok Try.prog tt 40 ti40 := fun _ => ⟨by kernel_rfl, by kernel_rfl, .inl rfl, (fun y h => by cases h), .inl rfl, (fun h => by cases h), by kernel_rfl, rfl, (fun h => by cases h), (fun h => by cases h), (fun h => by cases h)⟩
theorem tok44 : TIok Try.prog tt 44 ti44 := fun _ => ⟨by kernel_rfl, by kernel_rfl, .inl rfl, (fun y h => by cases h), .inr rfl, (fun h => by cases h), by kernel_rfl, rfl, (fun h => by cases h), (fun h => by cases h), (fun h => by cases h)⟩
theorem tok45 : TIok Try.prog tt 45 ti45 := fun _ => ⟨by kernel_rfl, by kernel_rfl, .inr (by kernel_rfl), (fun y h => by cases h; rfl), .inr rfl, (fun h => by cases h), by kernel_rfl, rfl, (fun h => by cases h), (fun h => by cases h), (fun h => by cases h)⟩
theorem tok48 : TIok Try.prog tt 48 ti48 := fun _ => ⟨by kernel_rfl, by kernel_rfl, .inl rfl, (fun y h => by cases h), .inr rfl, (fun h => by cases h), by kernel_rfl, rfl, (fun h => by cases h), (fun h => by cases h), (fun h => by cases h)⟩
theorem tok49 : TIok Try.prog tt 49 ti49 := fun _ => ⟨by kernel_rfl, by kernel_rfl, .inl rfl, (fun y h => by cases h), .inr rfl, (fun h => by cases h), by kernel_rfl, rfl, (fun h => by cases h), (fun h => by cases h), (fun h => by cases h)⟩
theorem tok50 : TIok Try.prog tt 50 ti50 := fun _ => ⟨by kernel_rfl, by kernel_rfl, .inr (by kernel_rfl), (fun y h => by cases h; rfl), .inr rfl, (fun h => by cases h), by kernel_rfl, rfl, (fun h => by cases h), (fun h => by cases h), (fun h => by cases h)⟩
theorem tok51 : TIok Try.prog tt 51 ti51 := fun _ => ⟨by kernel_rfl, by kernel_rfl, .inr (by kernel_rfl), (fun y h => by cases h; rfl), .inr rfl, (fun h => by cases h), by kernel_rfl, rfl, (fun h => by cases h), (fun h => by cases h), (fun h => by cases h)⟩
theorem tok52 : TIok Try.prog tt 52 ti52 := fun _ => ⟨by kernel_rfl, by kernel_rfl, .inl rfl, (fun y h => by cases h), .inl rfl, (fun h => by cases h), by kernel_rfl, rfl, (fun h => by cases h), (fun h => by cases h), (fun h => by cases h)⟩
theorem tok53 : TIok Try.prog tt 53 ti53 := fun _ => ⟨by kernel_rfl, by kernel_rfl, .inl rfl, (fun y h => by cases h), .inl rfl, (fun h => by cases h), by kernel_rfl, rfl, (fun h => by cases h), (fun h => by cases h), (fun h => by cases h)⟩
theorem tok : TOk Try.prog tt := TOk.of_all (⟨tok26, ⟨tok13, ⟨tok7, ⟨tok3, ⟨tok2, ⟨tok1, trivial, trivial⟩, trivial⟩, ⟨tok5, ⟨tok4, trivial, trivial⟩, trivial⟩⟩, ⟨tok10, ⟨tok9, ⟨tok8, trivial, trivial⟩, trivial⟩, ⟨tok12, ⟨tok11, trivial, trivial⟩, trivial⟩⟩⟩, ⟨tok19, ⟨tok16, ⟨tok15, ⟨tok14, trivial, trivial⟩, trivial⟩, ⟨tok18, ⟨tok17, trivial, trivial⟩, trivial⟩⟩, ⟨tok23, ⟨tok22, ⟨tok21, trivial, trivial⟩, trivial⟩, ⟨tok25, ⟨tok24, trivial, trivial⟩, trivial⟩⟩⟩⟩, ⟨tok38, ⟨tok32, ⟨tok29, ⟨tok28, ⟨tok27, trivial, trivial⟩, trivial⟩, ⟨tok31, ⟨tok30, trivial, trivial⟩, trivial⟩⟩, ⟨tok35, ⟨tok34, ⟨tok33, trivial, trivial⟩, trivial⟩, ⟨tok37, ⟨tok36, trivial, trivial⟩, trivial⟩⟩⟩, ⟨tok49, ⟨tok44, ⟨tok40, ⟨tok39, trivial, trivial⟩, trivial⟩, ⟨tok48, ⟨tok45, trivial, trivial⟩, trivial⟩⟩, ⟨tok52, ⟨tok51, ⟨tok50, trivial, trivial⟩, trivial⟩, ⟨tok53, trivial, trivial⟩⟩⟩⟩⟩)

def noGorB (P : Program) : Bool := P.funcs.toList.all fun fn => fn.body.isNone || !(fn.name == "runtime.NumGoroutine")
theorem noGor_of {P : Program} (h : noGorB P = true) : NoGor P := fun f fn c hf hb => by
  have h1 := List.all_eq_true.1 h fn (by have := Array.mem_of_getElem? hf; simpa using this)
  simpa [hb] using h1
theorem noGor : NoGor Try.prog := noGor_of (by kernel_rfl)
theorem mixed : Try.prog.follows .mixedOrders = true := by kernel_rfl
noncomputable def sg0 (g : FuncId) : Option Sum :=  none
theorem sg0_ok : ∀ g s, sg0 g = some s → SumOk Try.prog g s := fun g s h => by
  unfold sg0 at h
  cases h
theorem chk_ok (g : FuncId) (h : isChk g = true) : CheckOk Try.prog g := by simp [isChk, chkF] at h
/-- the plain machine, closed -/
noncomputable def env0 : Env := { P := Try.prog, T := tt, cl := true, kp := fun _ _ => none, sg := sg0, lp := fun _ _ => none, bf := isChk }
theorem rf_ok : ∀ E, LoopsOk Try.prog E → RfOk E := fun E h f k asg bd hr => rfAt_ok h f k asg bd hr
theorem env0_ok : EnvOk env0 := ⟨tok, mixed, noGor, sg0_ok, fun f fn c _ _ => loopsOk_none (fun _ => rfl) (fun _ => rfl) c, rf_ok _ fun f fn c _ _ => loopsOk_none (fun _ => rfl) (fun _ => rfl) c, chk_ok⟩
end Go.Proofs.Ytacflfpffpbkiaa
