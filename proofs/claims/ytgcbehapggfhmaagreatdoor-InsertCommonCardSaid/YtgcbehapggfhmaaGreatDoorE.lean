import Derived.Test.YtgcbehapggfhmaaGreatDoorProg
import Derived.Test.YtgcbehapggfhmaaGreatDoorBd
import Derived.Shelf.Strings.Builder1
namespace Go.Proofs.YtgcbehapggfhmaaGreatDoor
open Go.RowKit
set_option linter.unusedVariables false
set_option maxRecDepth 100000

def ti1 : TI := ⟨true, .fn, 1, 8, none, [.nilfn], false, false, true⟩
def ti2 : TI := ⟨true, (.int .i64), 1, 8, some (.int .i64), [.val (.int .i64) 0], false, false, true⟩
def ti3 : TI := ⟨true, (.int .i64), 1, 8, some (.int .i64), [.val (.int .i64) 0], false, false, true⟩
def ti4 : TI := ⟨true, .bool, 1, 1, some .bool, [.val .bool false], false, false, true⟩
def ti5 : TI := ⟨true, (.int .u8), 1, 1, some (.int .u8), [.val (.int .u8) 0], false, false, true⟩
def ti7 : TI := ⟨true, (.struct [(0, 2), (1, 3), (2, 4), (3, 6)]), 4, 24, none, [.val (.int .i64) 0, .val (.int .i64) 0, .val .bool false, .val (.int .u8) 0], false, false, true⟩
def ti8 : TI := ⟨true, (.struct [(0, 2), (1, 3), (2, 4), (3, 6)]), 4, 24, none, [.val (.int .i64) 0, .val (.int .i64) 0, .val .bool false, .val (.int .u8) 0], false, false, true⟩
def ti9 : TI := ⟨true, .str, 1, 16, some .str, [.val .str []], false, false, true⟩
def ti10 : TI := ⟨true, .str, 1, 16, some .str, [.val .str []], false, false, true⟩
def ti11 : TI := ⟨true, .str, 1, 16, some .str, [.val .str []], false, false, true⟩
def ti12 : TI := ⟨true, (.int .u64), 1, 8, some (.int .u64), [.val (.int .u64) 0], false, false, true⟩
def ti13 : TI := ⟨true, (.struct [(0, 9), (1, 12)]), 2, 24, some (.pair .str (.pair (.int .u64) .unit)), [.val .str [], .val (.int .u64) 0], false, false, true⟩
def ti14 : TI := ⟨true, (.struct [(0, 9), (1, 12)]), 2, 24, some (.pair .str (.pair (.int .u64) .unit)), [.val .str [], .val (.int .u64) 0], false, false, true⟩
def ti15 : TI := ⟨true, (.ptr 213), 1, 8, none, [.nilp], false, false, true⟩
def ti16 : TI := ⟨true, (.ptr 216), 1, 8, none, [.nilp], false, false, true⟩
def ti17 : TI := ⟨true, (.ptr 223), 1, 8, none, [.nilp], false, false, true⟩
def ti18 : TI := ⟨true, (.struct [(0, 17)]), 1, 8, none, [.nilp], false, false, true⟩
def ti19 : TI := ⟨true, (.struct [(0, 17)]), 1, 8, none, [.nilp], false, false, true⟩
def ti21 : TI := ⟨true, (.int .i32), 1, 4, some (.int .i32), [.val (.int .i32) 0], false, false, true⟩
def ti22 : TI := ⟨true, (.slice 9), 1, 24, some (.list .str), [.nils], false, false, true⟩
def ti23 : TI := ⟨true, .fn, 1, 8, none, [.nilfn], false, false, true⟩
def ti24 : TI := ⟨true, .fn, 1, 8, none, [.nilfn], false, false, true⟩
def ti25 : TI := ⟨true, .fn, 1, 8, none, [.nilfn], false, false, true⟩
def ti26 : TI := ⟨true, (.struct [(0, 3), (1, 9), (2, 9)]), 3, 40, some (.pair (.int .i64) (.pair .str (.pair .str .unit))), [.val (.int .i64) 0, .val .str [], .val .str []], false, false, true⟩
def ti27 : TI := ⟨true, (.struct [(0, 3), (1, 9), (2, 9)]), 3, 40, some (.pair (.int .i64) (.pair .str (.pair .str .unit))), [.val (.int .i64) 0, .val .str [], .val .str []], true, false, true⟩
def ti28 : TI := ⟨true, (.int .i64), 1, 8, some (.int .i64), [.val (.int .i64) 0], false, false, true⟩
def ti30 : TI := ⟨true, .fn, 1, 8, none, [.nilfn], false, false, true⟩
def ti31 : TI := ⟨true, .fn, 1, 8, none, [.nilfn], false, false, true⟩
def ti32 : TI := ⟨true, .fn, 1, 8, none, [.nilfn], false, false, true⟩
def ti33 : TI := ⟨true, .fn, 1, 8, none, [.nilfn], false, false, true⟩
def ti34 : TI := ⟨true, (.struct [(0, 3), (1, 3), (2, 3), (3, 3), (4, 9), (5, 4), (6, 9), (7, 3), (8, 3)]), 9, 88, some (.pair (.int .i64) (.pair (.int .i64) (.pair (.int .i64) (.pair (.int .i64) (.pair .str (.pair .bool (.pair .str (.pair (.int .i64) (.pair (.int .i64) .unit))))))))), [.val (.int .i64) 0, .val (.int .i64) 0, .val (.int .i64) 0, .val (.int .i64) 0, .val .str [], .val .bool false, .val .str [], .val (.int .i64) 0, .val (.int .i64) 0], false, false, true⟩
def ti35 : TI := ⟨true, (.struct [(0, 3), (1, 3), (2, 3), (3, 3), (4, 9), (5, 4), (6, 9), (7, 3), (8, 3)]), 9, 88, some (.pair (.int .i64) (.pair (.int .i64) (.pair (.int .i64) (.pair (.int .i64) (.pair .str (.pair .bool (.pair .str (.pair (.int .i64) (.pair (.int .i64) .unit))))))))), [.val (.int .i64) 0, .val (.int .i64) 0, .val (.int .i64) 0, .val (.int .i64) 0, .val .str [], .val .bool false, .val .str [], .val (.int .i64) 0, .val (.int .i64) 0], true, false, true⟩
def ti37 : TI := ⟨true, .fn, 1, 8, none, [.nilfn], false, false, true⟩
def ti39 : TI := ⟨true, .fn, 1, 8, none, [.nilfn], false, false, true⟩
def ti41 : TI := ⟨true, .fn, 1, 8, none, [.nilfn], false, false, true⟩
def ti42 : TI := ⟨true, .fn, 1, 8, none, [.nilfn], false, false, true⟩
def ti43 : TI := ⟨true, .fn, 1, 8, none, [.nilfn], false, false, true⟩
def ti44 : TI := ⟨true, .fn, 1, 8, none, [.nilfn], false, false, true⟩
def ti45 : TI := ⟨true, .fn, 1, 8, none, [.nilfn], false, false, true⟩
def ti46 : TI := ⟨true, .fn, 1, 8, none, [.nilfn], false, false, true⟩
def ti47 : TI := ⟨true, .fn, 1, 8, none, [.nilfn], false, false, true⟩
def ti48 : TI := ⟨true, (.ptr 55), 1, 8, none, [.nilp], false, false, true⟩
def ti49 : TI := ⟨true, .fn, 1, 8, none, [.nilfn], false, false, true⟩
def ti50 : TI := ⟨true, .fn, 1, 8, none, [.nilfn], false, false, true⟩
def ti51 : TI := ⟨true, (.struct [(0, 3), (1, 3), (2, 3), (3, 4)]), 4, 32, some (.pair (.int .i64) (.pair (.int .i64) (.pair (.int .i64) (.pair .bool .unit)))), [.val (.int .i64) 0, .val (.int .i64) 0, .val (.int .i64) 0, .val .bool false], false, false, true⟩
def ti52 : TI := ⟨true, (.struct [(0, 3), (1, 3), (2, 3), (3, 4)]), 4, 32, some (.pair (.int .i64) (.pair (.int .i64) (.pair (.int .i64) (.pair .bool .unit)))), [.val (.int .i64) 0, .val (.int .i64) 0, .val (.int .i64) 0, .val .bool false], true, false, true⟩
def ti53 : TI := ⟨true, (.slice 52), 1, 24, some (.list (.pair (.int .i64) (.pair (.int .i64) (.pair (.int .i64) (.pair .bool .unit))))), [.nils], false, false, true⟩
def ti54 : TI := ⟨true, (.struct [(0, 9), (1, 3), (2, 3), (3, 53), (4, 52), (8, 4)]), 9, 96, some (.pair .str (.pair (.int .i64) (.pair (.int .i64) (.pair (.list (.pair (.int .i64) (.pair (.int .i64) (.pair (.int .i64) (.pair .bool .unit))))) (.pair (.pair (.int .i64) (.pair (.int .i64) (.pair (.int .i64) (.pair .bool .unit)))) (.pair .bool .unit)))))), [.val .str [], .val (.int .i64) 0, .val (.int .i64) 0, .nils, .val (.int .i64) 0, .val (.int .i64) 0, .val (.int .i64) 0, .val .bool false, .val .bool false], false, false, true⟩
def ti55 : TI := ⟨true, (.struct [(0, 9), (1, 3), (2, 3), (3, 53), (4, 52), (8, 4)]), 9, 96, some (.pair .str (.pair (.int .i64) (.pair (.int .i64) (.pair (.list (.pair (.int .i64) (.pair (.int .i64) (.pair (.int .i64) (.pair .bool .unit))))) (.pair (.pair (.int .i64) (.pair (.int .i64) (.pair (.int .i64) (.pair .bool .unit)))) (.pair .bool .unit)))))), [.val .str [], .val (.int .i64) 0, .val (.int .i64) 0, .nils, .val (.int .i64) 0, .val (.int .i64) 0, .val (.int .i64) 0, .val .bool false, .val .bool false], false, false, true⟩
def ti56 : TI := ⟨true, .fn, 1, 8, none, [.nilfn], false, false, true⟩
def ti57 : TI := ⟨true, (.slice 62), 1, 24, some (.list (.pair (.int .i64) (.pair (.int .i64) .unit))), [.nils], false, false, true⟩
def ti59 : TI := ⟨true, .fn, 1, 8, none, [.nilfn], false, false, true⟩
def ti60 : TI := ⟨true, .fn, 1, 8, none, [.nilfn], false, false, true⟩
def ti61 : TI := ⟨true, (.struct [(0, 3), (1, 3)]), 2, 16, some (.pair (.int .i64) (.pair (.int .i64) .unit)), [.val (.int .i64) 0, .val (.int .i64) 0], false, false, true⟩
def ti62 : TI := ⟨true, (.struct [(0, 3), (1, 3)]), 2, 16, some (.pair (.int .i64) (.pair (.int .i64) .unit)), [.val (.int .i64) 0, .val (.int .i64) 0], true, false, true⟩
def ti64 : TI := ⟨true, .fn, 1, 8, none, [.nilfn], false, false, true⟩
def ti65 : TI := ⟨true, .fn, 1, 8, none, [.nilfn], false, false, true⟩
def ti66 : TI := ⟨true, .fn, 1, 8, none, [.nilfn], false, false, true⟩
def ti67 : TI := ⟨true, .fn, 1, 8, none, [.nilfn], false, false, true⟩
def ti69 : TI := ⟨true, .fn, 1, 8, none, [.nilfn], false, false, true⟩
def ti70 : TI := ⟨true, .fn, 1, 8, none, [.nilfn], false, false, true⟩
def ti71 : TI := ⟨true, .fn, 1, 8, none, [.nilfn], false, false, true⟩
def ti72 : TI := ⟨true, (.slice 175), 1, 24, some (.list (.pair .str (.pair .bool .unit))), [.nils], false, false, true⟩
def ti73 : TI := ⟨true, (.struct [(0, 3), (1, 72), (2, 4)]), 3, 40, some (.pair (.int .i64) (.pair (.list (.pair .str (.pair .bool .unit))) (.pair .bool .unit))), [.val (.int .i64) 0, .nils, .val .bool false], false, false, true⟩
def ti74 : TI := ⟨true, (.struct [(0, 3), (1, 72), (2, 4)]), 3, 40, some (.pair (.int .i64) (.pair (.list (.pair .str (.pair .bool .unit))) (.pair .bool .unit))), [.val (.int .i64) 0, .nils, .val .bool false], false, false, true⟩
def ti76 : TI := ⟨true, .fn, 1, 8, none, [.nilfn], false, false, true⟩
def ti77 : TI := ⟨true, (.ptr 121), 1, 8, none, [.nilp], false, false, true⟩
def ti78 : TI := ⟨true, .fn, 1, 8, none, [.nilfn], false, false, true⟩
def ti79 : TI := ⟨true, .fn, 1, 8, none, [.nilfn], false, false, true⟩
def ti80 : TI := ⟨true, .fn, 1, 8, none, [.nilfn], false, false, true⟩
def ti81 : TI := ⟨true, .fn, 1, 8, none, [.nilfn], false, false, true⟩
def ti82 : TI := ⟨true, .fn, 1, 8, none, [.nilfn], false, false, true⟩
def ti83 : TI := ⟨true, .fn, 1, 8, none, [.nilfn], false, false, true⟩
def ti84 : TI := ⟨true, .fn, 1, 8, none, [.nilfn], false, false, true⟩
def ti85 : TI := ⟨true, (.slice 88), 1, 24, some (.list (.pair (.int .i64) (.pair (.int .i64) (.pair (.int .i64) (.pair (.int .i64) (.pair .bool .unit)))))), [.nils], false, false, true⟩
def ti86 : TI := ⟨true, .fn, 1, 8, none, [.nilfn], false, false, true⟩
def ti87 : TI := ⟨true, (.struct [(0, 3), (1, 3), (2, 3), (3, 3), (4, 4)]), 5, 40, some (.pair (.int .i64) (.pair (.int .i64) (.pair (.int .i64) (.pair (.int .i64) (.pair .bool .unit))))), [.val (.int .i64) 0, .val (.int .i64) 0, .val (.int .i64) 0, .val (.int .i64) 0, .val .bool false], false, false, true⟩
def ti88 : TI := ⟨true, (.struct [(0, 3), (1, 3), (2, 3), (3, 3), (4, 4)]), 5, 40, some (.pair (.int .i64) (.pair (.int .i64) (.pair (.int .i64) (.pair (.int .i64) (.pair .bool .unit))))), [.val (.int .i64) 0, .val (.int .i64) 0, .val (.int .i64) 0, .val (.int .i64) 0, .val .bool false], true, false, true⟩
def ti89 : TI := ⟨true, (.ptr 92), 1, 8, none, [.nilp], false, false, true⟩
def ti90 : TI := ⟨true, (.slice 5), 1, 24, some (.list (.int .u8)), [.nils], false, false, true⟩
def ti91 : TI := ⟨true, (.struct [(0, 89), (1, 90)]), 2, 32, none, [.nilp, .nils], false, false, true⟩
def ti92 : TI := ⟨true, (.struct [(0, 89), (1, 90)]), 2, 32, none, [.nilp, .nils], false, true, true⟩
def ti93 : TI := ⟨true, .fn, 1, 8, none, [.nilfn], false, false, true⟩
def ti94 : TI := ⟨true, .fn, 1, 8, none, [.nilfn], false, false, true⟩
def ti95 : TI := ⟨true, (.ptr 138), 1, 8, none, [.nilp], false, false, true⟩
def ti96 : TI := ⟨true, .fn, 1, 8, none, [.nilfn], false, false, true⟩
def ti97 : TI := ⟨true, .fn, 1, 8, none, [.nilfn], false, false, true⟩
def ti98 : TI := ⟨true, (.struct [(0, 4), (1, 4), (2, 9)]), 3, 24, some (.pair .bool (.pair .bool (.pair .str .unit))), [.val .bool false, .val .bool false, .val .str []], false, false, true⟩
def ti99 : TI := ⟨true, (.struct [(0, 4), (1, 4), (2, 9)]), 3, 24, some (.pair .bool (.pair .bool (.pair .str .unit))), [.val .bool false, .val .bool false, .val .str []], true, false, true⟩
def ti103 : TI := ⟨true, .fn, 1, 8, none, [.nilfn], false, false, true⟩
def ti104 : TI := ⟨true, .fn, 1, 8, none, [.nilfn], false, false, true⟩
def ti105 : TI := ⟨true, (.slice 115), 1, 24, some (.list (.pair (.int .i64) (.pair .str (.pair (.int .i64) (.pair (.int .i64) .unit))))), [.nils], false, false, true⟩
def ti106 : TI := ⟨true, .fn, 1, 8, none, [.nilfn], false, false, true⟩
def ti107 : TI := ⟨true, (.slice 111), 1, 24, some (.list (.pair (.int .i64) (.pair (.int .i64) (.pair (.int .i64) (.pair (.int .i64) .unit))))), [.nils], false, false, true⟩
def ti108 : TI := ⟨true, .fn, 1, 8, none, [.nilfn], false, false, true⟩
def ti109 : TI := ⟨true, .fn, 1, 8, none, [.nilfn], false, false, true⟩
def ti110 : TI := ⟨true, (.struct [(0, 3), (1, 3), (2, 3), (3, 3)]), 4, 32, some (.pair (.int .i64) (.pair (.int .i64) (.pair (.int .i64) (.pair (.int .i64) .unit)))), [.val (.int .i64) 0, .val (.int .i64) 0, .val (.int .i64) 0, .val (.int .i64) 0], false, false, true⟩
def ti111 : TI := ⟨true, (.struct [(0, 3), (1, 3), (2, 3), (3, 3)]), 4, 32, some (.pair (.int .i64) (.pair (.int .i64) (.pair (.int .i64) (.pair (.int .i64) .unit)))), [.val (.int .i64) 0, .val (.int .i64) 0, .val (.int .i64) 0, .val (.int .i64) 0], true, false, true⟩
def ti113 : TI := ⟨true, .fn, 1, 8, none, [.nilfn], false, false, true⟩
def ti114 : TI := ⟨true, (.struct [(0, 3), (1, 9), (2, 3), (3, 3)]), 4, 40, some (.pair (.int .i64) (.pair .str (.pair (.int .i64) (.pair (.int .i64) .unit)))), [.val (.int .i64) 0, .val .str [], .val (.int .i64) 0, .val (.int .i64) 0], false, false, true⟩
def ti115 : TI := ⟨true, (.struct [(0, 3), (1, 9), (2, 3), (3, 3)]), 4, 40, some (.pair (.int .i64) (.pair .str (.pair (.int .i64) (.pair (.int .i64) .unit)))), [.val (.int .i64) 0, .val .str [], .val (.int .i64) 0, .val (.int .i64) 0], true, false, true⟩
def ti116 : TI := ⟨true, .fn, 1, 8, none, [.nilfn], false, false, true⟩
def ti117 : TI := ⟨true, .fn, 1, 8, none, [.nilfn], false, false, true⟩
def ti118 : TI := ⟨true, .fn, 1, 8, none, [.nilfn], false, false, true⟩
def ti119 : TI := ⟨true, .fn, 1, 8, none, [.nilfn], false, false, true⟩
def ti120 : TI := ⟨true, (.struct [(0, 57), (1, 4), (2, 3)]), 3, 40, some (.pair (.list (.pair (.int .i64) (.pair (.int .i64) .unit))) (.pair .bool (.pair (.int .i64) .unit))), [.nils, .val .bool false, .val (.int .i64) 0], false, false, true⟩
def ti121 : TI := ⟨true, (.struct [(0, 57), (1, 4), (2, 3)]), 3, 40, some (.pair (.list (.pair (.int .i64) (.pair (.int .i64) .unit))) (.pair .bool (.pair (.int .i64) .unit))), [.nils, .val .bool false, .val (.int .i64) 0], false, false, true⟩
def ti122 : TI := ⟨true, .fn, 1, 8, none, [.nilfn], false, false, true⟩
def ti123 : TI := ⟨true, .fn, 1, 8, none, [.nilfn], false, false, true⟩
def ti124 : TI := ⟨true, .fn, 1, 8, none, [.nilfn], false, false, true⟩
def ti125 : TI := ⟨true, .fn, 1, 8, none, [.nilfn], false, false, true⟩
def ti126 : TI := ⟨true, .fn, 1, 8, none, [.nilfn], false, false, true⟩
def ti128 : TI := ⟨true, .fn, 1, 8, none, [.nilfn], false, false, true⟩
def ti129 : TI := ⟨true, .fn, 1, 8, none, [.nilfn], false, false, true⟩
def ti130 : TI := ⟨true, (.ptr 133), 1, 8, none, [.nilp], false, false, true⟩
def ti131 : TI := ⟨true, (.slice 3), 1, 24, some (.list (.int .i64)), [.nils], false, false, true⟩
def ti132 : TI := ⟨true, (.struct [(0, 85), (1, 131)]), 2, 48, some (.pair (.list (.pair (.int .i64) (.pair (.int .i64) (.pair (.int .i64) (.pair (.int .i64) (.pair .bool .unit)))))) (.pair (.list (.int .i64)) .unit)), [.nils, .nils], false, false, true⟩
def ti133 : TI := ⟨true, (.struct [(0, 85), (1, 131)]), 2, 48, some (.pair (.list (.pair (.int .i64) (.pair (.int .i64) (.pair (.int .i64) (.pair (.int .i64) (.pair .bool .unit)))))) (.pair (.list (.int .i64)) .unit)), [.nils, .nils], false, false, true⟩
def ti134 : TI := ⟨true, .fn, 1, 8, none, [.nilfn], false, false, true⟩
def ti135 : TI := ⟨true, (.ptr 88), 1, 8, none, [.nilp], false, false, true⟩
def ti136 : TI := ⟨true, (.map 3 3), 1, 8, none, [.undef], false, false, true⟩
def ti137 : TI := ⟨true, (.struct [(0, 9), (1, 85), (2, 136)]), 3, 48, none, [.val .str [], .nils, .undef], false, false, true⟩
def ti138 : TI := ⟨true, (.struct [(0, 9), (1, 85), (2, 136)]), 3, 48, none, [.val .str [], .nils, .undef], false, false, true⟩
def ti139 : TI := ⟨true, .fn, 1, 8, none, [.nilfn], false, false, true⟩
def ti141 : TI := ⟨true, .fn, 1, 8, none, [.nilfn], false, false, true⟩
def ti142 : TI := ⟨true, .fn, 1, 8, none, [.nilfn], false, false, true⟩
def ti144 : TI := ⟨true, .fn, 1, 8, none, [.nilfn], false, false, true⟩
def ti145 : TI := ⟨true, .fn, 1, 8, none, [.nilfn], false, false, true⟩
def ti146 : TI := ⟨true, (.ptr 5), 1, 8, none, [.nilp], false, false, true⟩
def ti148 : TI := ⟨true, .fn, 1, 8, none, [.nilfn], false, false, true⟩
def ti149 : TI := ⟨true, .fn, 1, 8, none, [.nilfn], false, false, true⟩
def ti150 : TI := ⟨true, (.ptr 152), 1, 8, none, [.nilp], false, false, true⟩
def ti151 : TI := ⟨true, (.struct [(0, 105), (1, 3), (2, 107), (3, 3), (4, 3)]), 5, 72, some (.pair (.list (.pair (.int .i64) (.pair .str (.pair (.int .i64) (.pair (.int .i64) .unit))))) (.pair (.int .i64) (.pair (.list (.pair (.int .i64) (.pair (.int .i64) (.pair (.int .i64) (.pair (.int .i64) .unit))))) (.pair (.int .i64) (.pair (.int .i64) .unit))))), [.nils, .val (.int .i64) 0, .nils, .val (.int .i64) 0, .val (.int .i64) 0], false, false, true⟩
def ti152 : TI := ⟨true, (.struct [(0, 105), (1, 3), (2, 107), (3, 3), (4, 3)]), 5, 72, some (.pair (.list (.pair (.int .i64) (.pair .str (.pair (.int .i64) (.pair (.int .i64) .unit))))) (.pair (.int .i64) (.pair (.list (.pair (.int .i64) (.pair (.int .i64) (.pair (.int .i64) (.pair (.int .i64) .unit))))) (.pair (.int .i64) (.pair (.int .i64) .unit))))), [.nils, .val (.int .i64) 0, .nils, .val (.int .i64) 0, .val (.int .i64) 0], false, false, true⟩
def ti153 : TI := ⟨true, .fn, 1, 8, none, [.nilfn], false, false, true⟩
def ti154 : TI := ⟨true, .fn, 1, 8, none, [.nilfn], false, false, true⟩
def ti155 : TI := ⟨true, .fn, 1, 8, none, [.nilfn], false, false, true⟩
def ti156 : TI := ⟨true, .fn, 1, 8, none, [.nilfn], false, false, true⟩
def ti157 : TI := ⟨true, .fn, 1, 8, none, [.nilfn], false, false, true⟩
def ti158 : TI := ⟨true, .fn, 1, 8, none, [.nilfn], false, false, true⟩
def ti159 : TI := ⟨true, .fn, 1, 8, none, [.nilfn], false, false, true⟩
def ti160 : TI := ⟨true, .fn, 1, 8, none, [.nilfn], false, false, true⟩
def ti161 : TI := ⟨true, .fn, 1, 8, none, [.nilfn], false, false, true⟩
def ti162 : TI := ⟨true, .fn, 1, 8, none, [.nilfn], false, false, true⟩
def ti163 : TI := ⟨true, .fn, 1, 8, none, [.nilfn], false, false, true⟩
def ti164 : TI := ⟨true, .fn, 1, 8, none, [.nilfn], false, false, true⟩
def ti166 : TI := ⟨true, .fn, 1, 8, none, [.nilfn], false, false, true⟩
def ti167 : TI := ⟨true, .fn, 1, 8, none, [.nilfn], false, false, true⟩
def ti168 : TI := ⟨true, .fn, 1, 8, none, [.nilfn], false, false, true⟩
def ti169 : TI := ⟨true, .fn, 1, 8, none, [.nilfn], false, false, true⟩
def ti170 : TI := ⟨true, .fn, 1, 8, none, [.nilfn], false, false, true⟩
def ti171 : TI := ⟨true, .fn, 1, 8, none, [.nilfn], false, false, true⟩
def ti173 : TI := ⟨true, .fn, 1, 8, none, [.nilfn], false, false, true⟩
def ti174 : TI := ⟨true, (.struct [(0, 9), (1, 4)]), 2, 24, some (.pair .str (.pair .bool .unit)), [.val .str [], .val .bool false], false, false, true⟩
def ti175 : TI := ⟨true, (.struct [(0, 9), (1, 4)]), 2, 24, some (.pair .str (.pair .bool .unit)), [.val .str [], .val .bool false], true, false, true⟩
def ti176 : TI := ⟨true, .fn, 1, 8, none, [.nilfn], false, false, true⟩
def ti177 : TI := ⟨true, .fn, 1, 8, none, [.nilfn], false, false, true⟩
def ti178 : TI := ⟨true, .fn, 1, 8, none, [.nilfn], false, false, true⟩
def ti179 : TI := ⟨true, .fn, 1, 8, none, [.nilfn], false, false, true⟩
def ti180 : TI := ⟨true, .fn, 1, 8, none, [.nilfn], false, false, true⟩
def ti181 : TI := ⟨true, .fn, 1, 8, none, [.nilfn], false, false, true⟩
def ti183 : TI := ⟨true, .fn, 1, 8, none, [.nilfn], false, false, true⟩
def ti184 : TI := ⟨true, .fn, 1, 8, none, [.nilfn], false, false, true⟩
def ti185 : TI := ⟨true, .fn, 1, 8, none, [.nilfn], false, false, true⟩
def ti186 : TI := ⟨true, .fn, 1, 8, none, [.nilfn], false, false, true⟩
def ti187 : TI := ⟨true, .fn, 1, 8, none, [.nilfn], false, false, true⟩
def ti188 : TI := ⟨true, .fn, 1, 8, none, [.nilfn], false, false, true⟩
def ti189 : TI := ⟨true, .fn, 1, 8, none, [.nilfn], false, false, true⟩
def ti190 : TI := ⟨true, .fn, 1, 8, none, [.nilfn], false, false, true⟩
def ti194 : TI := ⟨true, .fn, 1, 8, none, [.nilfn], false, false, true⟩
def ti195 : TI := ⟨true, .fn, 1, 8, none, [.nilfn], false, false, true⟩
def ti196 : TI := ⟨true, (.ptr 192), 1, 8, none, [.nilp], false, false, true⟩
def ti197 : TI := ⟨true, .fn, 1, 8, none, [.nilfn], false, false, true⟩
def ti198 : TI := ⟨true, .fn, 1, 8, none, [.nilfn], false, false, true⟩
def ti199 : TI := ⟨true, .fn, 1, 8, none, [.nilfn], false, false, true⟩
def ti200 : TI := ⟨true, (.int .u64), 1, 8, some (.int .u64), [.val (.int .u64) 0], false, false, true⟩
def ti202 : TI := ⟨true, (.struct [(0, 5), (1, 5)]), 2, 2, some (.pair (.int .u8) (.pair (.int .u8) .unit)), [.val (.int .u8) 0, .val (.int .u8) 0], false, false, true⟩
def ti203 : TI := ⟨true, (.struct [(0, 5), (1, 5)]), 2, 2, some (.pair (.int .u8) (.pair (.int .u8) .unit)), [.val (.int .u8) 0, .val (.int .u8) 0], false, false, true⟩
def ti205 : TI := ⟨true, .fn, 1, 8, none, [.nilfn], false, false, true⟩
def ti206 : TI := ⟨true, (.int .u32), 1, 4, some (.int .u32), [.val (.int .u32) 0], false, false, true⟩
def ti208 : TI := ⟨true, .fn, 1, 8, none, [.nilfn], false, false, true⟩
def ti209 : TI := ⟨true, .fn, 1, 8, none, [.nilfn], false, false, true⟩
def ti210 : TI := ⟨true, .fn, 1, 8, none, [.nilfn], false, false, true⟩
def ti211 : TI := ⟨true, .fn, 1, 8, none, [.nilfn], false, false, true⟩
def ti212 : TI := ⟨true, (.struct [(0, 17), (1, 17), (2, 17), (3, 9)]), 4, 40, none, [.nilp, .nilp, .nilp, .val .str []], false, false, true⟩
def ti213 : TI := ⟨true, (.struct [(0, 17), (1, 17), (2, 17), (3, 9)]), 4, 40, none, [.nilp, .nilp, .nilp, .val .str []], false, false, true⟩
def ti219 : TI := ⟨true, .fn, 1, 8, none, [.nilfn], false, false, true⟩
def ti220 : TI := ⟨true, (.int .i32), 1, 4, some (.int .i32), [.val (.int .i32) 0], false, false, true⟩
def ti221 : TI := ⟨true, (.int .i32), 1, 4, some (.int .i32), [.val (.int .i32) 0], false, false, true⟩
def ti222 : TI := ⟨true, (.struct [(0, 12), (1, 12), (2, 206), (3, 217), (4, 5), (5, 5), (6, 218), (7, 219), (8, 146), (9, 220), (10, 221)]), 11, 48, none, [.val (.int .u64) 0, .val (.int .u64) 0, .val (.int .u32) 0, .val (.int .u8) 0, .val (.int .u8) 0, .val (.int .u8) 0, .val (.int .u8) 0, .nilfn, .nilp, .val (.int .i32) 0, .val (.int .i32) 0], false, false, true⟩
def ti223 : TI := ⟨true, (.struct [(0, 12), (1, 12), (2, 206), (3, 217), (4, 5), (5, 5), (6, 218), (7, 219), (8, 146), (9, 220), (10, 221)]), 11, 48, none, [.val (.int .u64) 0, .val (.int .u64) 0, .val (.int .u32) 0, .val (.int .u8) 0, .val (.int .u8) 0, .val (.int .u8) 0, .val (.int .u8) 0, .nilfn, .nilp, .val (.int .i32) 0, .val (.int .i32) 0], false, false, true⟩
def tt : TT := (.node 109 ti109 (.node 54 ti54 (.node 26 ti26 (.node 13 ti13 (.node 7 ti7 (.node 3 ti3 (.node 2 ti2 (.node 1 ti1 .nil .nil) .nil) (.node 5 ti5 (.node 4 ti4 .nil .nil) .nil)) (.node 10 ti10 (.node 9 ti9 (.node 8 ti8 .nil .nil) .nil) (.node 12 ti12 (.node 11 ti11 .nil .nil) .nil))) (.node 19 ti19 (.node 16 ti16 (.node 15 ti15 (.node 14 ti14 .nil .nil) .nil) (.node 18 ti18 (.node 17 ti17 .nil .nil) .nil)) (.node 23 ti23 (.node 22 ti22 (.node 21 ti21 .nil .nil) .nil) (.node 25 ti25 (.node 24 ti24 .nil .nil) .nil)))) (.node 42 ti42 (.node 33 ti33 (.node 30 ti30 (.node 28 ti28 (.node 27 ti27 .nil .nil) .nil) (.node 32 ti32 (.node 31 ti31 .nil .nil) .nil)) (.node 37 ti37 (.node 35 ti35 (.node 34 ti34 .nil .nil) .nil) (.node 41 ti41 (.node 39 ti39 .nil .nil) .nil))) (.node 48 ti48 (.node 45 ti45 (.node 44 ti44 (.node 43 ti43 .nil .nil) .nil) (.node 47 ti47 (.node 46 ti46 .nil .nil) .nil)) (.node 51 ti51 (.node 50 ti50 (.node 49 ti49 .nil .nil) .nil) (.node 53 ti53 (.node 52 ti52 .nil .nil) .nil))))) (.node 82 ti82 (.node 69 ti69 (.node 61 ti61 (.node 57 ti57 (.node 56 ti56 (.node 55 ti55 .nil .nil) .nil) (.node 60 ti60 (.node 59 ti59 .nil .nil) .nil)) (.node 65 ti65 (.node 64 ti64 (.node 62 ti62 .nil .nil) .nil) (.node 67 ti67 (.node 66 ti66 .nil .nil) .nil))) (.node 76 ti76 (.node 72 ti72 (.node 71 ti71 (.node 70 ti70 .nil .nil) .nil) (.node 74 ti74 (.node 73 ti73 .nil .nil) .nil)) (.node 79 ti79 (.node 78 ti78 (.node 77 ti77 .nil .nil) .nil) (.node 81 ti81 (.node 80 ti80 .nil .nil) .nil)))) (.node 94 ti94 (.node 88 ti88 (.node 85 ti85 (.node 84 ti84 (.node 83 ti83 .nil .nil) .nil) (.node 87 ti87 (.node 86 ti86 .nil .nil) .nil)) (.node 91 ti91 (.node 90 ti90 (.node 89 ti89 .nil .nil) .nil) (.node 93 ti93 (.node 92 ti92 .nil .nil) .nil))) (.node 103 ti103 (.node 97 ti97 (.node 96 ti96 (.node 95 ti95 .nil .nil) .nil) (.node 99 ti99 (.node 98 ti98 .nil .nil) .nil)) (.node 106 ti106 (.node 105 ti105 (.node 104 ti104 .nil .nil) .nil) (.node 108 ti108 (.node 107 ti107 .nil .nil) .nil)))))) (.node 162 ti162 (.node 135 ti135 (.node 122 ti122 (.node 116 ti116 (.node 113 ti113 (.node 111 ti111 (.node 110 ti110 .nil .nil) .nil) (.node 115 ti115 (.node 114 ti114 .nil .nil) .nil)) (.node 119 ti119 (.node 118 ti118 (.node 117 ti117 .nil .nil) .nil) (.node 121 ti121 (.node 120 ti120 .nil .nil) .nil))) (.node 129 ti129 (.node 125 ti125 (.node 124 ti124 (.node 123 ti123 .nil .nil) .nil) (.node 128 ti128 (.node 126 ti126 .nil .nil) .nil)) (.node 132 ti132 (.node 131 ti131 (.node 130 ti130 .nil .nil) .nil) (.node 134 ti134 (.node 133 ti133 .nil .nil) .nil)))) (.node 150 ti150 (.node 142 ti142 (.node 138 ti138 (.node 137 ti137 (.node 136 ti136 .nil .nil) .nil) (.node 141 ti141 (.node 139 ti139 .nil .nil) .nil)) (.node 146 ti146 (.node 145 ti145 (.node 144 ti144 .nil .nil) .nil) (.node 149 ti149 (.node 148 ti148 .nil .nil) .nil))) (.node 156 ti156 (.node 153 ti153 (.node 152 ti152 (.node 151 ti151 .nil .nil) .nil) (.node 155 ti155 (.node 154 ti154 .nil .nil) .nil)) (.node 159 ti159 (.node 158 ti158 (.node 157 ti157 .nil .nil) .nil) (.node 161 ti161 (.node 160 ti160 .nil .nil) .nil))))) (.node 189 ti189 (.node 176 ti176 (.node 169 ti169 (.node 166 ti166 (.node 164 ti164 (.node 163 ti163 .nil .nil) .nil) (.node 168 ti168 (.node 167 ti167 .nil .nil) .nil)) (.node 173 ti173 (.node 171 ti171 (.node 170 ti170 .nil .nil) .nil) (.node 175 ti175 (.node 174 ti174 .nil .nil) .nil))) (.node 183 ti183 (.node 179 ti179 (.node 178 ti178 (.node 177 ti177 .nil .nil) .nil) (.node 181 ti181 (.node 180 ti180 .nil .nil) .nil)) (.node 186 ti186 (.node 185 ti185 (.node 184 ti184 .nil .nil) .nil) (.node 188 ti188 (.node 187 ti187 .nil .nil) .nil)))) (.node 206 ti206 (.node 198 ti198 (.node 195 ti195 (.node 194 ti194 (.node 190 ti190 .nil .nil) .nil) (.node 197 ti197 (.node 196 ti196 .nil .nil) .nil)) (.node 202 ti202 (.node 200 ti200 (.node 199 ti199 .nil .nil) .nil) (.node 205 ti205 (.node 203 ti203 .nil .nil) .nil))) (.node 213 ti213 (.node 210 ti210 (.node 209 ti209 (.node 208 ti208 .nil .nil) .nil) (.node 212 ti212 (.node 211 ti211 .nil .nil) .nil)) (.node 221 ti221 (.node 220 ti220 (.node 219 ti219 .nil .nil) .nil) (.node 223 ti223 (.node 222 ti222 .nil .nil) .nil)))))))

theorem zero_of {P : Program} {t : TypeId} {j : TypeInfo} {k : IntKind} (h : (P.info? t).map (·.zero) = some (some (.int k 0))) (hj : P.info? t = some j) : j.zero = some (.int k 0) := by rw [hj] at h; simpa using h
theorem tok1 : TIok Tryz.prog tt 1 ti1 := fun _ => ⟨by kernel_rfl, by kernel_rfl, .inl rfl, (fun y h => by cases h), .inr rfl, (fun h => by cases h), by kernel_rfl, rfl, (fun h => by cases h), (fun h => by cases h), (fun k h => by cases h)⟩
theorem tok2 : TIok Tryz.prog tt 2 ti2 := fun _ => ⟨by kernel_rfl, by kernel_rfl, .inr (by kernel_rfl), (fun y h => by cases h; rfl), .inr rfl, (fun h => by cases h), by kernel_rfl, rfl, (fun h => by cases h), (fun h => by cases h), (fun k h j hj => by cases h; exact zero_of (by kernel_rfl) hj)⟩
theorem tok3 : TIok Tryz.prog tt 3 ti3 := fun _ => ⟨by kernel_rfl, by kernel_rfl, .inr (by kernel_rfl), (fun y h => by cases h; rfl), .inr rfl, (fun h => by cases h), by kernel_rfl, rfl, (fun h => by cases h), (fun h => by cases h), (fun k h j hj => by cases h; exact zero_of (by kernel_rfl) hj)⟩
theorem tok4 : TIok Tryz.prog tt 4 ti4 := fun _ => ⟨by kernel_rfl, by kernel_rfl, .inr (by kernel_rfl), (fun y h => by cases h; rfl), .inr rfl, (fun h => by cases h), by kernel_rfl, rfl, (fun h => by cases h), (fun h => by cases h), (fun k h => by cases h)⟩
theorem tok5 : TIok Tryz.prog tt 5 ti5 := fun _ => ⟨by kernel_rfl, by kernel_rfl, .inr (by kernel_rfl), (fun y h => by cases h; rfl), .inr rfl, (fun h => by cases h), by kernel_rfl, rfl, (fun _ => rfl), (fun h => by cases h), (fun k h j hj => by cases h; exact zero_of (by kernel_rfl) hj)⟩
theorem tok7 : TIok Tryz.prog tt 7 ti7 := fun _ => ⟨by kernel_rfl, by kernel_rfl, .inl rfl, (fun y h => by cases h), .inl rfl, (fun h => by cases h), by kernel_rfl, rfl, (fun h => by cases h), (fun h => by cases h), (fun k h => by cases h)⟩
theorem tok8 : TIok Tryz.prog tt 8 ti8 := fun _ => ⟨by kernel_rfl, by kernel_rfl, .inl rfl, (fun y h => by cases h), .inl rfl, (fun h => by cases h), by kernel_rfl, rfl, (fun h => by cases h), (fun h => by cases h), (fun k h => by cases h)⟩
theorem tok9 : TIok Tryz.prog tt 9 ti9 := fun _ => ⟨by kernel_rfl, by kernel_rfl, .inr (by kernel_rfl), (fun y h => by cases h; rfl), .inr rfl, (fun h => by cases h), by kernel_rfl, rfl, (fun h => by cases h), (fun h => by cases h), (fun k h => by cases h)⟩
theorem tok10 : TIok Tryz.prog tt 10 ti10 := fun _ => ⟨by kernel_rfl, by kernel_rfl, .inr (by kernel_rfl), (fun y h => by cases h; rfl), .inr rfl, (fun h => by cases h), by kernel_rfl, rfl, (fun h => by cases h), (fun h => by cases h), (fun k h => by cases h)⟩
theorem tok11 : TIok Tryz.prog tt 11 ti11 := fun _ => ⟨by kernel_rfl, by kernel_rfl, .inr (by kernel_rfl), (fun y h => by cases h; rfl), .inr rfl, (fun h => by cases h), by kernel_rfl, rfl, (fun h => by cases h), (fun h => by cases h), (fun k h => by cases h)⟩
theorem tok12 : TIok Tryz.prog tt 12 ti12 := fun _ => ⟨by kernel_rfl, by kernel_rfl, .inr (by kernel_rfl), (fun y h => by cases h; rfl), .inr rfl, (fun h => by cases h), by kernel_rfl, rfl, (fun h => by cases h), (fun h => by cases h), (fun k h j hj => by cases h; exact zero_of (by kernel_rfl) hj)⟩
theorem tok13 : TIok Tryz.prog tt 13 ti13 := fun _ => ⟨by kernel_rfl, by kernel_rfl, .inr (by kernel_rfl), (fun y h => by cases h; rfl), .inl rfl, (fun h => by cases h), by kernel_rfl, rfl, (fun h => by cases h), (fun h => by cases h), (fun k h => by cases h)⟩
theorem tok14 : TIok Tryz.prog tt 14 ti14 := fun _ => ⟨by kernel_rfl, by kernel_rfl, .inr (by kernel_rfl), (fun y h => by cases h; rfl), .inl rfl, (fun h => by cases h), by kernel_rfl, rfl, (fun h => by cases h), (fun h => by cases h), (fun k h => by cases h)⟩
theorem tok15 : TIok Tryz.prog tt 15 ti15 := fun _ => ⟨by kernel_rfl, by kernel_rfl, .inl rfl, (fun y h => by cases h), .inr rfl, (fun h => by cases h), by kernel_rfl, rfl, (fun h => by cases h), (fun h => by cases h), (fun k h => by cases h)⟩
theorem tok16 : TIok Tryz.prog tt 16 ti16 := fun _ => ⟨by kernel_rfl, by kernel_rfl, .inl rfl, (fun y h => by cases h), .inr rfl, (fun h => by cases h), by kernel_rfl, rfl, (fun h => by cases h), (fun h => by cases h), (fun k h => by cases h)⟩
theorem tok17 : TIok Tryz.prog tt 17 ti17 := fun _ => ⟨by kernel_rfl, by kernel_rfl, .inl rfl, (fun y h => by cases h), .inr rfl, (fun h => by cases h), by kernel_rfl, rfl, (fun h => by cases h), (fun h => by cases h), (fun k h => by cases h)⟩
theorem tok18 : TIok Tryz.prog tt 18 ti18 := fun _ => ⟨by kernel_rfl, by kernel_rfl, .inl rfl, (fun y h => by cases h), .inl rfl, (fun h => by cases h), by kernel_rfl, rfl, (fun h => by cases h), (fun h => by cases h), (fun k h => by cases h)⟩
theorem tok19 : TIok Tryz.prog tt 19 ti19 := fun _ => ⟨by kernel_rfl, by kernel_rfl, .inl rfl, (fun y h => by cases h), .inl rfl, (fun h => by cases h), by kernel_rfl, rfl, (fun h => by cases h), (fun h => by cases h), (fun k h => by cases h)⟩
theorem tok21 : TIok Tryz.prog tt 21 ti21 := fun _ => ⟨by kernel_rfl, by kernel_rfl, .inr (by kernel_rfl), (fun y h => by cases h; rfl), .inr rfl, (fun h => by cases h), by kernel_rfl, rfl, (fun h => by cases h), (fun h => by cases h), (fun k h j hj => by cases h; exact zero_of (by kernel_rfl) hj)⟩
theorem tok22 : TIok Tryz.prog tt 22 ti22 := fun _ => ⟨by kernel_rfl, by kernel_rfl, .inr (by kernel_rfl), (fun y h => by cases h; rfl), .inr rfl, (fun h => by cases h), by kernel_rfl, rfl, (fun h => by cases h), (fun h => by cases h), (fun k h => by cases h)⟩
theorem tok23 : TIok Tryz.prog tt 23 ti23 := fun _ => ⟨by kernel_rfl, by kernel_rfl, .inl rfl, (fun y h => by cases h), .inr rfl, (fun h => by cases h), by kernel_rfl, rfl, (fun h => by cases h), (fun h => by cases h), (fun k h => by cases h)⟩
theorem tok24 : TIok Tryz.prog tt 24 ti24 := fun _ => ⟨by kernel_rfl, by kernel_rfl, .inl rfl, (fun y h => by cases h), .inr rfl, (fun h => by cases h), by kernel_rfl, rfl, (fun h => by cases h), (fun h => by cases h), (fun k h => by cases h)⟩
theorem tok25 : TIok Tryz.prog tt 25 ti25 := fun _ => ⟨by kernel_rfl, by kernel_rfl, .inl rfl, (fun y h => by cases h), .inr rfl, (fun h => by cases h), by kernel_rfl, rfl, (fun h => by cases h), (fun h => by cases h), (fun k h => by cases h)⟩
theorem tok26 : TIok Tryz.prog tt 26 ti26 := fun _ => ⟨by kernel_rfl, by kernel_rfl, .inr (by kernel_rfl), (fun y h => by cases h; rfl), .inl rfl, (fun h => by cases h), by kernel_rfl, rfl, (fun h => by cases h), (fun h => by cases h), (fun k h => by cases h)⟩
theorem tok27 : TIok Tryz.prog tt 27 ti27 := fun _ => ⟨by kernel_rfl, by kernel_rfl, .inr (by kernel_rfl), (fun y h => by cases h; rfl), .inl rfl, (fun _ => ⟨by kernel_rfl, by kernel_rfl, by kernel_rfl⟩), by kernel_rfl, rfl, (fun h => by cases h), (fun h => by cases h), (fun k h => by cases h)⟩
theorem tok28 : TIok Tryz.prog tt 28 ti28 := fun _ => ⟨by kernel_rfl, by kernel_rfl, .inr (by kernel_rfl), (fun y h => by cases h; rfl), .inr rfl, (fun h => by cases h), by kernel_rfl, rfl, (fun h => by cases h), (fun h => by cases h), (fun k h j hj => by cases h; exact zero_of (by kernel_rfl) hj)⟩
theorem tok30 : TIok Tryz.prog tt 30 ti30 := fun _ => ⟨by kernel_rfl, by kernel_rfl, .inl rfl, (fun y h => by cases h), .inr rfl, (fun h => by cases h), by kernel_rfl, rfl, (fun h => by cases h), (fun h => by cases h), (fun k h => by cases h)⟩
theorem tok31 : TIok Tryz.prog tt 31 ti31 := fun _ => ⟨by kernel_rfl, by kernel_rfl, .inl rfl, (fun y h => by cases h), .inr rfl, (fun h => by cases h), by kernel_rfl, rfl, (fun h => by cases h), (fun h => by cases h), (fun k h => by cases h)⟩
theorem tok32 : TIok Tryz.prog tt 32 ti32 := fun _ => ⟨by kernel_rfl, by kernel_rfl, .inl rfl, (fun y h => by cases h), .inr rfl, (fun h => by cases h), by kernel_rfl, rfl, (fun h => by cases h), (fun h => by cases h), (fun k h => by cases h)⟩
theorem tok33 : TIok Tryz.prog tt 33 ti33 := fun _ => ⟨by kernel_rfl, by kernel_rfl, .inl rfl, (fun y h => by cases h), .inr rfl, (fun h => by cases h), by kernel_rfl, rfl, (fun h => by cases h), (fun h => by cases h), (fun k h => by cases h)⟩
theorem tok34 : TIok Tryz.prog tt 34 ti34 := fun _ => ⟨by kernel_rfl, by kernel_rfl, .inr (by kernel_rfl), (fun y h => by cases h; rfl), .inl rfl, (fun h => by cases h), by kernel_rfl, rfl, (fun h => by cases h), (fun h => by cases h), (fun k h => by cases h)⟩
theorem tok35 : TIok Tryz.prog tt 35 ti35 := fun _ => ⟨by kernel_rfl, by kernel_rfl, .inr (by kernel_rfl), (fun y h => by cases h; rfl), .inl rfl, (fun _ => ⟨by kernel_rfl, by kernel_rfl, by kernel_rfl⟩), by kernel_rfl, rfl, (fun h => by cases h), (fun h => by cases h), (fun k h => by cases h)⟩
theorem tok37 : TIok Tryz.prog tt 37 ti37 := fun _ => ⟨by kernel_rfl, by kernel_rfl, .inl rfl, (fun y h => by cases h), .inr rfl, (fun h => by cases h), by kernel_rfl, rfl, (fun h => by cases h), (fun h => by cases h), (fun k h => by cases h)⟩
theorem tok39 : TIok Tryz.prog tt 39 ti39 := fun _ => ⟨by kernel_rfl, by kernel_rfl, .inl rfl, (fun y h => by cases h), .inr rfl, (fun h => by cases h), by kernel_rfl, rfl, (fun h => by cases h), (fun h => by cases h), (fun k h => by cases h)⟩
theorem tok41 : TIok Tryz.prog tt 41 ti41 := fun _ => ⟨by kernel_rfl, by kernel_rfl, .inl rfl, (fun y h => by cases h), .inr rfl, (fun h => by cases h), by kernel_rfl, rfl, (fun h => by cases h), (fun h => by cases h), (fun k h => by cases h)⟩
theorem tok42 : TIok Tryz.prog tt 42 ti42 := fun _ => ⟨by kernel_rfl, by kernel_rfl, .inl rfl, (fun y h => by cases h), .inr rfl, (fun h => by cases h), by kernel_rfl, rfl, (fun h => by cases h), (fun h => by cases h), (fun k h => by cases h)⟩
theorem tok43 : TIok Tryz.prog tt 43 ti43 := fun _ => ⟨by kernel_rfl, by kernel_rfl, .inl rfl, (fun y h => by cases h), .inr rfl, (fun h => by cases h), by kernel_rfl, rfl, (fun h => by cases h), (fun h => by cases h), (fun k h => by cases h)⟩
theorem tok44 : TIok Tryz.prog tt 44 ti44 := fun _ => ⟨by kernel_rfl, by kernel_rfl, .inl rfl, (fun y h => by cases h), .inr rfl, (fun h => by cases h), by kernel_rfl, rfl, (fun h => by cases h), (fun h => by cases h), (fun k h => by cases h)⟩
theorem tok45 : TIok Tryz.prog tt 45 ti45 := fun _ => ⟨by kernel_rfl, by kernel_rfl, .inl rfl, (fun y h => by cases h), .inr rfl, (fun h => by cases h), by kernel_rfl, rfl, (fun h => by cases h), (fun h => by cases h), (fun k h => by cases h)⟩
theorem tok46 : TIok Tryz.prog tt 46 ti46 := fun _ => ⟨by kernel_rfl, by kernel_rfl, .inl rfl, (fun y h => by cases h), .inr rfl, (fun h => by cases h), by kernel_rfl, rfl, (fun h => by cases h), (fun h => by cases h), (fun k h => by cases h)⟩
theorem tok47 : TIok Tryz.prog tt 47 ti47 := fun _ => ⟨by kernel_rfl, by kernel_rfl, .inl rfl, (fun y h => by cases h), .inr rfl, (fun h => by cases h), by kernel_rfl, rfl, (fun h => by cases h), (fun h => by cases h), (fun k h => by cases h)⟩
theorem tok48 : TIok Tryz.prog tt 48 ti48 := fun _ => ⟨by kernel_rfl, by kernel_rfl, .inl rfl, (fun y h => by cases h), .inr rfl, (fun h => by cases h), by kernel_rfl, rfl, (fun h => by cases h), (fun h => by cases h), (fun k h => by cases h)⟩
theorem tok49 : TIok Tryz.prog tt 49 ti49 := fun _ => ⟨by kernel_rfl, by kernel_rfl, .inl rfl, (fun y h => by cases h), .inr rfl, (fun h => by cases h), by kernel_rfl, rfl, (fun h => by cases h), (fun h => by cases h), (fun k h => by cases h)⟩
theorem tok50 : TIok Tryz.prog tt 50 ti50 := fun _ => ⟨by kernel_rfl, by kernel_rfl, .inl rfl, (fun y h => by cases h), .inr rfl, (fun h => by cases h), by kernel_rfl, rfl, (fun h => by cases h), (fun h => by cases h), (fun k h => by cases h)⟩
theorem tok51 : TIok Tryz.prog tt 51 ti51 := fun _ => ⟨by kernel_rfl, by kernel_rfl, .inr (by kernel_rfl), (fun y h => by cases h; rfl), .inl rfl, (fun h => by cases h), by kernel_rfl, rfl, (fun h => by cases h), (fun h => by cases h), (fun k h => by cases h)⟩
theorem tok52 : TIok Tryz.prog tt 52 ti52 := fun _ => ⟨by kernel_rfl, by kernel_rfl, .inr (by kernel_rfl), (fun y h => by cases h; rfl), .inl rfl, (fun _ => ⟨by kernel_rfl, by kernel_rfl, by kernel_rfl⟩), by kernel_rfl, rfl, (fun h => by cases h), (fun h => by cases h), (fun k h => by cases h)⟩
theorem tok53 : TIok Tryz.prog tt 53 ti53 := fun _ => ⟨by kernel_rfl, by kernel_rfl, .inr (by kernel_rfl), (fun y h => by cases h; rfl), .inr rfl, (fun h => by cases h), by kernel_rfl, rfl, (fun h => by cases h), (fun h => by cases h), (fun k h => by cases h)⟩
theorem tok54 : TIok Tryz.prog tt 54 ti54 := fun _ => ⟨by kernel_rfl, by kernel_rfl, .inr (by kernel_rfl), (fun y h => by cases h; rfl), .inl rfl, (fun h => by cases h), by kernel_rfl, rfl, (fun h => by cases h), (fun h => by cases h), (fun k h => by cases h)⟩
theorem tok55 : TIok Tryz.prog tt 55 ti55 := fun _ => ⟨by kernel_rfl, by kernel_rfl, .inr (by kernel_rfl), (fun y h => by cases h; rfl), .inl rfl, (fun h => by cases h), by kernel_rfl, rfl, (fun h => by cases h), (fun h => by cases h), (fun k h => by cases h)⟩
theorem tok56 : TIok Tryz.prog tt 56 ti56 := fun _ => ⟨by kernel_rfl, by kernel_rfl, .inl rfl, (fun y h => by cases h), .inr rfl, (fun h => by cases h), by kernel_rfl, rfl, (fun h => by cases h), (fun h => by cases h), (fun k h => by cases h)⟩
theorem tok57 : TIok Tryz.prog tt 57 ti57 := fun _ => ⟨by kernel_rfl, by kernel_rfl, .inr (by kernel_rfl), (fun y h => by cases h; rfl), .inr rfl, (fun h => by cases h), by kernel_rfl, rfl, (fun h => by cases h), (fun h => by cases h), (fun k h => by cases h)⟩
theorem tok59 : TIok Tryz.prog tt 59 ti59 := fun _ => ⟨by kernel_rfl, by kernel_rfl, .inl rfl, (fun y h => by cases h), .inr rfl, (fun h => by cases h), by kernel_rfl, rfl, (fun h => by cases h), (fun h => by cases h), (fun k h => by cases h)⟩
theorem tok60 : TIok Tryz.prog tt 60 ti60 := fun _ => ⟨by kernel_rfl, by kernel_rfl, .inl rfl, (fun y h => by cases h), .inr rfl, (fun h => by cases h), by kernel_rfl, rfl, (fun h => by cases h), (fun h => by cases h), (fun k h => by cases h)⟩
theorem tok61 : TIok Tryz.prog tt 61 ti61 := fun _ => ⟨by kernel_rfl, by kernel_rfl, .inr (by kernel_rfl), (fun y h => by cases h; rfl), .inl rfl, (fun h => by cases h), by kernel_rfl, rfl, (fun h => by cases h), (fun h => by cases h), (fun k h => by cases h)⟩
theorem tok62 : TIok Tryz.prog tt 62 ti62 := fun _ => ⟨by kernel_rfl, by kernel_rfl, .inr (by kernel_rfl), (fun y h => by cases h; rfl), .inl rfl, (fun _ => ⟨by kernel_rfl, by kernel_rfl, by kernel_rfl⟩), by kernel_rfl, rfl, (fun h => by cases h), (fun h => by cases h), (fun k h => by cases h)⟩
theorem tok64 : TIok Tryz.prog tt 64 ti64 := fun _ => ⟨by kernel_rfl, by kernel_rfl, .inl rfl, (fun y h => by cases h), .inr rfl, (fun h => by cases h), by kernel_rfl, rfl, (fun h => by cases h), (fun h => by cases h), (fun k h => by cases h)⟩
theorem tok65 : TIok Tryz.prog tt 65 ti65 := fun _ => ⟨by kernel_rfl, by kernel_rfl, .inl rfl, (fun y h => by cases h), .inr rfl, (fun h => by cases h), by kernel_rfl, rfl, (fun h => by cases h), (fun h => by cases h), (fun k h => by cases h)⟩
theorem tok66 : TIok Tryz.prog tt 66 ti66 := fun _ => ⟨by kernel_rfl, by kernel_rfl, .inl rfl, (fun y h => by cases h), .inr rfl, (fun h => by cases h), by kernel_rfl, rfl, (fun h => by cases h), (fun h => by cases h), (fun k h => by cases h)⟩
theorem tok67 : TIok Tryz.prog tt 67 ti67 := fun _ => ⟨by kernel_rfl, by kernel_rfl, .inl rfl, (fun y h => by cases h), .inr rfl, (fun h => by cases h), by kernel_rfl, rfl, (fun h => by cases h), (fun h => by cases h), (fun k h => by cases h)⟩
theorem tok69 : TIok Tryz.prog tt 69 ti69 := fun _ => ⟨by kernel_rfl, by kernel_rfl, .inl rfl, (fun y h => by cases h), .inr rfl, (fun h => by cases h), by kernel_rfl, rfl, (fun h => by cases h), (fun h => by cases h), (fun k h => by cases h)⟩
theorem tok70 : TIok Tryz.prog tt 70 ti70 := fun _ => ⟨by kernel_rfl, by kernel_rfl, .inl rfl, (fun y h => by cases h), .inr rfl, (fun h => by cases h), by kernel_rfl, rfl, (fun h => by cases h), (fun h => by cases h), (fun k h => by cases h)⟩
theorem tok71 : TIok Tryz.prog tt 71 ti71 := fun _ => ⟨by kernel_rfl, by kernel_rfl, .inl rfl, (fun y h => by cases h), .inr rfl, (fun h => by cases h), by kernel_rfl, rfl, (fun h => by cases h), (fun h => by cases h), (fun k h => by cases h)⟩
theorem tok72 : TIok Tryz.prog tt 72 ti72 := fun _ => ⟨by kernel_rfl, by kernel_rfl, .inr (by kernel_rfl), (fun y h => by cases h; rfl), .inr rfl, (fun h => by cases h), by kernel_rfl, rfl, (fun h => by cases h), (fun h => by cases h), (fun k h => by cases h)⟩
theorem tok73 : TIok Tryz.prog tt 73 ti73 := fun _ => ⟨by kernel_rfl, by kernel_rfl, .inr (by kernel_rfl), (fun y h => by cases h; rfl), .inl rfl, (fun h => by cases h), by kernel_rfl, rfl, (fun h => by cases h), (fun h => by cases h), (fun k h => by cases h)⟩
theorem tok74 : TIok Tryz.prog tt 74 ti74 := fun _ => ⟨by kernel_rfl, by kernel_rfl, .inr (by kernel_rfl), (fun y h => by cases h; rfl), .inl rfl, (fun h => by cases h), by kernel_rfl, rfl, (fun h => by cases h), (fun h => by cases h), (fun k h => by cases h)⟩
theorem tok76 : TIok Tryz.prog tt 76 ti76 := fun _ => ⟨by kernel_rfl, by kernel_rfl, .inl rfl, (fun y h => by cases h), .inr rfl, (fun h => by cases h), by kernel_rfl, rfl, (fun h => by cases h), (fun h => by cases h), (fun k h => by cases h)⟩
theorem tok77 : TIok Tryz.prog tt 77 ti77 := fun _ => ⟨by kernel_rfl, by kernel_rfl, .inl rfl, (fun y h => by cases h), .inr rfl, (fun h => by cases h), by kernel_rfl, rfl, (fun h => by cases h), (fun h => by cases h), (fun k h => by cases h)⟩
theorem tok78 : TIok Tryz.prog tt 78 ti78 := fun _ => ⟨by kernel_rfl, by kernel_rfl, .inl rfl, (fun y h => by cases h), .inr rfl, (fun h => by cases h), by kernel_rfl, rfl, (fun h => by cases h), (fun h => by cases h), (fun k h => by cases h)⟩
theorem tok79 : TIok Tryz.prog tt 79 ti79 := fun _ => ⟨by kernel_rfl, by kernel_rfl, .inl rfl, (fun y h => by cases h), .inr rfl, (fun h => by cases h), by kernel_rfl, rfl, (fun h => by cases h), (fun h => by cases h), (fun k h => by cases h)⟩
theorem tok80 : TIok Tryz.prog tt 80 ti80 := fun _ => ⟨by kernel_rfl, by kernel_rfl, .inl rfl, (fun y h => by cases h), .inr rfl, (fun h => by cases h), by kernel_rfl, rfl, (fun h => by cases h), (fun h => by cases h), (fun k h => by cases h)⟩
theorem tok81 : TIok Tryz.prog tt 81 ti81 := fun _ => ⟨by kernel_rfl, by kernel_rfl, .inl rfl, (fun y h => by cases h), .inr rfl, (fun h => by cases h), by kernel_rfl, rfl, (fun h => by cases h), (fun h => by cases h), (fun k h => by cases h)⟩
theorem tok82 : TIok Tryz.prog tt 82 ti82 := fun _ => ⟨by kernel_rfl, by kernel_rfl, .inl rfl, (fun y h => by cases h), .inr rfl, (fun h => by cases h), by kernel_rfl, rfl, (fun h => by cases h), (fun h => by cases h), (fun k h => by cases h)⟩
theorem tok83 : TIok Tryz.prog tt 83 ti83 := fun _ => ⟨by kernel_rfl, by kernel_rfl, .inl rfl, (fun y h => by cases h), .inr rfl, (fun h => by cases h), by kernel_rfl, rfl, (fun h => by cases h), (fun h => by cases h), (fun k h => by cases h)⟩
theorem tok84 : TIok Tryz.prog tt 84 ti84 := fun _ => ⟨by kernel_rfl, by kernel_rfl, .inl rfl, (fun y h => by cases h), .inr rfl, (fun h => by cases h), by kernel_rfl, rfl, (fun h => by cases h), (fun h => by cases h), (fun k h => by cases h)⟩
theorem tok85 : TIok Tryz.prog tt 85 ti85 := fun _ => ⟨by kernel_rfl, by kernel_rfl, .inr (by kernel_rfl), (fun y h => by cases h; rfl), .inr rfl, (fun h => by cases h), by kernel_rfl, rfl, (fun h => by cases h), (fun h => by cases h), (fun k h => by cases h)⟩
theorem tok86 : TIok Tryz.prog tt 86 ti86 := fun _ => ⟨by kernel_rfl, by kernel_rfl, .inl rfl, (fun y h => by cases h), .inr rfl, (fun h => by cases h), by kernel_rfl, rfl, (fun h => by cases h), (fun h => by cases h), (fun k h => by cases h)⟩
theorem tok87 : TIok Tryz.prog tt 87 ti87 := fun _ => ⟨by kernel_rfl, by kernel_rfl, .inr (by kernel_rfl), (fun y h => by cases h; rfl), .inl rfl, (fun h => by cases h), by kernel_rfl, rfl, (fun h => by cases h), (fun h => by cases h), (fun k h => by cases h)⟩
theorem tok88 : TIok Tryz.prog tt 88 ti88 := fun _ => ⟨by kernel_rfl, by kernel_rfl, .inr (by kernel_rfl), (fun y h => by cases h; rfl), .inl rfl, (fun _ => ⟨by kernel_rfl, by kernel_rfl, by kernel_rfl⟩), by kernel_rfl, rfl, (fun h => by cases h), (fun h => by cases h), (fun k h => by cases h)⟩
theorem tok89 : TIok Tryz.prog tt 89 ti89 := fun _ => ⟨by kernel_rfl, by kernel_rfl, .inl rfl, (fun y h => by cases h), .inr rfl, (fun h => by cases h), by kernel_rfl, rfl, (fun h => by cases h), (fun h => by cases h), (fun k h => by cases h)⟩
theorem tok90 : TIok Tryz.prog tt 90 ti90 := fun _ => ⟨by kernel_rfl, by kernel_rfl, .inr (by kernel_rfl), (fun y h => by cases h; rfl), .inr rfl, (fun h => by cases h), by kernel_rfl, rfl, (fun h => by cases h), (fun h => by cases h), (fun k h => by cases h)⟩
theorem tok91 : TIok Tryz.prog tt 91 ti91 := fun _ => ⟨by kernel_rfl, by kernel_rfl, .inl rfl, (fun y h => by cases h), .inl rfl, (fun h => by cases h), by kernel_rfl, rfl, (fun h => by cases h), (fun h => by cases h), (fun k h => by cases h)⟩
theorem tok92 : TIok Tryz.prog tt 92 ti92 := fun _ => ⟨by kernel_rfl, by kernel_rfl, .inl rfl, (fun y h => by cases h), .inl rfl, (fun h => by cases h), by kernel_rfl, rfl, (fun h => by cases h), (fun _ => rfl), (fun k h => by cases h)⟩
theorem tok93 : TIok Tryz.prog tt 93 ti93 := fun _ => ⟨by kernel_rfl, by kernel_rfl, .inl rfl, (fun y h => by cases h), .inr rfl, (fun h => by cases h), by kernel_rfl, rfl, (fun h => by cases h), (fun h => by cases h), (fun k h => by cases h)⟩
theorem tok94 : TIok Tryz.prog tt 94 ti94 := fun _ => ⟨by kernel_rfl, by kernel_rfl, .inl rfl, (fun y h => by cases h), .inr rfl, (fun h => by cases h), by kernel_rfl, rfl, (fun h => by cases h), (fun h => by cases h), (fun k h => by cases h)⟩
theorem tok95 : TIok Tryz.prog tt 95 ti95 := fun _ => ⟨by kernel_rfl, by kernel_rfl, .inl rfl, (fun y h => by cases h), .inr rfl, (fun h => by cases h), by kernel_rfl, rfl, (fun h => by cases h), (fun h => by cases h), (fun k h => by cases h)⟩
theorem tok96 : TIok Tryz.prog tt 96 ti96 := fun _ => ⟨by kernel_rfl, by kernel_rfl, .inl rfl, (fun y h => by cases h), .inr rfl, (fun h => by cases h), by kernel_rfl, rfl, (fun h => by cases h), (fun h => by cases h), (fun k h => by cases h)⟩
theorem tok97 : TIok Tryz.prog tt 97 ti97 := fun _ => ⟨by kernel_rfl, by kernel_rfl, .inl rfl, (fun y h => by cases h), .inr rfl, (fun h => by cases h), by kernel_rfl, rfl, (fun h => by cases h), (fun h => by cases h), (fun k h => by cases h)⟩
theorem tok98 : TIok Tryz.prog tt 98 ti98 := fun _ => ⟨by kernel_rfl, by kernel_rfl, .inr (by kernel_rfl), (fun y h => by cases h; rfl), .inl rfl, (fun h => by cases h), by kernel_rfl, rfl, (fun h => by cases h), (fun h => by cases h), (fun k h => by cases h)⟩
theorem tok99 : TIok Tryz.prog tt 99 ti99 := fun _ => ⟨by kernel_rfl, by kernel_rfl, .inr (by kernel_rfl), (fun y h => by cases h; rfl), .inl rfl, (fun _ => ⟨by kernel_rfl, by kernel_rfl, by kernel_rfl⟩), by kernel_rfl, rfl, (fun h => by cases h), (fun h => by cases h), (fun k h => by cases h)⟩
theorem tok103 : TIok Tryz.prog tt 103 ti103 := fun _ => ⟨by kernel_rfl, by kernel_rfl, .inl rfl, (fun y h => by cases h), .inr rfl, (fun h => by cases h), by kernel_rfl, rfl, (fun h => by cases h), (fun h => by cases h), (fun k h => by cases h)⟩
theorem tok104 : TIok Tryz.prog tt 104 ti104 := fun _ => ⟨by kernel_rfl, by kernel_rfl, .inl rfl, (fun y h => by cases h), .inr rfl, (fun h => by cases h), by kernel_rfl, rfl, (fun h => by cases h), (fun h => by cases h), (fun k h => by cases h)⟩
theorem tok105 : TIok Tryz.prog tt 105 ti105 := fun _ => ⟨by kernel_rfl, by kernel_rfl, .inr (by kernel_rfl), (fun y h => by cases h; rfl), .inr rfl, (fun h => by cases h), by kernel_rfl, rfl, (fun h => by cases h), (fun h => by cases h), (fun k h => by cases h)⟩
theorem tok106 : TIok Tryz.prog tt 106 ti106 := fun _ => ⟨by kernel_rfl, by kernel_rfl, .inl rfl, (fun y h => by cases h), .inr rfl, (fun h => by cases h), by kernel_rfl, rfl, (fun h => by cases h), (fun h => by cases h), (fun k h => by cases h)⟩
theorem tok107 : TIok Tryz.prog tt 107 ti107 := fun _ => ⟨by kernel_rfl, by kernel_rfl, .inr (by kernel_rfl), (fun y h => by cases h; rfl), .inr rfl, (fun h => by cases h), by kernel_rfl, rfl, (fun h => by cases h), (fun h => by cases h), (fun k h => by cases h)⟩
theorem tok108 : TIok Tryz.prog tt 108 ti108 := fun _ => ⟨by kernel_rfl, by kernel_rfl, .inl rfl, (fun y h => by cases h), .inr rfl, (fun h => by cases h), by kernel_rfl, rfl, (fun h => by cases h), (fun h => by cases h), (fun k h => by cases h)⟩
theorem tok109 : TIok Tryz.prog tt 109 ti109 := fun _ => ⟨by kernel_rfl, by kernel_rfl, .inl rfl, (fun y h => by cases h), .inr rfl, (fun h => by cases h), by kernel_rfl, rfl, (fun h => by cases h), (fun h => by cases h), (fun k h => by cases h)⟩
theorem tok110 : TIok Tryz.prog tt 110 ti110 := fun _ => ⟨by kernel_rfl, by kernel_rfl, .inr (by kernel_rfl), (fun y h => by cases h; rfl), .inl rfl, (fun h => by cases h), by kernel_rfl, rfl, (fun h => by cases h), (fun h => by cases h), (fun k h => by cases h)⟩
theorem tok111 : TIok Tryz.prog tt 111 ti111 := fun _ => ⟨by kernel_rfl, by kernel_rfl, .inr (by kernel_rfl), (fun y h => by cases h; rfl), .inl rfl, (fun _ => ⟨by kernel_rfl, by kernel_rfl, by kernel_rfl⟩), by kernel_rfl, rfl, (fun h => by cases h), (fun h => by cases h), (fun k h => by cases h)⟩
theorem tok113 : TIok Tryz.prog tt 113 ti113 := fun _ => ⟨by kernel_rfl, by kernel_rfl, .inl rfl, (fun y h => by cases h), .inr rfl, (fun h => by cases h), by kernel_rfl, rfl, (fun h => by cases h), (fun h => by cases h), (fun k h => by cases h)⟩
theorem tok114 : TIok Tryz.prog tt 114 ti114 := fun _ => ⟨by kernel_rfl, by kernel_rfl, .inr (by kernel_rfl), (fun y h => by cases h; rfl), .inl rfl, (fun h => by cases h), by kernel_rfl, rfl, (fun h => by cases h), (fun h => by cases h), (fun k h => by cases h)⟩
theorem tok115 : TIok Tryz.prog tt 115 ti115 := fun _ => ⟨by kernel_rfl, by kernel_rfl, .inr (by kernel_rfl), (fun y h => by cases h; rfl), .inl rfl, (fun _ => ⟨by kernel_rfl, by kernel_rfl, by kernel_rfl⟩), by kernel_rfl, rfl, (fun h => by cases h), (fun h => by cases h), (fun k h => by cases h)⟩
theorem tok116 : TIok Tryz.prog tt 116 ti116 := fun _ => ⟨by kernel_rfl, by kernel_rfl, .inl rfl, (fun y h => by cases h), .inr rfl, (fun h => by cases h), by kernel_rfl, rfl, (fun h => by cases h), (fun h => by cases h), (fun k h => by cases h)⟩
theorem tok117 : TIok Tryz.prog tt 117 ti117 := fun _ => ⟨by kernel_rfl, by kernel_rfl, .inl rfl, (fun y h => by cases h), .inr rfl, (fun h => by cases h), by kernel_rfl, rfl, (fun h => by cases h), (fun h => by cases h), (fun k h => by cases h)⟩
theorem tok118 : TIok Tryz.prog tt 118 ti118 := fun _ => ⟨by kernel_rfl, by kernel_rfl, .inl rfl, (fun y h => by cases h), .inr rfl, (fun h => by cases h), by kernel_rfl, rfl, (fun h => by cases h), (fun h => by cases h), (fun k h => by cases h)⟩
theorem tok119 : TIok Tryz.prog tt 119 ti119 := fun _ => ⟨by kernel_rfl, by kernel_rfl, .inl rfl, (fun y h => by cases h), .inr rfl, (fun h => by cases h), by kernel_rfl, rfl, (fun h => by cases h), (fun h => by cases h), (fun k h => by cases h)⟩
theorem tok120 : TIok Tryz.prog tt 120 ti120 := fun _ => ⟨by kernel_rfl, by kernel_rfl, .inr (by kernel_rfl), (fun y h => by cases h; rfl), .inl rfl, (fun h => by cases h), by kernel_rfl, rfl, (fun h => by cases h), (fun h => by cases h), (fun k h => by cases h)⟩
theorem tok121 : TIok Tryz.prog tt 121 ti121 := fun _ => ⟨by kernel_rfl, by kernel_rfl, .inr (by kernel_rfl), (fun y h => by cases h; rfl), .inl rfl, (fun h => by cases h), by kernel_rfl, rfl, (fun h => by cases h), (fun h => by cases h), (fun k h => by cases h)⟩
theorem tok122 : TIok Tryz.prog tt 122 ti122 := fun _ => ⟨by kernel_rfl, by kernel_rfl, .inl rfl, (fun y h => by cases h), .inr rfl, (fun h => by cases h), by kernel_rfl, rfl, (fun h => by cases h), (fun h => by cases h), (fun k h => by cases h)⟩
theorem tok123 : TIok Tryz.prog tt 123 ti123 := fun _ => ⟨by kernel_rfl, by kernel_rfl, .inl rfl, (fun y h => by cases h), .inr rfl, (fun h => by cases h), by kernel_rfl, rfl, (fun h => by cases h), (fun h => by cases h), (fun k h => by cases h)⟩
theorem tok124 : TIok Tryz.prog tt 124 ti124 := fun _ => ⟨by kernel_rfl, by kernel_rfl, .inl rfl, (fun y h => by cases h), .inr rfl, (fun h => by cases h), by kernel_rfl, rfl, (fun h => by cases h), (fun h => by cases h), (fun k h => by cases h)⟩
theorem tok125 : TIok Tryz.prog tt 125 ti125 := fun _ => ⟨by kernel_rfl, by kernel_rfl, .inl rfl, (fun y h => by cases h), .inr rfl, (fun h => by cases h), by kernel_rfl, rfl, (fun h => by cases h), (fun h => by cases h), (fun k h => by cases h)⟩
theorem tok126 : TIok Tryz.prog tt 126 ti126 := fun _ => ⟨by kernel_rfl, by kernel_rfl, .inl rfl, (fun y h => by cases h), .inr rfl, (fun h => by cases h), by kernel_rfl, rfl, (fun h => by cases h), (fun h => by cases h), (fun k h => by cases h)⟩
theorem tok128 : TIok Tryz.prog tt 128 ti128 := fun _ => ⟨by kernel_rfl, by kernel_rfl, .inl rfl, (fun y h => by cases h), .inr rfl, (fun h => by cases h), by kernel_rfl, rfl, (fun h => by cases h), (fun h => by cases h), (fun k h => by cases h)⟩
theorem tok129 : TIok Tryz.prog tt 129 ti129 := fun _ => ⟨by kernel_rfl, by kernel_rfl, .inl rfl, (fun y h => by cases h), .inr rfl, (fun h => by cases h), by kernel_rfl, rfl, (fun h => by cases h), (fun h => by cases h), (fun k h => by cases h)⟩
theorem tok130 : TIok Tryz.prog tt 130 ti130 := fun _ => ⟨by kernel_rfl, by kernel_rfl, .inl rfl, (fun y h => by cases h), .inr rfl, (fun h => by cases h), by kernel_rfl, rfl, (fun h => by cases h), (fun h => by cases h), (fun k h => by cases h)⟩
theorem tok131 : TIok Tryz.prog tt 131 ti131 := fun _ => ⟨by kernel_rfl, by kernel_rfl, .inr (by kernel_rfl), (fun y h => by cases h; rfl), .inr rfl, (fun h => by cases h), by kernel_rfl, rfl, (fun h => by cases h), (fun h => by cases h), (fun k h => by cases h)⟩
theorem tok132 : TIok Tryz.prog tt 132 ti132 := fun _ => ⟨by kernel_rfl, by kernel_rfl, .inr (by kernel_rfl), (fun y h => by cases h; rfl), .inl rfl, (fun h => by cases h), by kernel_rfl, rfl, (fun h => by cases h), (fun h => by cases h), (fun k h => by cases h)⟩
theorem tok133 : TIok Tryz.prog tt 133 ti133 := fun _ => ⟨by kernel_rfl, by kernel_rfl, .inr (by kernel_rfl), (fun y h => by cases h; rfl), .inl rfl, (fun h => by cases h), by kernel_rfl, rfl, (fun h => by cases h), (fun h => by cases h), (fun k h => by cases h)⟩
theorem tok134 : TIok Tryz.prog tt 134 ti134 := fun _ => ⟨by kernel_rfl, by kernel_rfl, .inl rfl, (fun y h => by cases h), .inr rfl, (fun h => by cases h), by kernel_rfl, rfl, (fun h => by cases h), (fun h => by cases h), (fun k h => by cases h)⟩
theorem tok135 : TIok Tryz.prog tt 135 ti135 := fun _ => ⟨by kernel_rfl, by kernel_rfl, .inl rfl, (fun y h => by cases h), .inr rfl, (fun h => by cases h), by kernel_rfl, rfl, (fun h => by cases h), (fun h => by cases h), (fun k h => by cases h)⟩
theorem tok136 : TIok Tryz.prog tt 136 ti136 := fun _ => ⟨by kernel_rfl, by kernel_rfl, .inl rfl, (fun y h => by cases h), .inr rfl, (fun h => by cases h), by kernel_rfl, rfl, (fun h => by cases h), (fun h => by cases h), (fun k h => by cases h)⟩
theorem tok137 : TIok Tryz.prog tt 137 ti137 := fun _ => ⟨by kernel_rfl, by kernel_rfl, .inl rfl, (fun y h => by cases h), .inl rfl, (fun h => by cases h), by kernel_rfl, rfl, (fun h => by cases h), (fun h => by cases h), (fun k h => by cases h)⟩
theorem tok138 : TIok Tryz.prog tt 138 ti138 := fun _ => ⟨by kernel_rfl, by kernel_rfl, .inl rfl, (fun y h => by cases h), .inl rfl, (fun h => by cases h), by kernel_rfl, rfl, (fun h => by cases h), (fun h => by cases h), (fun k h => by cases h)⟩
theorem tok139 : TIok Tryz.prog tt 139 ti139 := fun _ => ⟨by kernel_rfl, by kernel_rfl, .inl rfl, (fun y h => by cases h), .inr rfl, (fun h => by cases h), by kernel_rfl, rfl, (fun h => by cases h), (fun h => by cases h), (fun k h => by cases h)⟩
theorem tok141 : TIok Tryz.prog tt 141 ti141 := fun _ => ⟨by kernel_rfl, by kernel_rfl, .inl rfl, (fun y h => by cases h), .inr rfl, (fun h => by cases h), by kernel_rfl, rfl, (fun h => by cases h), (fun h => by cases h), (fun k h => by cases h)⟩
theorem tok142 : TIok Tryz.prog tt 142 ti142 := fun _ => ⟨by kernel_rfl, by kernel_rfl, .inl rfl, (fun y h => by cases h), .inr rfl, (fun h => by cases h), by kernel_rfl, rfl, (fun h => by cases h), (fun h => by cases h), (fun k h => by cases h)⟩
theorem tok144 : TIok Tryz.prog tt 144 ti144 := fun _ => ⟨by kernel_rfl, by kernel_rfl, .inl rfl, (fun y h => by cases h), .inr rfl, (fun h => by cases h), by kernel_rfl, rfl, (fun h => by cases h), (fun h => by cases h), (fun k h => by cases h)⟩
theorem tok145 : TIok Tryz.prog tt 145 ti145 := fun _ => ⟨by kernel_rfl, by kernel_rfl, .inl rfl, (fun y h => by cases h), .inr rfl, (fun h => by cases h), by kernel_rfl, rfl, (fun h => by cases h), (fun h => by cases h), (fun k h => by cases h)⟩
theorem tok146 : TIok Tryz.prog tt 146 ti146 := fun _ => ⟨by kernel_rfl, by kernel_rfl, .inl rfl, (fun y h => by cases h), .inr rfl, (fun h => by cases h), by kernel_rfl, rfl, (fun h => by cases h), (fun h => by cases h), (fun k h => by cases h)⟩
theorem tok148 : TIok Tryz.prog tt 148 ti148 := fun _ => ⟨by kernel_rfl, by kernel_rfl, .inl rfl, (fun y h => by cases h), .inr rfl, (fun h => by cases h), by kernel_rfl, rfl, (fun h => by cases h), (fun h => by cases h), (fun k h => by cases h)⟩
theorem tok149 : TIok Tryz.prog tt 149 ti149 := fun _ => ⟨by kernel_rfl, by kernel_rfl, .inl rfl, (fun y h => by cases h), .inr rfl, (fun h => by cases h), by kernel_rfl, rfl, (fun h => by cases h), (fun h => by cases h), (fun k h => by cases h)⟩
theorem tok150 : TIok Tryz.prog tt 150 ti150 := fun _ => ⟨by kernel_rfl, by kernel_rfl, .inl rfl, (fun y h => by cases h), .inr rfl, (fun h => by cases h), by kernel_rfl, rfl, (fun h => by cases h), (fun h => by cases h), (fun k h => by cases h)⟩
theorem tok151 : TIok Tryz.prog tt 151 ti151 := fun _ => ⟨by kernel_rfl, by kernel_rfl, .inr (by kernel_rfl), (fun y h => by cases h; rfl), .inl rfl, (fun h => by cases h), by kernel_rfl, rfl, (fun h => by cases h), (fun h => by cases h), (fun k h => by cases h)⟩
theorem tok152 : TIok Tryz.prog tt 152 ti152 := fun _ => ⟨by kernel_rfl, by kernel_rfl, .inr (by kernel_rfl), (fun y h => by cases h; rfl), .inl rfl, (fun h => by cases h), by kernel_rfl, rfl, (fun h => by cases h), (fun h => by cases h), (fun k h => by cases h)⟩
theorem tok153 : TIok Tryz.prog tt 153 ti153 := fun _ => ⟨by kernel_rfl, by kernel_rfl, .inl rfl, (fun y h => by cases h), .inr rfl, (fun h => by cases h), by kernel_rfl, rfl, (fun h => by cases h), (fun h => by cases h), (fun k h => by cases h)⟩
theorem tok154 : TIok Tryz.prog tt 154 ti154 := fun _ => ⟨by kernel_rfl, by kernel_rfl, .inl rfl, (fun y h => by cases h), .inr rfl, (fun h => by cases h), by kernel_rfl, rfl, (fun h => by cases h), (fun h => by cases h), (fun k h => by cases h)⟩
theorem tok155 : TIok Tryz.prog tt 155 ti155 := fun _ => ⟨by kernel_rfl, by kernel_rfl, .inl rfl, (fun y h => by cases h), .inr rfl, (fun h => by cases h), by kernel_rfl, rfl, (fun h => by cases h), (fun h => by cases h), (fun k h => by cases h)⟩
theorem tok156 : TIok Tryz.prog tt 156 ti156 := fun _ => ⟨by kernel_rfl, by kernel_rfl, .inl rfl, (fun y h => by cases h), .inr rfl, (fun h => by cases h), by kernel_rfl, rfl, (fun h => by cases h), (fun h => by cases h), (fun k h => by cases h)⟩
theorem tok157 : TIok Tryz.prog tt 157 ti157 := fun _ => ⟨by kernel_rfl, by kernel_rfl, .inl rfl, (fun y h => by cases h), .inr rfl, (fun h => by cases h), by kernel_rfl, rfl, (fun h => by cases h), (fun h => by cases h), (fun k h => by cases h)⟩
theorem tok158 : TIok Tryz.prog tt 158 ti158 := fun _ => ⟨by kernel_rfl, by kernel_rfl, .inl rfl, (fun y h => by cases h), .inr rfl, (fun h => by cases h), by kernel_rfl, rfl, (fun h => by cases h), (fun h => by cases h), (fun k h => by cases h)⟩
theorem tok159 : TIok Tryz.prog tt 159 ti159 := fun _ => ⟨by kernel_rfl, by kernel_rfl, .inl rfl, (fun y h => by cases h), .inr rfl, (fun h => by cases h), by kernel_rfl, rfl, (fun h => by cases h), (fun h => by cases h), (fun k h => by cases h)⟩
theorem tok160 : TIok Tryz.prog tt 160 ti160 := fun _ => ⟨by kernel_rfl, by kernel_rfl, .inl rfl, (fun y h => by cases h), .inr rfl, (fun h => by cases h), by kernel_rfl, rfl, (fun h => by cases h), (fun h => by cases h), (fun k h => by cases h)⟩
theorem tok161 : TIok Tryz.prog tt 161 ti161 := fun _ => ⟨by kernel_rfl, by kernel_rfl, .inl rfl, (fun y h => by cases h), .inr rfl, (fun h => by cases h), by kernel_rfl, rfl, (fun h => by cases h), (fun h => by cases h), (fun k h => by cases h)⟩
theorem tok162 : TIok Tryz.prog tt 162 ti162 := fun _ => ⟨by kernel_rfl, by kernel_rfl, .inl rfl, (fun y h => by cases h), .inr rfl, (fun h => by cases h), by kernel_rfl, rfl, (fun h => by cases h), (fun h => by cases h), (fun k h => by cases h)⟩
theorem tok163 : TIok Tryz.prog tt 163 ti163 := fun _ => ⟨by kernel_rfl, by kernel_rfl, .inl rfl, (fun y h => by cases h), .inr rfl, (fun h => by cases h), by kernel_rfl, rfl, (fun h => by cases h), (fun h => by cases h), (fun k h => by cases h)⟩
theorem tok164 : TIok Tryz.prog tt 164 ti164 := fun _ => ⟨by kernel_rfl, by kernel_rfl, .inl rfl, (fun y h => by cases h), .inr rfl, (fun h => by cases h), by kernel_rfl, rfl, (fun h => by cases h), (fun h => by cases h), (fun k h => by cases h)⟩
theorem tok166 : TIok Tryz.prog tt 166 ti166 := fun _ => ⟨by kernel_rfl, by kernel_rfl, .inl rfl, (fun y h => by cases h), .inr rfl, (fun h => by cases h), by kernel_rfl, rfl, (fun h => by cases h), (fun h => by cases h), (fun k h => by cases h)⟩
theorem tok167 : TIok Tryz.prog tt 167 ti167 := fun _ => ⟨by kernel_rfl, by kernel_rfl, .inl rfl, (fun y h => by cases h), .inr rfl, (fun h => by cases h), by kernel_rfl, rfl, (fun h => by cases h), (fun h => by cases h), (fun k h => by cases h)⟩
theorem tok168 : TIok Tryz.prog tt 168 ti168 := fun _ => ⟨by kernel_rfl, by kernel_rfl, .inl rfl, (fun y h => by cases h), .inr rfl, (fun h => by cases h), by kernel_rfl, rfl, (fun h => by cases h), (fun h => by cases h), (fun k h => by cases h)⟩
theorem tok169 : TIok Tryz.prog tt 169 ti169 := fun _ => ⟨by kernel_rfl, by kernel_rfl, .inl rfl, (fun y h => by cases h), .inr rfl, (fun h => by cases h), by kernel_rfl, rfl, (fun h => by cases h), (fun h => by cases h), (fun k h => by cases h)⟩
theorem tok170 : TIok Tryz.prog tt 170 ti170 := fun _ => ⟨by kernel_rfl, by kernel_rfl, .inl rfl, (fun y h => by cases h), .inr rfl, (fun h => by cases h), by kernel_rfl, rfl, (fun h => by cases h), (fun h => by cases h), (fun k h => by cases h)⟩
theorem tok171 : TIok Tryz.prog tt 171 ti171 := fun _ => ⟨by kernel_rfl, by kernel_rfl, .inl rfl, (fun y h => by cases h), .inr rfl, (fun h => by cases h), by kernel_rfl, rfl, (fun h => by cases h), (fun h => by cases h), (fun k h => by cases h)⟩
theorem tok173 : TIok Tryz.prog tt 173 ti173 := fun _ => ⟨by kernel_rfl, by kernel_rfl, .inl rfl, (fun y h => by cases h), .inr rfl, (fun h => by cases h), by kernel_rfl, rfl, (fun h => by cases h), (fun h => by cases h), (fun k h => by cases h)⟩
theorem tok174 : TIok Tryz.prog tt 174 ti174 := fun _ => ⟨by kernel_rfl, by kernel_rfl, .inr (by kernel_rfl), (fun y h => by cases h; rfl), .inl rfl, (fun h => by cases h), by kernel_rfl, rfl, (fun h => by cases h), (fun h => by cases h), (fun k h => by cases h)⟩
theorem tok175 : TIok Tryz.prog tt 175 ti175 := fun _ => ⟨by kernel_rfl, by kernel_rfl, .inr (by kernel_rfl), (fun y h => by cases h; rfl), .inl rfl, (fun _ => ⟨by kernel_rfl, by kernel_rfl, by kernel_rfl⟩), by kernel_rfl, rfl, (fun h => by cases h), (fun h => by cases h), (fun k h => by cases h)⟩
theorem tok176 : TIok Tryz.prog tt 176 ti176 := fun _ => ⟨by kernel_rfl, by kernel_rfl, .inl rfl, (fun y h => by cases h), .inr rfl, (fun h => by cases h), by kernel_rfl, rfl, (fun h => by cases h), (fun h => by cases h), (fun k h => by cases h)⟩
theorem tok177 : TIok Tryz.prog tt 177 ti177 := fun _ => ⟨by kernel_rfl, by kernel_rfl, .inl rfl, (fun y h => by cases h), .inr rfl, (fun h => by cases h), by kernel_rfl, rfl, (fun h => by cases h), (fun h => by cases h), (fun k h => by cases h)⟩
theorem tok178 : TIok Tryz.prog tt 178 ti178 := fun _ => ⟨by kernel_rfl, by kernel_rfl, .inl rfl, (fun y h => by cases h), .inr rfl, (fun h => by cases h), by kernel_rfl, rfl, (fun h => by cases h), (fun h => by cases h), (fun k h => by cases h)⟩
theorem tok179 : TIok Tryz.prog tt 179 ti179 := fun _ => ⟨by kernel_rfl, by kernel_rfl, .inl rfl, (fun y h => by cases h), .inr rfl, (fun h => by cases h), by kernel_rfl, rfl, (fun h => by cases h), (fun h => by cases h), (fun k h => by cases h)⟩
theorem tok180 : TIok Tryz.prog tt 180 ti180 := fun _ => ⟨by kernel_rfl, by kernel_rfl, .inl rfl, (fun y h => by cases h), .inr rfl, (fun h => by cases h), by kernel_rfl, rfl, (fun h => by cases h), (fun h => by cases h), (fun k h => by cases h)⟩
theorem tok181 : TIok Tryz.prog tt 181 ti181 := fun _ => ⟨by kernel_rfl, by kernel_rfl, .inl rfl, (fun y h => by cases h), .inr rfl, (fun h => by cases h), by kernel_rfl, rfl, (fun h => by cases h), (fun h => by cases h), (fun k h => by cases h)⟩
theorem tok183 : TIok Tryz.prog tt 183 ti183 := fun _ => ⟨by kernel_rfl, by kernel_rfl, .inl rfl, (fun y h => by cases h), .inr rfl, (fun h => by cases h), by kernel_rfl, rfl, (fun h => by cases h), (fun h => by cases h), (fun k h => by cases h)⟩
theorem tok184 : TIok Tryz.prog tt 184 ti184 := fun _ => ⟨by kernel_rfl, by kernel_rfl, .inl rfl, (fun y h => by cases h), .inr rfl, (fun h => by cases h), by kernel_rfl, rfl, (fun h => by cases h), (fun h => by cases h), (fun k h => by cases h)⟩
theorem tok185 : TIok Tryz.prog tt 185 ti185 := fun _ => ⟨by kernel_rfl, by kernel_rfl, .inl rfl, (fun y h => by cases h), .inr rfl, (fun h => by cases h), by kernel_rfl, rfl, (fun h => by cases h), (fun h => by cases h), (fun k h => by cases h)⟩
theorem tok186 : TIok Tryz.prog tt 186 ti186 := fun _ => ⟨by kernel_rfl, by kernel_rfl, .inl rfl, (fun y h => by cases h), .inr rfl, (fun h => by cases h), by kernel_rfl, rfl, (fun h => by cases h), (fun h => by cases h), (fun k h => by cases h)⟩
theorem tok187 : TIok Tryz.prog tt 187 ti187 := fun _ => ⟨by kernel_rfl, by kernel_rfl, .inl rfl, (fun y h => by cases h), .inr rfl, (fun h => by cases h), by kernel_rfl, rfl, (fun h => by cases h), (fun h => by cases h), (fun k h => by cases h)⟩
theorem tok188 : TIok Tryz.prog tt 188 ti188 := fun _ => ⟨by kernel_rfl, by kernel_rfl, .inl rfl, (fun y h => by cases h), .inr rfl, (fun h => by cases h), by kernel_rfl, rfl, (fun h => by cases h), (fun h => by cases h), (fun k h => by cases h)⟩
theorem tok189 : TIok Tryz.prog tt 189 ti189 := fun _ => ⟨by kernel_rfl, by kernel_rfl, .inl rfl, (fun y h => by cases h), .inr rfl, (fun h => by cases h), by kernel_rfl, rfl, (fun h => by cases h), (fun h => by cases h), (fun k h => by cases h)⟩
theorem tok190 : TIok Tryz.prog tt 190 ti190 := fun _ => ⟨by kernel_rfl, by kernel_rfl, .inl rfl, (fun y h => by cases h), .inr rfl, (fun h => by cases h), by kernel_rfl, rfl, (fun h => by cases h), (fun h => by cases h), (fun k h => by cases h)⟩
theorem tok194 : TIok Tryz.prog tt 194 ti194 := fun _ => ⟨by kernel_rfl, by kernel_rfl, .inl rfl, (fun y h => by cases h), .inr rfl, (fun h => by cases h), by kernel_rfl, rfl, (fun h => by cases h), (fun h => by cases h), (fun k h => by cases h)⟩
theorem tok195 : TIok Tryz.prog tt 195 ti195 := fun _ => ⟨by kernel_rfl, by kernel_rfl, .inl rfl, (fun y h => by cases h), .inr rfl, (fun h => by cases h), by kernel_rfl, rfl, (fun h => by cases h), (fun h => by cases h), (fun k h => by cases h)⟩
theorem tok196 : TIok Tryz.prog tt 196 ti196 := fun _ => ⟨by kernel_rfl, by kernel_rfl, .inl rfl, (fun y h => by cases h), .inr rfl, (fun h => by cases h), by kernel_rfl, rfl, (fun h => by cases h), (fun h => by cases h), (fun k h => by cases h)⟩
theorem tok197 : TIok Tryz.prog tt 197 ti197 := fun _ => ⟨by kernel_rfl, by kernel_rfl, .inl rfl, (fun y h => by cases h), .inr rfl, (fun h => by cases h), by kernel_rfl, rfl, (fun h => by cases h), (fun h => by cases h), (fun k h => by cases h)⟩
theorem tok198 : TIok Tryz.prog tt 198 ti198 := fun _ => ⟨by kernel_rfl, by kernel_rfl, .inl rfl, (fun y h => by cases h), .inr rfl, (fun h => by cases h), by kernel_rfl, rfl, (fun h => by cases h), (fun h => by cases h), (fun k h => by cases h)⟩
theorem tok199 : TIok Tryz.prog tt 199 ti199 := fun _ => ⟨by kernel_rfl, by kernel_rfl, .inl rfl, (fun y h => by cases h), .inr rfl, (fun h => by cases h), by kernel_rfl, rfl, (fun h => by cases h), (fun h => by cases h), (fun k h => by cases h)⟩
theorem tok200 : TIok Tryz.prog tt 200 ti200 := fun _ => ⟨by kernel_rfl, by kernel_rfl, .inr (by kernel_rfl), (fun y h => by cases h; rfl), .inr rfl, (fun h => by cases h), by kernel_rfl, rfl, (fun h => by cases h), (fun h => by cases h), (fun k h j hj => by cases h; exact zero_of (by kernel_rfl) hj)⟩
theorem tok202 : TIok Tryz.prog tt 202 ti202 := fun _ => ⟨by kernel_rfl, by kernel_rfl, .inr (by kernel_rfl), (fun y h => by cases h; rfl), .inl rfl, (fun h => by cases h), by kernel_rfl, rfl, (fun h => by cases h), (fun h => by cases h), (fun k h => by cases h)⟩
theorem tok203 : TIok Tryz.prog tt 203 ti203 := fun _ => ⟨by kernel_rfl, by kernel_rfl, .inr (by kernel_rfl), (fun y h => by cases h; rfl), .inl rfl, (fun h => by cases h), by kernel_rfl, rfl, (fun h => by cases h), (fun h => by cases h), (fun k h => by cases h)⟩
theorem tok205 : TIok Tryz.prog tt 205 ti205 := fun _ => ⟨by kernel_rfl, by kernel_rfl, .inl rfl, (fun y h => by cases h), .inr rfl, (fun h => by cases h), by kernel_rfl, rfl, (fun h => by cases h), (fun h => by cases h), (fun k h => by cases h)⟩
theorem tok206 : TIok Tryz.prog tt 206 ti206 := fun _ => ⟨by kernel_rfl, by kernel_rfl, .inr (by kernel_rfl), (fun y h => by cases h; rfl), .inr rfl, (fun h => by cases h), by kernel_rfl, rfl, (fun h => by cases h), (fun h => by cases h), (fun k h j hj => by cases h; exact zero_of (by kernel_rfl) hj)⟩
theorem tok208 : TIok Tryz.prog tt 208 ti208 := fun _ => ⟨by kernel_rfl, by kernel_rfl, .inl rfl, (fun y h => by cases h), .inr rfl, (fun h => by cases h), by kernel_rfl, rfl, (fun h => by cases h), (fun h => by cases h), (fun k h => by cases h)⟩
theorem tok209 : TIok Tryz.prog tt 209 ti209 := fun _ => ⟨by kernel_rfl, by kernel_rfl, .inl rfl, (fun y h => by cases h), .inr rfl, (fun h => by cases h), by kernel_rfl, rfl, (fun h => by cases h), (fun h => by cases h), (fun k h => by cases h)⟩
theorem tok210 : TIok Tryz.prog tt 210 ti210 := fun _ => ⟨by kernel_rfl, by kernel_rfl, .inl rfl, (fun y h => by cases h), .inr rfl, (fun h => by cases h), by kernel_rfl, rfl, (fun h => by cases h), (fun h => by cases h), (fun k h => by cases h)⟩
theorem tok211 : TIok Tryz.prog tt 211 ti211 := fun _ => ⟨by kernel_rfl, by kernel_rfl, .inl rfl, (fun y h => by cases h), .inr rfl, (fun h => by cases h), by kernel_rfl, rfl, (fun h => by cases h), (fun h => by cases h), (fun k h => by cases h)⟩
theorem tok212 : TIok Tryz.prog tt 212 ti212 := fun _ => ⟨by kernel_rfl, by kernel_rfl, .inl rfl, (fun y h => by cases h), .inl rfl, (fun h => by cases h), by kernel_rfl, rfl, (fun h => by cases h), (fun h => by cases h), (fun k h => by cases h)⟩
theorem tok213 : TIok Tryz.prog tt 213 ti213 := fun _ => ⟨by kernel_rfl, by kernel_rfl, .inl rfl, (fun y h => by cases h), .inl rfl, (fun h => by cases h), by kernel_rfl, rfl, (fun h => by cases h), (fun h => by cases h), (fun k h => by cases h)⟩
theorem tok219 : TIok Tryz.prog tt 219 ti219 := fun _ => ⟨by kernel_rfl, by kernel_rfl, .inl rfl, (fun y h => by cases h), .inr rfl, (fun h => by cases h), by kernel_rfl, rfl, (fun h => by cases h), (fun h => by cases h), (fun k h => by cases h)⟩
theorem tok220 : TIok Tryz.prog tt 220 ti220 := fun _ => ⟨by kernel_rfl, by kernel_rfl, .inr (by kernel_rfl), (fun y h => by cases h; rfl), .inr rfl, (fun h => by cases h), by kernel_rfl, rfl, (fun h => by cases h), (fun h => by cases h), (fun k h j hj => by cases h; exact zero_of (by kernel_rfl) hj)⟩
theorem tok221 : TIok Tryz.prog tt 221 ti221 := fun _ => ⟨by kernel_rfl, by kernel_rfl, .inr (by kernel_rfl), (fun y h => by cases h; rfl), .inr rfl, (fun h => by cases h), by kernel_rfl, rfl, (fun h => by cases h), (fun h => by cases h), (fun k h j hj => by cases h; exact zero_of (by kernel_rfl) hj)⟩
theorem tok222 : TIok Tryz.prog tt 222 ti222 := fun _ => ⟨by kernel_rfl, by kernel_rfl, .inl rfl, (fun y h => by cases h), .inl rfl, (fun h => by cases h), by kernel_rfl, rfl, (fun h => by cases h), (fun h => by cases h), (fun k h => by cases h)⟩
theorem tok223 : TIok Tryz.prog tt 223 ti223 := fun _ => ⟨by kernel_rfl, by kernel_rfl, .inl rfl, (fun y h => by cases h), .inl rfl, (fun h => by cases h), by kernel_rfl, rfl, (fun h => by cases h), (fun h => by cases h), (fun k h => by cases h)⟩
theorem tok : TOk Tryz.prog tt := TOk.of_all (⟨tok109, ⟨tok54, ⟨tok26, ⟨tok13, ⟨tok7, ⟨tok3, ⟨tok2, ⟨tok1, trivial, trivial⟩, trivial⟩, ⟨tok5, ⟨tok4, trivial, trivial⟩, trivial⟩⟩, ⟨tok10, ⟨tok9, ⟨tok8, trivial, trivial⟩, trivial⟩, ⟨tok12, ⟨tok11, trivial, trivial⟩, trivial⟩⟩⟩, ⟨tok19, ⟨tok16, ⟨tok15, ⟨tok14, trivial, trivial⟩, trivial⟩, ⟨tok18, ⟨tok17, trivial, trivial⟩, trivial⟩⟩, ⟨tok23, ⟨tok22, ⟨tok21, trivial, trivial⟩, trivial⟩, ⟨tok25, ⟨tok24, trivial, trivial⟩, trivial⟩⟩⟩⟩, ⟨tok42, ⟨tok33, ⟨tok30, ⟨tok28, ⟨tok27, trivial, trivial⟩, trivial⟩, ⟨tok32, ⟨tok31, trivial, trivial⟩, trivial⟩⟩, ⟨tok37, ⟨tok35, ⟨tok34, trivial, trivial⟩, trivial⟩, ⟨tok41, ⟨tok39, trivial, trivial⟩, trivial⟩⟩⟩, ⟨tok48, ⟨tok45, ⟨tok44, ⟨tok43, trivial, trivial⟩, trivial⟩, ⟨tok47, ⟨tok46, trivial, trivial⟩, trivial⟩⟩, ⟨tok51, ⟨tok50, ⟨tok49, trivial, trivial⟩, trivial⟩, ⟨tok53, ⟨tok52, trivial, trivial⟩, trivial⟩⟩⟩⟩⟩, ⟨tok82, ⟨tok69, ⟨tok61, ⟨tok57, ⟨tok56, ⟨tok55, trivial, trivial⟩, trivial⟩, ⟨tok60, ⟨tok59, trivial, trivial⟩, trivial⟩⟩, ⟨tok65, ⟨tok64, ⟨tok62, trivial, trivial⟩, trivial⟩, ⟨tok67, ⟨tok66, trivial, trivial⟩, trivial⟩⟩⟩, ⟨tok76, ⟨tok72, ⟨tok71, ⟨tok70, trivial, trivial⟩, trivial⟩, ⟨tok74, ⟨tok73, trivial, trivial⟩, trivial⟩⟩, ⟨tok79, ⟨tok78, ⟨tok77, trivial, trivial⟩, trivial⟩, ⟨tok81, ⟨tok80, trivial, trivial⟩, trivial⟩⟩⟩⟩, ⟨tok94, ⟨tok88, ⟨tok85, ⟨tok84, ⟨tok83, trivial, trivial⟩, trivial⟩, ⟨tok87, ⟨tok86, trivial, trivial⟩, trivial⟩⟩, ⟨tok91, ⟨tok90, ⟨tok89, trivial, trivial⟩, trivial⟩, ⟨tok93, ⟨tok92, trivial, trivial⟩, trivial⟩⟩⟩, ⟨tok103, ⟨tok97, ⟨tok96, ⟨tok95, trivial, trivial⟩, trivial⟩, ⟨tok99, ⟨tok98, trivial, trivial⟩, trivial⟩⟩, ⟨tok106, ⟨tok105, ⟨tok104, trivial, trivial⟩, trivial⟩, ⟨tok108, ⟨tok107, trivial, trivial⟩, trivial⟩⟩⟩⟩⟩⟩, ⟨tok162, ⟨tok135, ⟨tok122, ⟨tok116, ⟨tok113, ⟨tok111, ⟨tok110, trivial, trivial⟩, trivial⟩, ⟨tok115, ⟨tok114, trivial, trivial⟩, trivial⟩⟩, ⟨tok119, ⟨tok118, ⟨tok117, trivial, trivial⟩, trivial⟩, ⟨tok121, ⟨tok120, trivial, trivial⟩, trivial⟩⟩⟩, ⟨tok129, ⟨tok125, ⟨tok124, ⟨tok123, trivial, trivial⟩, trivial⟩, ⟨tok128, ⟨tok126, trivial, trivial⟩, trivial⟩⟩, ⟨tok132, ⟨tok131, ⟨tok130, trivial, trivial⟩, trivial⟩, ⟨tok134, ⟨tok133, trivial, trivial⟩, trivial⟩⟩⟩⟩, ⟨tok150, ⟨tok142, ⟨tok138, ⟨tok137, ⟨tok136, trivial, trivial⟩, trivial⟩, ⟨tok141, ⟨tok139, trivial, trivial⟩, trivial⟩⟩, ⟨tok146, ⟨tok145, ⟨tok144, trivial, trivial⟩, trivial⟩, ⟨tok149, ⟨tok148, trivial, trivial⟩, trivial⟩⟩⟩, ⟨tok156, ⟨tok153, ⟨tok152, ⟨tok151, trivial, trivial⟩, trivial⟩, ⟨tok155, ⟨tok154, trivial, trivial⟩, trivial⟩⟩, ⟨tok159, ⟨tok158, ⟨tok157, trivial, trivial⟩, trivial⟩, ⟨tok161, ⟨tok160, trivial, trivial⟩, trivial⟩⟩⟩⟩⟩, ⟨tok189, ⟨tok176, ⟨tok169, ⟨tok166, ⟨tok164, ⟨tok163, trivial, trivial⟩, trivial⟩, ⟨tok168, ⟨tok167, trivial, trivial⟩, trivial⟩⟩, ⟨tok173, ⟨tok171, ⟨tok170, trivial, trivial⟩, trivial⟩, ⟨tok175, ⟨tok174, trivial, trivial⟩, trivial⟩⟩⟩, ⟨tok183, ⟨tok179, ⟨tok178, ⟨tok177, trivial, trivial⟩, trivial⟩, ⟨tok181, ⟨tok180, trivial, trivial⟩, trivial⟩⟩, ⟨tok186, ⟨tok185, ⟨tok184, trivial, trivial⟩, trivial⟩, ⟨tok188, ⟨tok187, trivial, trivial⟩, trivial⟩⟩⟩⟩, ⟨tok206, ⟨tok198, ⟨tok195, ⟨tok194, ⟨tok190, trivial, trivial⟩, trivial⟩, ⟨tok197, ⟨tok196, trivial, trivial⟩, trivial⟩⟩, ⟨tok202, ⟨tok200, ⟨tok199, trivial, trivial⟩, trivial⟩, ⟨tok205, ⟨tok203, trivial, trivial⟩, trivial⟩⟩⟩, ⟨tok213, ⟨tok210, ⟨tok209, ⟨tok208, trivial, trivial⟩, trivial⟩, ⟨tok212, ⟨tok211, trivial, trivial⟩, trivial⟩⟩, ⟨tok221, ⟨tok220, ⟨tok219, trivial, trivial⟩, trivial⟩, ⟨tok223, ⟨tok222, trivial, trivial⟩, trivial⟩⟩⟩⟩⟩⟩⟩)

def noGorB (P : Program) : Bool := P.funcs.toList.all fun fn => fn.body.isNone || !(fn.name == "runtime.NumGoroutine")
theorem noGor_of {P : Program} (h : noGorB P = true) : NoGor P := fun f fn c hf hb => by
  have h1 := List.all_eq_true.1 h fn (by have := Array.mem_of_getElem? hf; simpa using this)
  simpa [hb] using h1
theorem noGor : NoGor Tryz.prog := noGor_of (by kernel_rfl)
theorem mixed : Tryz.prog.follows .mixedOrders = true := by kernel_rfl
noncomputable def sg0 (g : FuncId) : Option Sum := bif Nat.beq g 168 then some sumIB else none
theorem sg0_ok : ∀ g s, sg0 g = some s → SumOk Tryz.prog g s := fun g s h => by
  unfold sg0 at h
  rw [cond_eq_ite] at h
  split at h
  · rename_i hg
    obtain rfl : g = 168 := Nat.eq_of_beq_eq_true hg
    cases h
    exact (sumIB_ok Tryz.func168 (by kernel_rfl) (by kernel_rfl) (by kernel_rfl) (by kernel_rfl))
  cases h
def chkRen : Go.Shelf.Ren := ⟨fun | 240 => 75 | 276 => 103 | n => n, fun | 0 => 0 | 4 => 4 | 9 => 9 | 20 => 20 | 37 => 90 | 70 => 89 | 72 => 92 | 164 => 165 | n => n, fun n => n⟩
theorem chkLays : Go.Proofs.Lays.n240 Tryz.prog chkRen := {
  mixed := mixed,
  f240 := (Tryz.func75).trans (by kernel_rfl),
  f276 := (Tryz.func103).trans (by kernel_rfl),
  t0 := Tryz.underlying0, a0 := Tryz.isAgg0, z0 := Tryz.sizeOf0, v0 := Tryz.zeroValue0,
  t4 := Tryz.underlying4, a4 := Tryz.isAgg4, z4 := Tryz.sizeOf4, v4 := Tryz.zeroValue4,
  t9 := Tryz.underlying9, a9 := Tryz.isAgg9, z9 := Tryz.sizeOf9, v9 := Tryz.zeroValue9,
  t20 := Tryz.underlying20, a20 := Tryz.isAgg20, z20 := Tryz.sizeOf20, v20 := Tryz.zeroValue20,
  t70 := Tryz.underlying89, a70 := Tryz.isAgg89, z70 := Tryz.sizeOf89, v70 := Tryz.zeroValue89,
  t72 := Tryz.underlying92, a72 := Tryz.isAgg92, z72 := Tryz.sizeOf92, v72 := Tryz.zeroValue92,
  t164 := Tryz.underlying165, a164 := Tryz.isAgg165, z164 := Tryz.sizeOf165, v164 := Tryz.zeroValue165 }
theorem chkX : Go.Proofs.Builder.X72 Tryz.prog chkRen := { sizeBuilder := by kernel_rfl, liesBuilder := by kernel_rfl }
theorem chk_ok (g : FuncId) (h : isChk g = true) : CheckOk Tryz.prog g := by
  simp only [isChk, Bool.and_eq_true] at h
  obtain rfl : g = 75 := Nat.eq_of_beq_eq_true h.1
  exact fun w b hs hf => ⟨callFunc_run noGor Tryz.func75 (show Tryz.f75.body = some ((Tryz.f75.body).getD .skip) by kernel_rfl) _ _, fun h0 => Any.Builder_copyCheck_used chkLays chkX b w h0, fun h0 => Any.Builder_copyCheck_fresh chkLays chkX b w h0 hs hf⟩
/-- the plain machine, closed -/
noncomputable def env0 : Env := { P := Tryz.prog, T := tt, cl := true, kp := fun _ _ => none, sg := sg0, lp := fun _ _ => none, bf := isChk }
theorem rf_ok : ∀ E, LoopsOk Tryz.prog E → RfOk E := fun E h f k asg bd hr => rfAt_ok h f k asg bd hr
theorem env0_ok : EnvOk env0 := ⟨tok, mixed, noGor, sg0_ok, fun f fn c _ _ => loopsOk_none (fun _ => rfl) (fun _ => rfl) c, rf_ok _ fun f fn c _ _ => loopsOk_none (fun _ => rfl) (fun _ => rfl) c, chk_ok, fun _ _ h => by cases h⟩

abbrev CT63 : Ty := (.pair (.int .i64) (.pair (.int .i64) .unit))
def cloneF63 (l : List CT63.den) : Option (List CT63.den) := bif fitI l 16 then some l else none
theorem clone_new63 (xs : List CT63.den) : exec env0 1000000 (.call 63 [.lst CT63 xs false]) ⟨[], [], [], 0⟩ (fun v st => resOf true [(.list CT63, true)] (resL 1 v) st.hp) = (bif fitI xs 16 then some (xs, ()) else none) := by kernel_rfl
theorem clone_nil63 : exec env0 1000000 (.call 63 [.lst CT63 [] true]) ⟨[], [], [], 0⟩ (fun v st => match v, st.hp with | .nils, [] => some () | _, _ => none) = some () := by kernel_rfl
def cloneG63 (l : List CT63.den) : Option (List CT63.den × Unit) := match cloneF63 l with | some y => some (y, ()) | none => none
def sumClone63 : Sum := ⟨[.list CT63], [(.list CT63, true)], fun x => cloneG63 x.1⟩
theorem sumClone63_ok : SumOk Tryz.prog 63 sumClone63 := by
 have base := sum_of_lst_new0 env0_ok (e := CT63) (e2 := CT63) (g := 63) (f := cloneF63) (show 0 < CT63.size by decide) (show 0 < CT63.size by decide) (fun xs y h => by
  unfold cloneF63 at h
  rw [clone_new63]
  cases hf : fitI xs 16 with
  | true => rw [hf] at h; cases h; rfl
  | false => rw [hf] at h; cases h) fun y h => by
  have e : cloneF63 [] = some [] := rfl
  rw [e] at h
  cases h
  exact ⟨rfl, clone_nil63⟩
 intro w bar args' x y hp hb hd hy
 refine base w bar args' x y hp hb hd ?_
 have hy : cloneG63 x.1 = some y := hy
 unfold cloneG63 at hy
 cases hc : cloneF63 x.1 with
 | none => rw [hc] at hy; cases hy
 | some z => rw [hc] at hy; simp only [hc]; exact hy

abbrev CT117 : Ty := (.pair .str (.pair .bool .unit))
def cloneF117 (l : List CT117.den) : Option (List CT117.den) := bif fitI l 24 then some l else none
theorem clone_new117 (xs : List CT117.den) : exec env0 1000000 (.call 117 [.lst CT117 xs false]) ⟨[], [], [], 0⟩ (fun v st => resOf true [(.list CT117, true)] (resL 1 v) st.hp) = (bif fitI xs 24 then some (xs, ()) else none) := by kernel_rfl
theorem clone_nil117 : exec env0 1000000 (.call 117 [.lst CT117 [] true]) ⟨[], [], [], 0⟩ (fun v st => match v, st.hp with | .nils, [] => some () | _, _ => none) = some () := by kernel_rfl
def cloneG117 (l : List CT117.den) : Option (List CT117.den × Unit) := match cloneF117 l with | some y => some (y, ()) | none => none
def sumClone117 : Sum := ⟨[.list CT117], [(.list CT117, true)], fun x => cloneG117 x.1⟩
theorem sumClone117_ok : SumOk Tryz.prog 117 sumClone117 := by
 have base := sum_of_lst_new0 env0_ok (e := CT117) (e2 := CT117) (g := 117) (f := cloneF117) (show 0 < CT117.size by decide) (show 0 < CT117.size by decide) (fun xs y h => by
  unfold cloneF117 at h
  rw [clone_new117]
  cases hf : fitI xs 24 with
  | true => rw [hf] at h; cases h; rfl
  | false => rw [hf] at h; cases h) fun y h => by
  have e : cloneF117 [] = some [] := rfl
  rw [e] at h
  cases h
  exact ⟨rfl, clone_nil117⟩
 intro w bar args' x y hp hb hd hy
 refine base w bar args' x y hp hb hd ?_
 have hy : cloneG117 x.1 = some y := hy
 unfold cloneG117 at hy
 cases hc : cloneF117 x.1 with
 | none => rw [hc] at hy; cases hy
 | some z => rw [hc] at hy; simp only [hc]; exact hy

noncomputable def sg1 (g : FuncId) : Option Sum := bif Nat.beq g 63 then some sumClone63 else bif Nat.beq g 117 then some sumClone117 else sg0 g
theorem sg1_ok : ∀ g s, sg1 g = some s → SumOk Tryz.prog g s := fun g s h => by
  unfold sg1 at h
  rw [cond_eq_ite] at h
  split at h
  · rename_i hg
    obtain rfl : g = 63 := Nat.eq_of_beq_eq_true hg
    cases h
    exact sumClone63_ok
  rw [cond_eq_ite] at h
  split at h
  · rename_i hg
    obtain rfl : g = 117 := Nat.eq_of_beq_eq_true hg
    cases h
    exact sumClone117_ok
  exact sg0_ok g s h
noncomputable def env1 : Env := { P := Tryz.prog, T := tt, cl := true, kp := fun _ _ => none, sg := sg1, lp := fun _ _ => none, bf := isChk }
theorem env1_ok : EnvOk env1 := ⟨tok, mixed, noGor, sg1_ok, fun f fn c _ _ => loopsOk_none (fun _ => rfl) (fun _ => rfl) c, rf_ok _ fun f fn c _ _ => loopsOk_none (fun _ => rfl) (fun _ => rfl) c, chk_ok, fun _ _ h => by cases h⟩
end Go.Proofs.YtgcbehapggfhmaaGreatDoor