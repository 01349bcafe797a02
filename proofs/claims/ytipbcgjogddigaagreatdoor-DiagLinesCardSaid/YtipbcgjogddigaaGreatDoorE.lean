import Derived.Test.YtipbcgjogddigaaGreatDoorProg
import Derived.Test.YtipbcgjogddigaaGreatDoorBd
import Derived.Shelf.Strings.Builder1
namespace Go.Proofs.YtipbcgjogddigaaGreatDoor
open Go.RowKit
set_option linter.unusedVariables false
set_option maxRecDepth 100000

def ti1 : TI := ⟨true, .fn, 1, 8, none, [.nilfn], false, false, true⟩
def ti2 : TI := ⟨true, (.int .i64), 1, 8, some (.int .i64), [.val (.int .i64) 0], false, false, true⟩
def ti3 : TI := ⟨true, (.int .i64), 1, 8, some (.int .i64), [.val (.int .i64) 0], false, false, true⟩
def ti4 : TI := ⟨true, .bool, 1, 1, some .bool, [.val .bool false], false, false, true⟩
def ti5 : TI := ⟨true, (.int .u8), 1, 1, some (.int .u8), [.val (.int .u8) 0], false, false, true⟩
def ti7 : TI := ⟨true, (.struct [(0, 2), (1, 3), (2, 4), (3, 6)]), 4, 24, none, [.val (.int .i64) 0, .val (.int .i64) 0, .val .bool false, .val (.int .u8) 0], false, false, true⟩
def ti8 : TI := ⟨true, (.struct [(0, 2), (1, 3), (2, 4), (3, 6)]), 4, 24, none, [.val (.int .i64) 0, .val (.int .i64) 0, .val .bool false, .val (.int .u8) 0], false, false, true⟩
def ti9 : TI := ⟨true, .str, 1, 16, some .str, [.val .str []], false, false, true⟩
def ti10 : TI := ⟨true, .str, 1, 16, some .str, [.val .str []], false, false, true⟩
def ti11 : TI := ⟨true, .str, 1, 16, some .str, [.val .str []], false, false, true⟩
def ti12 : TI := ⟨true, (.int .u64), 1, 8, some (.int .u64), [.val (.int .u64) 0], false, false, true⟩
def ti13 : TI := ⟨true, (.struct [(0, 9), (1, 12)]), 2, 24, some (.pair .str (.pair (.int .u64) .unit)), [.val .str [], .val (.int .u64) 0], false, false, true⟩
def ti14 : TI := ⟨true, (.struct [(0, 9), (1, 12)]), 2, 24, some (.pair .str (.pair (.int .u64) .unit)), [.val .str [], .val (.int .u64) 0], false, false, true⟩
def ti15 : TI := ⟨true, (.ptr 217), 1, 8, none, [.nilp], false, false, true⟩
def ti16 : TI := ⟨true, (.ptr 220), 1, 8, none, [.nilp], false, false, true⟩
def ti17 : TI := ⟨true, (.ptr 227), 1, 8, none, [.nilp], false, false, true⟩
def ti18 : TI := ⟨true, (.struct [(0, 17)]), 1, 8, none, [.nilp], false, false, true⟩
def ti19 : TI := ⟨true, (.struct [(0, 17)]), 1, 8, none, [.nilp], false, false, true⟩
def ti21 : TI := ⟨true, (.int .i32), 1, 4, some (.int .i32), [.val (.int .i32) 0], false, false, true⟩
def ti22 : TI := ⟨true, (.int .u16), 1, 2, some (.int .u16), [.val (.int .u16) 0], false, false, true⟩
def ti23 : TI := ⟨true, .fn, 1, 8, none, [.nilfn], false, false, true⟩
def ti24 : TI := ⟨true, .fn, 1, 8, none, [.nilfn], false, false, true⟩
def ti25 : TI := ⟨true, (.struct [(0, 3), (1, 3), (2, 9)]), 3, 32, some (.pair (.int .i64) (.pair (.int .i64) (.pair .str .unit))), [.val (.int .i64) 0, .val (.int .i64) 0, .val .str []], false, false, true⟩
def ti26 : TI := ⟨true, (.struct [(0, 3), (1, 3), (2, 9)]), 3, 32, some (.pair (.int .i64) (.pair (.int .i64) (.pair .str .unit))), [.val (.int .i64) 0, .val (.int .i64) 0, .val .str []], true, false, true⟩
def ti27 : TI := ⟨true, .fn, 1, 8, none, [.nilfn], false, false, true⟩
def ti28 : TI := ⟨true, .fn, 1, 8, none, [.nilfn], false, false, true⟩
def ti29 : TI := ⟨true, (.slice 26), 1, 24, some (.list (.pair (.int .i64) (.pair (.int .i64) (.pair .str .unit)))), [.nils], false, false, true⟩
def ti30 : TI := ⟨true, .fn, 1, 8, none, [.nilfn], false, false, true⟩
def ti31 : TI := ⟨true, .fn, 1, 8, none, [.nilfn], false, false, true⟩
def ti32 : TI := ⟨true, (.ptr 51), 1, 8, none, [.nilp], false, false, true⟩
def ti33 : TI := ⟨true, .fn, 1, 8, none, [.nilfn], false, false, true⟩
def ti34 : TI := ⟨true, (.ptr 63), 1, 8, none, [.nilp], false, false, true⟩
def ti35 : TI := ⟨true, .fn, 1, 8, none, [.nilfn], false, false, true⟩
def ti36 : TI := ⟨true, .fn, 1, 8, none, [.nilfn], false, false, true⟩
def ti37 : TI := ⟨true, .fn, 1, 8, none, [.nilfn], false, false, true⟩
def ti38 : TI := ⟨true, .fn, 1, 8, none, [.nilfn], false, false, true⟩
def ti39 : TI := ⟨true, .fn, 1, 8, none, [.nilfn], false, false, true⟩
def ti40 : TI := ⟨true, (.struct [(0, 3), (1, 3), (2, 3), (3, 4)]), 4, 32, some (.pair (.int .i64) (.pair (.int .i64) (.pair (.int .i64) (.pair .bool .unit)))), [.val (.int .i64) 0, .val (.int .i64) 0, .val (.int .i64) 0, .val .bool false], false, false, true⟩
def ti41 : TI := ⟨true, (.struct [(0, 3), (1, 3), (2, 3), (3, 4)]), 4, 32, some (.pair (.int .i64) (.pair (.int .i64) (.pair (.int .i64) (.pair .bool .unit)))), [.val (.int .i64) 0, .val (.int .i64) 0, .val (.int .i64) 0, .val .bool false], true, false, true⟩
def ti43 : TI := ⟨true, .fn, 1, 8, none, [.nilfn], false, false, true⟩
def ti44 : TI := ⟨true, (.slice 70), 1, 24, some (.list (.pair .str (.pair .bool .unit))), [.nils], false, false, true⟩
def ti45 : TI := ⟨true, (.struct [(0, 3), (1, 44), (2, 4)]), 3, 40, some (.pair (.int .i64) (.pair (.list (.pair .str (.pair .bool .unit))) (.pair .bool .unit))), [.val (.int .i64) 0, .nils, .val .bool false], false, false, true⟩
def ti46 : TI := ⟨true, (.struct [(0, 3), (1, 44), (2, 4)]), 3, 40, some (.pair (.int .i64) (.pair (.list (.pair .str (.pair .bool .unit))) (.pair .bool .unit))), [.val (.int .i64) 0, .nils, .val .bool false], false, false, true⟩
def ti47 : TI := ⟨true, (.slice 41), 1, 24, some (.list (.pair (.int .i64) (.pair (.int .i64) (.pair (.int .i64) (.pair .bool .unit))))), [.nils], false, false, true⟩
def ti48 : TI := ⟨true, (.slice 84), 1, 24, some (.list (.pair (.int .i64) (.pair .str (.pair (.int .i64) (.pair (.int .i64) .unit))))), [.nils], false, false, true⟩
def ti49 : TI := ⟨true, (.slice 76), 1, 24, some (.list (.pair (.int .i64) (.pair (.int .i64) (.pair (.int .i64) (.pair (.int .i64) .unit))))), [.nils], false, false, true⟩
def ti50 : TI := ⟨true, (.struct [(0, 9), (1, 47), (2, 46), (5, 48), (6, 49)]), 7, 128, some (.pair .str (.pair (.list (.pair (.int .i64) (.pair (.int .i64) (.pair (.int .i64) (.pair .bool .unit))))) (.pair (.pair (.int .i64) (.pair (.list (.pair .str (.pair .bool .unit))) (.pair .bool .unit))) (.pair (.list (.pair (.int .i64) (.pair .str (.pair (.int .i64) (.pair (.int .i64) .unit))))) (.pair (.list (.pair (.int .i64) (.pair (.int .i64) (.pair (.int .i64) (.pair (.int .i64) .unit))))) .unit))))), [.val .str [], .nils, .val (.int .i64) 0, .nils, .val .bool false, .nils, .nils], false, false, true⟩
def ti51 : TI := ⟨true, (.struct [(0, 9), (1, 47), (2, 46), (5, 48), (6, 49)]), 7, 128, some (.pair .str (.pair (.list (.pair (.int .i64) (.pair (.int .i64) (.pair (.int .i64) (.pair .bool .unit))))) (.pair (.pair (.int .i64) (.pair (.list (.pair .str (.pair .bool .unit))) (.pair .bool .unit))) (.pair (.list (.pair (.int .i64) (.pair .str (.pair (.int .i64) (.pair (.int .i64) .unit))))) (.pair (.list (.pair (.int .i64) (.pair (.int .i64) (.pair (.int .i64) (.pair (.int .i64) .unit))))) .unit))))), [.val .str [], .nils, .val (.int .i64) 0, .nils, .val .bool false, .nils, .nils], false, false, true⟩
def ti52 : TI := ⟨true, .fn, 1, 8, none, [.nilfn], false, false, true⟩
def ti54 : TI := ⟨true, .fn, 1, 8, none, [.nilfn], false, false, true⟩
def ti55 : TI := ⟨true, .fn, 1, 8, none, [.nilfn], false, false, true⟩
def ti56 : TI := ⟨true, .fn, 1, 8, none, [.nilfn], false, false, true⟩
def ti57 : TI := ⟨true, (.slice 3), 1, 24, some (.list (.int .i64)), [.nils], false, false, true⟩
def ti58 : TI := ⟨true, .fn, 1, 8, none, [.nilfn], false, false, true⟩
def ti59 : TI := ⟨true, .fn, 1, 8, none, [.nilfn], false, false, true⟩
def ti60 : TI := ⟨true, .fn, 1, 8, none, [.nilfn], false, false, true⟩
def ti61 : TI := ⟨true, .fn, 1, 8, none, [.nilfn], false, false, true⟩
def ti62 : TI := ⟨true, (.struct [(0, 3), (1, 57)]), 2, 32, some (.pair (.int .i64) (.pair (.list (.int .i64)) .unit)), [.val (.int .i64) 0, .nils], false, false, true⟩
def ti63 : TI := ⟨true, (.struct [(0, 3), (1, 57)]), 2, 32, some (.pair (.int .i64) (.pair (.list (.int .i64)) .unit)), [.val (.int .i64) 0, .nils], false, false, true⟩
def ti64 : TI := ⟨true, .fn, 1, 8, none, [.nilfn], false, false, true⟩
def ti65 : TI := ⟨true, .fn, 1, 8, none, [.nilfn], false, false, true⟩
def ti67 : TI := ⟨true, .fn, 1, 8, none, [.nilfn], false, false, true⟩
def ti68 : TI := ⟨true, .fn, 1, 8, none, [.nilfn], false, false, true⟩
def ti69 : TI := ⟨true, (.struct [(0, 9), (1, 4)]), 2, 24, some (.pair .str (.pair .bool .unit)), [.val .str [], .val .bool false], false, false, true⟩
def ti70 : TI := ⟨true, (.struct [(0, 9), (1, 4)]), 2, 24, some (.pair .str (.pair .bool .unit)), [.val .str [], .val .bool false], true, false, true⟩
def ti71 : TI := ⟨true, .fn, 1, 8, none, [.nilfn], false, false, true⟩
def ti72 : TI := ⟨true, (.int .i64), 1, 8, some (.int .i64), [.val (.int .i64) 0], false, false, true⟩
def ti74 : TI := ⟨true, .fn, 1, 8, none, [.nilfn], false, false, true⟩
def ti75 : TI := ⟨true, (.struct [(0, 3), (1, 3), (2, 3), (3, 3)]), 4, 32, some (.pair (.int .i64) (.pair (.int .i64) (.pair (.int .i64) (.pair (.int .i64) .unit)))), [.val (.int .i64) 0, .val (.int .i64) 0, .val (.int .i64) 0, .val (.int .i64) 0], false, false, true⟩
def ti76 : TI := ⟨true, (.struct [(0, 3), (1, 3), (2, 3), (3, 3)]), 4, 32, some (.pair (.int .i64) (.pair (.int .i64) (.pair (.int .i64) (.pair (.int .i64) .unit)))), [.val (.int .i64) 0, .val (.int .i64) 0, .val (.int .i64) 0, .val (.int .i64) 0], true, false, true⟩
def ti77 : TI := ⟨true, .fn, 1, 8, none, [.nilfn], false, false, true⟩
def ti78 : TI := ⟨true, .fn, 1, 8, none, [.nilfn], false, false, true⟩
def ti79 : TI := ⟨true, .fn, 1, 8, none, [.nilfn], false, false, true⟩
def ti80 : TI := ⟨true, .fn, 1, 8, none, [.nilfn], false, false, true⟩
def ti81 : TI := ⟨true, .fn, 1, 8, none, [.nilfn], false, false, true⟩
def ti82 : TI := ⟨true, .fn, 1, 8, none, [.nilfn], false, false, true⟩
def ti83 : TI := ⟨true, (.struct [(0, 3), (1, 9), (2, 3), (3, 3)]), 4, 40, some (.pair (.int .i64) (.pair .str (.pair (.int .i64) (.pair (.int .i64) .unit)))), [.val (.int .i64) 0, .val .str [], .val (.int .i64) 0, .val (.int .i64) 0], false, false, true⟩
def ti84 : TI := ⟨true, (.struct [(0, 3), (1, 9), (2, 3), (3, 3)]), 4, 40, some (.pair (.int .i64) (.pair .str (.pair (.int .i64) (.pair (.int .i64) .unit)))), [.val (.int .i64) 0, .val .str [], .val (.int .i64) 0, .val (.int .i64) 0], true, false, true⟩
def ti85 : TI := ⟨true, (.ptr 87), 1, 8, none, [.nilp], false, false, true⟩
def ti86 : TI := ⟨true, (.struct [(0, 48), (1, 3), (2, 49), (3, 3), (4, 3)]), 5, 72, some (.pair (.list (.pair (.int .i64) (.pair .str (.pair (.int .i64) (.pair (.int .i64) .unit))))) (.pair (.int .i64) (.pair (.list (.pair (.int .i64) (.pair (.int .i64) (.pair (.int .i64) (.pair (.int .i64) .unit))))) (.pair (.int .i64) (.pair (.int .i64) .unit))))), [.nils, .val (.int .i64) 0, .nils, .val (.int .i64) 0, .val (.int .i64) 0], false, false, true⟩
def ti87 : TI := ⟨true, (.struct [(0, 48), (1, 3), (2, 49), (3, 3), (4, 3)]), 5, 72, some (.pair (.list (.pair (.int .i64) (.pair .str (.pair (.int .i64) (.pair (.int .i64) .unit))))) (.pair (.int .i64) (.pair (.list (.pair (.int .i64) (.pair (.int .i64) (.pair (.int .i64) (.pair (.int .i64) .unit))))) (.pair (.int .i64) (.pair (.int .i64) .unit))))), [.nils, .val (.int .i64) 0, .nils, .val (.int .i64) 0, .val (.int .i64) 0], false, false, true⟩
def ti88 : TI := ⟨true, .fn, 1, 8, none, [.nilfn], false, false, true⟩
def ti89 : TI := ⟨true, .fn, 1, 8, none, [.nilfn], false, false, true⟩
def ti90 : TI := ⟨true, .fn, 1, 8, none, [.nilfn], false, false, true⟩
def ti91 : TI := ⟨true, .fn, 1, 8, none, [.nilfn], false, false, true⟩
def ti92 : TI := ⟨true, .fn, 1, 8, none, [.nilfn], false, false, true⟩
def ti94 : TI := ⟨true, (.int .u64), 1, 8, some (.int .u64), [.val (.int .u64) 0], false, false, true⟩
def ti95 : TI := ⟨true, .fn, 1, 8, none, [.nilfn], false, false, true⟩
def ti96 : TI := ⟨true, .fn, 1, 8, none, [.nilfn], false, false, true⟩
def ti97 : TI := ⟨true, (.slice 5), 1, 24, some (.list (.int .u8)), [.nils], false, false, true⟩
def ti99 : TI := ⟨true, .fn, 1, 8, none, [.nilfn], false, false, true⟩
def ti100 : TI := ⟨true, .fn, 1, 8, none, [.nilfn], false, false, true⟩
def ti102 : TI := ⟨true, .fn, 1, 8, none, [.nilfn], false, false, true⟩
def ti103 : TI := ⟨true, .fn, 1, 8, none, [.nilfn], false, false, true⟩
def ti104 : TI := ⟨true, .fn, 1, 8, none, [.nilfn], false, false, true⟩
def ti105 : TI := ⟨true, (.slice 9), 1, 24, some (.list .str), [.nils], false, false, true⟩
def ti107 : TI := ⟨true, .fn, 1, 8, none, [.nilfn], false, false, true⟩
def ti108 : TI := ⟨true, .fn, 1, 8, none, [.nilfn], false, false, true⟩
def ti110 : TI := ⟨true, (.int .u32), 1, 4, some (.int .u32), [.val (.int .u32) 0], false, false, true⟩
def ti112 : TI := ⟨true, (.int .u64), 1, 8, some (.int .u64), [.val (.int .u64) 0], false, false, true⟩
def ti113 : TI := ⟨true, .fn, 1, 8, none, [.nilfn], false, false, true⟩
def ti114 : TI := ⟨true, .fn, 1, 8, none, [.nilfn], false, false, true⟩
def ti115 : TI := ⟨true, .fn, 1, 8, none, [.nilfn], false, false, true⟩
def ti116 : TI := ⟨true, .fn, 1, 8, none, [.nilfn], false, false, true⟩
def ti117 : TI := ⟨true, (.ptr 119), 1, 8, none, [.nilp], false, false, true⟩
def ti118 : TI := ⟨true, (.struct [(0, 117), (1, 97)]), 2, 32, none, [.nilp, .nils], false, false, true⟩
def ti119 : TI := ⟨true, (.struct [(0, 117), (1, 97)]), 2, 32, none, [.nilp, .nils], false, true, true⟩
def ti123 : TI := ⟨true, .fn, 1, 8, none, [.nilfn], false, false, true⟩
def ti124 : TI := ⟨true, .fn, 1, 8, none, [.nilfn], false, false, true⟩
def ti125 : TI := ⟨true, .fn, 1, 8, none, [.nilfn], false, false, true⟩
def ti126 : TI := ⟨true, .fn, 1, 8, none, [.nilfn], false, false, true⟩
def ti127 : TI := ⟨true, .fn, 1, 8, none, [.nilfn], false, false, true⟩
def ti128 : TI := ⟨true, .fn, 1, 8, none, [.nilfn], false, false, true⟩
def ti129 : TI := ⟨true, .fn, 1, 8, none, [.nilfn], false, false, true⟩
def ti130 : TI := ⟨true, .fn, 1, 8, none, [.nilfn], false, false, true⟩
def ti131 : TI := ⟨true, .fn, 1, 8, none, [.nilfn], false, false, true⟩
def ti133 : TI := ⟨true, .fn, 1, 8, none, [.nilfn], false, false, true⟩
def ti134 : TI := ⟨true, .fn, 1, 8, none, [.nilfn], false, false, true⟩
def ti135 : TI := ⟨true, .fn, 1, 8, none, [.nilfn], false, false, true⟩
def ti136 : TI := ⟨true, .fn, 1, 8, none, [.nilfn], false, false, true⟩
def ti137 : TI := ⟨true, .fn, 1, 8, none, [.nilfn], false, false, true⟩
def ti138 : TI := ⟨true, .fn, 1, 8, none, [.nilfn], false, false, true⟩
def ti139 : TI := ⟨true, .fn, 1, 8, none, [.nilfn], false, false, true⟩
def ti140 : TI := ⟨true, (.ptr 5), 1, 8, none, [.nilp], false, false, true⟩
def ti141 : TI := ⟨true, .fn, 1, 8, none, [.nilfn], false, false, true⟩
def ti144 : TI := ⟨true, .fn, 1, 8, none, [.nilfn], false, false, true⟩
def ti145 : TI := ⟨true, .fn, 1, 8, none, [.nilfn], false, false, true⟩
def ti146 : TI := ⟨true, (.ptr 177), 1, 8, none, [.nilp], false, false, true⟩
def ti147 : TI := ⟨true, .fn, 1, 8, none, [.nilfn], false, false, true⟩
def ti148 : TI := ⟨true, .fn, 1, 8, none, [.nilfn], false, false, true⟩
def ti149 : TI := ⟨true, (.slice 175), 1, 24, some (.list (.pair (.int .i64) (.pair (.int .i64) .unit))), [.nils], false, false, true⟩
def ti151 : TI := ⟨true, .fn, 1, 8, none, [.nilfn], false, false, true⟩
def ti152 : TI := ⟨true, .fn, 1, 8, none, [.nilfn], false, false, true⟩
def ti153 : TI := ⟨true, .fn, 1, 8, none, [.nilfn], false, false, true⟩
def ti154 : TI := ⟨true, .fn, 1, 8, none, [.nilfn], false, false, true⟩
def ti155 : TI := ⟨true, (.ptr 184), 1, 8, none, [.nilp], false, false, true⟩
def ti156 : TI := ⟨true, .fn, 1, 8, none, [.nilfn], false, false, true⟩
def ti157 : TI := ⟨true, .fn, 1, 8, none, [.nilfn], false, false, true⟩
def ti158 : TI := ⟨true, (.struct [(0, 4), (1, 4), (2, 9)]), 3, 24, some (.pair .bool (.pair .bool (.pair .str .unit))), [.val .bool false, .val .bool false, .val .str []], false, false, true⟩
def ti159 : TI := ⟨true, (.struct [(0, 4), (1, 4), (2, 9)]), 3, 24, some (.pair .bool (.pair .bool (.pair .str .unit))), [.val .bool false, .val .bool false, .val .str []], true, false, true⟩
def ti160 : TI := ⟨true, .fn, 1, 8, none, [.nilfn], false, false, true⟩
def ti162 : TI := ⟨true, .fn, 1, 8, none, [.nilfn], false, false, true⟩
def ti163 : TI := ⟨true, .fn, 1, 8, none, [.nilfn], false, false, true⟩
def ti164 : TI := ⟨true, .fn, 1, 8, none, [.nilfn], false, false, true⟩
def ti166 : TI := ⟨true, .fn, 1, 8, none, [.nilfn], false, false, true⟩
def ti167 : TI := ⟨true, .fn, 1, 8, none, [.nilfn], false, false, true⟩
def ti171 : TI := ⟨true, .fn, 1, 8, none, [.nilfn], false, false, true⟩
def ti172 : TI := ⟨true, .fn, 1, 8, none, [.nilfn], false, false, true⟩
def ti173 : TI := ⟨true, (.ptr 169), 1, 8, none, [.nilp], false, false, true⟩
def ti174 : TI := ⟨true, (.struct [(0, 3), (1, 3)]), 2, 16, some (.pair (.int .i64) (.pair (.int .i64) .unit)), [.val (.int .i64) 0, .val (.int .i64) 0], false, false, true⟩
def ti175 : TI := ⟨true, (.struct [(0, 3), (1, 3)]), 2, 16, some (.pair (.int .i64) (.pair (.int .i64) .unit)), [.val (.int .i64) 0, .val (.int .i64) 0], true, false, true⟩
def ti176 : TI := ⟨true, (.struct [(0, 149), (1, 4), (2, 3)]), 3, 40, some (.pair (.list (.pair (.int .i64) (.pair (.int .i64) .unit))) (.pair .bool (.pair (.int .i64) .unit))), [.nils, .val .bool false, .val (.int .i64) 0], false, false, true⟩
def ti177 : TI := ⟨true, (.struct [(0, 149), (1, 4), (2, 3)]), 3, 40, some (.pair (.list (.pair (.int .i64) (.pair (.int .i64) .unit))) (.pair .bool (.pair (.int .i64) .unit))), [.nils, .val .bool false, .val (.int .i64) 0], false, false, true⟩
def ti178 : TI := ⟨true, .fn, 1, 8, none, [.nilfn], false, false, true⟩
def ti179 : TI := ⟨true, .fn, 1, 8, none, [.nilfn], false, false, true⟩
def ti180 : TI := ⟨true, (.slice 186), 1, 24, some (.list (.pair (.int .i64) (.pair (.int .i64) (.pair (.int .i64) (.pair (.int .i64) (.pair .bool .unit)))))), [.nils], false, false, true⟩
def ti181 : TI := ⟨true, .fn, 1, 8, none, [.nilfn], false, false, true⟩
def ti182 : TI := ⟨true, (.map 3 3), 1, 8, none, [.undef], false, false, true⟩
def ti183 : TI := ⟨true, (.struct [(0, 9), (1, 180), (2, 182)]), 3, 48, none, [.val .str [], .nils, .undef], false, false, true⟩
def ti184 : TI := ⟨true, (.struct [(0, 9), (1, 180), (2, 182)]), 3, 48, none, [.val .str [], .nils, .undef], false, false, true⟩
def ti185 : TI := ⟨true, (.struct [(0, 3), (1, 3), (2, 3), (3, 3), (4, 4)]), 5, 40, some (.pair (.int .i64) (.pair (.int .i64) (.pair (.int .i64) (.pair (.int .i64) (.pair .bool .unit))))), [.val (.int .i64) 0, .val (.int .i64) 0, .val (.int .i64) 0, .val (.int .i64) 0, .val .bool false], false, false, true⟩
def ti186 : TI := ⟨true, (.struct [(0, 3), (1, 3), (2, 3), (3, 3), (4, 4)]), 5, 40, some (.pair (.int .i64) (.pair (.int .i64) (.pair (.int .i64) (.pair (.int .i64) (.pair .bool .unit))))), [.val (.int .i64) 0, .val (.int .i64) 0, .val (.int .i64) 0, .val (.int .i64) 0, .val .bool false], true, false, true⟩
def ti187 : TI := ⟨true, .fn, 1, 8, none, [.nilfn], false, false, true⟩
def ti189 : TI := ⟨true, .fn, 1, 8, none, [.nilfn], false, false, true⟩
def ti190 : TI := ⟨true, .fn, 1, 8, none, [.nilfn], false, false, true⟩
def ti192 : TI := ⟨true, .fn, 1, 8, none, [.nilfn], false, false, true⟩
def ti193 : TI := ⟨true, .fn, 1, 8, none, [.nilfn], false, false, true⟩
def ti194 : TI := ⟨true, .fn, 1, 8, none, [.nilfn], false, false, true⟩
def ti195 : TI := ⟨true, .fn, 1, 8, none, [.nilfn], false, false, true⟩
def ti196 : TI := ⟨true, .fn, 1, 8, none, [.nilfn], false, false, true⟩
def ti197 : TI := ⟨true, (.ptr 199), 1, 8, none, [.nilp], false, false, true⟩
def ti198 : TI := ⟨true, (.struct [(0, 180), (1, 57)]), 2, 48, some (.pair (.list (.pair (.int .i64) (.pair (.int .i64) (.pair (.int .i64) (.pair (.int .i64) (.pair .bool .unit)))))) (.pair (.list (.int .i64)) .unit)), [.nils, .nils], false, false, true⟩
def ti199 : TI := ⟨true, (.struct [(0, 180), (1, 57)]), 2, 48, some (.pair (.list (.pair (.int .i64) (.pair (.int .i64) (.pair (.int .i64) (.pair (.int .i64) (.pair .bool .unit)))))) (.pair (.list (.int .i64)) .unit)), [.nils, .nils], false, false, true⟩
def ti200 : TI := ⟨true, .fn, 1, 8, none, [.nilfn], false, false, true⟩
def ti201 : TI := ⟨true, (.ptr 186), 1, 8, none, [.nilp], false, false, true⟩
def ti202 : TI := ⟨true, .fn, 1, 8, none, [.nilfn], false, false, true⟩
def ti203 : TI := ⟨true, .fn, 1, 8, none, [.nilfn], false, false, true⟩
def ti204 : TI := ⟨true, .fn, 1, 8, none, [.nilfn], false, false, true⟩
def ti205 : TI := ⟨true, .fn, 1, 8, none, [.nilfn], false, false, true⟩
def ti207 : TI := ⟨true, (.struct [(0, 5), (1, 5)]), 2, 2, some (.pair (.int .u8) (.pair (.int .u8) .unit)), [.val (.int .u8) 0, .val (.int .u8) 0], false, false, true⟩
def ti208 : TI := ⟨true, (.struct [(0, 5), (1, 5)]), 2, 2, some (.pair (.int .u8) (.pair (.int .u8) .unit)), [.val (.int .u8) 0, .val (.int .u8) 0], false, false, true⟩
def ti210 : TI := ⟨true, .fn, 1, 8, none, [.nilfn], false, false, true⟩
def ti212 : TI := ⟨true, .fn, 1, 8, none, [.nilfn], false, false, true⟩
def ti214 : TI := ⟨true, .fn, 1, 8, none, [.nilfn], false, false, true⟩
def ti215 : TI := ⟨true, .fn, 1, 8, none, [.nilfn], false, false, true⟩
def ti216 : TI := ⟨true, (.struct [(0, 17), (1, 17), (2, 17), (3, 9)]), 4, 40, none, [.nilp, .nilp, .nilp, .val .str []], false, false, true⟩
def ti217 : TI := ⟨true, (.struct [(0, 17), (1, 17), (2, 17), (3, 9)]), 4, 40, none, [.nilp, .nilp, .nilp, .val .str []], false, false, true⟩
def ti223 : TI := ⟨true, .fn, 1, 8, none, [.nilfn], false, false, true⟩
def ti224 : TI := ⟨true, (.int .i32), 1, 4, some (.int .i32), [.val (.int .i32) 0], false, false, true⟩
def ti225 : TI := ⟨true, (.int .i32), 1, 4, some (.int .i32), [.val (.int .i32) 0], false, false, true⟩
def ti226 : TI := ⟨true, (.struct [(0, 12), (1, 12), (2, 110), (3, 221), (4, 5), (5, 5), (6, 222), (7, 223), (8, 140), (9, 224), (10, 225)]), 11, 48, none, [.val (.int .u64) 0, .val (.int .u64) 0, .val (.int .u32) 0, .val (.int .u8) 0, .val (.int .u8) 0, .val (.int .u8) 0, .val (.int .u8) 0, .nilfn, .nilp, .val (.int .i32) 0, .val (.int .i32) 0], false, false, true⟩
def ti227 : TI := ⟨true, (.struct [(0, 12), (1, 12), (2, 110), (3, 221), (4, 5), (5, 5), (6, 222), (7, 223), (8, 140), (9, 224), (10, 225)]), 11, 48, none, [.val (.int .u64) 0, .val (.int .u64) 0, .val (.int .u32) 0, .val (.int .u8) 0, .val (.int .u8) 0, .val (.int .u8) 0, .val (.int .u8) 0, .nilfn, .nilp, .val (.int .i32) 0, .val (.int .i32) 0], false, false, true⟩
def tt : TT := (.node 107 ti107 (.node 52 ti52 (.node 27 ti27 (.node 14 ti14 (.node 8 ti8 (.node 4 ti4 (.node 2 ti2 (.node 1 ti1 .nil .nil) (.node 3 ti3 .nil .nil)) (.node 7 ti7 (.node 5 ti5 .nil .nil) .nil)) (.node 11 ti11 (.node 10 ti10 (.node 9 ti9 .nil .nil) .nil) (.node 13 ti13 (.node 12 ti12 .nil .nil) .nil))) (.node 21 ti21 (.node 17 ti17 (.node 16 ti16 (.node 15 ti15 .nil .nil) .nil) (.node 19 ti19 (.node 18 ti18 .nil .nil) .nil)) (.node 24 ti24 (.node 23 ti23 (.node 22 ti22 .nil .nil) .nil) (.node 26 ti26 (.node 25 ti25 .nil .nil) .nil)))) (.node 39 ti39 (.node 33 ti33 (.node 30 ti30 (.node 29 ti29 (.node 28 ti28 .nil .nil) .nil) (.node 32 ti32 (.node 31 ti31 .nil .nil) .nil)) (.node 36 ti36 (.node 35 ti35 (.node 34 ti34 .nil .nil) .nil) (.node 38 ti38 (.node 37 ti37 .nil .nil) .nil))) (.node 46 ti46 (.node 43 ti43 (.node 41 ti41 (.node 40 ti40 .nil .nil) .nil) (.node 45 ti45 (.node 44 ti44 .nil .nil) .nil)) (.node 49 ti49 (.node 48 ti48 (.node 47 ti47 .nil .nil) .nil) (.node 51 ti51 (.node 50 ti50 .nil .nil) .nil))))) (.node 79 ti79 (.node 65 ti65 (.node 59 ti59 (.node 56 ti56 (.node 55 ti55 (.node 54 ti54 .nil .nil) .nil) (.node 58 ti58 (.node 57 ti57 .nil .nil) .nil)) (.node 62 ti62 (.node 61 ti61 (.node 60 ti60 .nil .nil) .nil) (.node 64 ti64 (.node 63 ti63 .nil .nil) .nil))) (.node 72 ti72 (.node 69 ti69 (.node 68 ti68 (.node 67 ti67 .nil .nil) .nil) (.node 71 ti71 (.node 70 ti70 .nil .nil) .nil)) (.node 76 ti76 (.node 75 ti75 (.node 74 ti74 .nil .nil) .nil) (.node 78 ti78 (.node 77 ti77 .nil .nil) .nil)))) (.node 91 ti91 (.node 85 ti85 (.node 82 ti82 (.node 81 ti81 (.node 80 ti80 .nil .nil) .nil) (.node 84 ti84 (.node 83 ti83 .nil .nil) .nil)) (.node 88 ti88 (.node 87 ti87 (.node 86 ti86 .nil .nil) .nil) (.node 90 ti90 (.node 89 ti89 .nil .nil) .nil))) (.node 99 ti99 (.node 95 ti95 (.node 94 ti94 (.node 92 ti92 .nil .nil) .nil) (.node 97 ti97 (.node 96 ti96 .nil .nil) .nil)) (.node 103 ti103 (.node 102 ti102 (.node 100 ti100 .nil .nil) .nil) (.node 105 ti105 (.node 104 ti104 .nil .nil) .nil)))))) (.node 166 ti166 (.node 137 ti137 (.node 124 ti124 (.node 115 ti115 (.node 112 ti112 (.node 110 ti110 (.node 108 ti108 .nil .nil) .nil) (.node 114 ti114 (.node 113 ti113 .nil .nil) .nil)) (.node 118 ti118 (.node 117 ti117 (.node 116 ti116 .nil .nil) .nil) (.node 123 ti123 (.node 119 ti119 .nil .nil) .nil))) (.node 130 ti130 (.node 127 ti127 (.node 126 ti126 (.node 125 ti125 .nil .nil) .nil) (.node 129 ti129 (.node 128 ti128 .nil .nil) .nil)) (.node 134 ti134 (.node 133 ti133 (.node 131 ti131 .nil .nil) .nil) (.node 136 ti136 (.node 135 ti135 .nil .nil) .nil)))) (.node 152 ti152 (.node 145 ti145 (.node 140 ti140 (.node 139 ti139 (.node 138 ti138 .nil .nil) .nil) (.node 144 ti144 (.node 141 ti141 .nil .nil) .nil)) (.node 148 ti148 (.node 147 ti147 (.node 146 ti146 .nil .nil) .nil) (.node 151 ti151 (.node 149 ti149 .nil .nil) .nil))) (.node 158 ti158 (.node 155 ti155 (.node 154 ti154 (.node 153 ti153 .nil .nil) .nil) (.node 157 ti157 (.node 156 ti156 .nil .nil) .nil)) (.node 162 ti162 (.node 160 ti160 (.node 159 ti159 .nil .nil) .nil) (.node 164 ti164 (.node 163 ti163 .nil .nil) .nil))))) (.node 195 ti195 (.node 181 ti181 (.node 175 ti175 (.node 172 ti172 (.node 171 ti171 (.node 167 ti167 .nil .nil) .nil) (.node 174 ti174 (.node 173 ti173 .nil .nil) .nil)) (.node 178 ti178 (.node 177 ti177 (.node 176 ti176 .nil .nil) .nil) (.node 180 ti180 (.node 179 ti179 .nil .nil) .nil))) (.node 187 ti187 (.node 184 ti184 (.node 183 ti183 (.node 182 ti182 .nil .nil) .nil) (.node 186 ti186 (.node 185 ti185 .nil .nil) .nil)) (.node 192 ti192 (.node 190 ti190 (.node 189 ti189 .nil .nil) .nil) (.node 194 ti194 (.node 193 ti193 .nil .nil) .nil)))) (.node 208 ti208 (.node 201 ti201 (.node 198 ti198 (.node 197 ti197 (.node 196 ti196 .nil .nil) .nil) (.node 200 ti200 (.node 199 ti199 .nil .nil) .nil)) (.node 204 ti204 (.node 203 ti203 (.node 202 ti202 .nil .nil) .nil) (.node 207 ti207 (.node 205 ti205 .nil .nil) .nil))) (.node 217 ti217 (.node 214 ti214 (.node 212 ti212 (.node 210 ti210 .nil .nil) .nil) (.node 216 ti216 (.node 215 ti215 .nil .nil) .nil)) (.node 225 ti225 (.node 224 ti224 (.node 223 ti223 .nil .nil) .nil) (.node 227 ti227 (.node 226 ti226 .nil .nil) .nil)))))))

theorem zero_of {P : Program} {t : TypeId} {j : TypeInfo} {k : IntKind} (h : (P.info? t).map (·.zero) = some (some (.int k 0))) (hj : P.info? t = some j) : j.zero = some (.int k 0) := by rw [hj] at h; simpa using h
theorem tok1 : TIok Tryz.prog tt 1 ti1 := fun _ => ⟨by kernel_rfl, by kernel_rfl, .inl rfl, (fun y h => by cases h), .inr rfl, (fun h => by cases h), by kernel_rfl, rfl, (fun h => by cases h), (fun h => by cases h), (fun k h => by cases h)⟩
theorem tok2 : TIok Tryz.prog tt 2 ti2 := fun _ => ⟨by kernel_rfl, by kernel_rfl, .inr (by kernel_rfl), (fun y h => by cases h; rfl), .inr rfl, (fun h => by cases h), by kernel_rfl, rfl, (fun h => by cases h), (fun h => by cases h), (fun k h j hj => by cases h; exact zero_of (by kernel_rfl) hj)⟩
theorem tok3 : TIok Tryz.prog tt 3 ti3 := fun _ => ⟨by kernel_rfl, by kernel_rfl, .inr (by kernel_rfl), (fun y h => by cases h; rfl), .inr rfl, (fun h => by cases h), by kernel_rfl, rfl, (fun h => by cases h), (fun h => by cases h), (fun k h j hj => by cases h; exact zero_of (by kernel_rfl) hj)⟩
theorem tok4 : TIok Tryz.prog tt 4 ti4 := fun _ => ⟨by kernel_rfl, by kernel_rfl, .inr (by kernel_rfl), (fun y h => by cases h; rfl), .inr rfl, (fun h => by cases h), by kernel_rfl, rfl, (fun h => by cases h), (fun h => by cases h), (fun k h => by cases h)⟩
theorem tok5 : TIok Tryz.prog tt 5 ti5 := fun _ => ⟨by kernel_rfl, by kernel_rfl, .inr (by kernel_rfl), (fun y h => by cases h; rfl), .inr rfl, (fun h => by cases h), by kernel_rfl, rfl, (fun _ => rfl), (fun h => by cases h), (fun k h j hj => by cases h; exact zero_of (by kernel_rfl) hj)⟩
theorem tok7 : TIok Tryz.prog tt 7 ti7 := fun _ => ⟨by kernel_rfl, by kernel_rfl, .inl rfl, (fun y h => by cases h), .inl rfl, (fun h => by cases h), by kernel_rfl, rfl, (fun h => by cases h), (fun h => by cases h), (fun k h => by cases h)⟩
theorem tok8 : TIok Tryz.prog tt 8 ti8 := fun _ => ⟨by kernel_rfl, by kernel_rfl, .inl rfl, (fun y h => by cases h), .inl rfl, (fun h => by cases h), by kernel_rfl, rfl, (fun h => by cases h), (fun h => by cases h), (fun k h => by cases h)⟩
theorem tok9 : TIok Tryz.prog tt 9 ti9 := fun _ => ⟨by kernel_rfl, by kernel_rfl, .inr (by kernel_rfl), (fun y h => by cases h; rfl), .inr rfl, (fun h => by cases h), by kernel_rfl, rfl, (fun h => by cases h), (fun h => by cases h), (fun k h => by cases h)⟩
theorem tok10 : TIok Tryz.prog tt 10 ti10 := fun _ => ⟨by kernel_rfl, by kernel_rfl, .inr (by kernel_rfl), (fun y h => by cases h; rfl), .inr rfl, (fun h => by cases h), by kernel_rfl, rfl, (fun h => by cases h), (fun h => by cases h), (fun k h => by cases h)⟩
theorem tok11 : TIok Tryz.prog tt 11 ti11 := fun _ => ⟨by kernel_rfl, by kernel_rfl, .inr (by kernel_rfl), (fun y h => by cases h; rfl), .inr rfl, (fun h => by cases h), by kernel_rfl, rfl, (fun h => by cases h), (fun h => by cases h), (fun k h => by cases h)⟩
theorem tok12 : TIok Tryz.prog tt 12 ti12 := fun _ => ⟨by kernel_rfl, by kernel_rfl, .inr (by kernel_rfl), (fun y h => by cases h; rfl), .inr rfl, (fun h => by cases h), by kernel_rfl, rfl, (fun h => by cases h), (fun h => by cases h), (fun k h j hj => by cases h; exact zero_of (by kernel_rfl) hj)⟩
theorem tok13 : TIok Tryz.prog tt 13 ti13 := fun _ => ⟨by kernel_rfl, by kernel_rfl, .inr (by kernel_rfl), (fun y h => by cases h; rfl), .inl rfl, (fun h => by cases h), by kernel_rfl, rfl, (fun h => by cases h), (fun h => by cases h), (fun k h => by cases h)⟩
theorem tok14 : TIok Tryz.prog tt 14 ti14 := fun _ => ⟨by kernel_rfl, by kernel_rfl, .inr (by kernel_rfl), (fun y h => by cases h; rfl), .inl rfl, (fun h => by cases h), by kernel_rfl, rfl, (fun h => by cases h), (fun h => by cases h), (fun k h => by cases h)⟩
theorem tok15 : TIok Tryz.prog tt 15 ti15 := fun _ => ⟨by kernel_rfl, by kernel_rfl, .inl rfl, (fun y h => by cases h), .inr rfl, (fun h => by cases h), by kernel_rfl, rfl, (fun h => by cases h), (fun h => by cases h), (fun k h => by cases h)⟩
theorem tok16 : TIok Tryz.prog tt 16 ti16 := fun _ => ⟨by kernel_rfl, by kernel_rfl, .inl rfl, (fun y h => by cases h), .inr rfl, (fun h => by cases h), by kernel_rfl, rfl, (fun h => by cases h), (fun h => by cases h), (fun k h => by cases h)⟩
theorem tok17 : TIok Tryz.prog tt 17 ti17 := fun _ => ⟨by kernel_rfl, by kernel_rfl, .inl rfl, (fun y h => by cases h), .inr rfl, (fun h => by cases h), by kernel_rfl, rfl, (fun h => by cases h), (fun h => by cases h), (fun k h => by cases h)⟩
theorem tok18 : TIok Tryz.prog tt 18 ti18 := fun _ => ⟨by kernel_rfl, by kernel_rfl, .inl rfl, (fun y h => by cases h), .inl rfl, (fun h => by cases h), by kernel_rfl, rfl, (fun h => by cases h), (fun h => by cases h), (fun k h => by cases h)⟩
theorem tok19 : TIok Tryz.prog tt 19 ti19 := fun _ => ⟨by kernel_rfl, by kernel_rfl, .inl rfl, (fun y h => by cases h), .inl rfl, (fun h => by cases h), by kernel_rfl, rfl, (fun h => by cases h), (fun h => by cases h), (fun k h => by cases h)⟩
theorem tok21 : TIok Tryz.prog tt 21 ti21 := fun _ => ⟨by kernel_rfl, by kernel_rfl, .inr (by kernel_rfl), (fun y h => by cases h; rfl), .inr rfl, (fun h => by cases h), by kernel_rfl, rfl, (fun h => by cases h), (fun h => by cases h), (fun k h j hj => by cases h; exact zero_of (by kernel_rfl) hj)⟩
theorem tok22 : TIok Tryz.prog tt 22 ti22 := fun _ => ⟨by kernel_rfl, by kernel_rfl, .inr (by kernel_rfl), (fun y h => by cases h; rfl), .inr rfl, (fun h => by cases h), by kernel_rfl, rfl, (fun h => by cases h), (fun h => by cases h), (fun k h j hj => by cases h; exact zero_of (by kernel_rfl) hj)⟩
theorem tok23 : TIok Tryz.prog tt 23 ti23 := fun _ => ⟨by kernel_rfl, by kernel_rfl, .inl rfl, (fun y h => by cases h), .inr rfl, (fun h => by cases h), by kernel_rfl, rfl, (fun h => by cases h), (fun h => by cases h), (fun k h => by cases h)⟩
theorem tok24 : TIok Tryz.prog tt 24 ti24 := fun _ => ⟨by kernel_rfl, by kernel_rfl, .inl rfl, (fun y h => by cases h), .inr rfl, (fun h => by cases h), by kernel_rfl, rfl, (fun h => by cases h), (fun h => by cases h), (fun k h => by cases h)⟩
theorem tok25 : TIok Tryz.prog tt 25 ti25 := fun _ => ⟨by kernel_rfl, by kernel_rfl, .inr (by kernel_rfl), (fun y h => by cases h; rfl), .inl rfl, (fun h => by cases h), by kernel_rfl, rfl, (fun h => by cases h), (fun h => by cases h), (fun k h => by cases h)⟩
theorem tok26 : TIok Tryz.prog tt 26 ti26 := fun _ => ⟨by kernel_rfl, by kernel_rfl, .inr (by kernel_rfl), (fun y h => by cases h; rfl), .inl rfl, (fun _ => ⟨by kernel_rfl, by kernel_rfl, by kernel_rfl⟩), by kernel_rfl, rfl, (fun h => by cases h), (fun h => by cases h), (fun k h => by cases h)⟩
theorem tok27 : TIok Tryz.prog tt 27 ti27 := fun _ => ⟨by kernel_rfl, by kernel_rfl, .inl rfl, (fun y h => by cases h), .inr rfl, (fun h => by cases h), by kernel_rfl, rfl, (fun h => by cases h), (fun h => by cases h), (fun k h => by cases h)⟩
theorem tok28 : TIok Tryz.prog tt 28 ti28 := fun _ => ⟨by kernel_rfl, by kernel_rfl, .inl rfl, (fun y h => by cases h), .inr rfl, (fun h => by cases h), by kernel_rfl, rfl, (fun h => by cases h), (fun h => by cases h), (fun k h => by cases h)⟩
theorem tok29 : TIok Tryz.prog tt 29 ti29 := fun _ => ⟨by kernel_rfl, by kernel_rfl, .inr (by kernel_rfl), (fun y h => by cases h; rfl), .inr rfl, (fun h => by cases h), by kernel_rfl, rfl, (fun h => by cases h), (fun h => by cases h), (fun k h => by cases h)⟩
theorem tok30 : TIok Tryz.prog tt 30 ti30 := fun _ => ⟨by kernel_rfl, by kernel_rfl, .inl rfl, (fun y h => by cases h), .inr rfl, (fun h => by cases h), by kernel_rfl, rfl, (fun h => by cases h), (fun h => by cases h), (fun k h => by cases h)⟩
theorem tok31 : TIok Tryz.prog tt 31 ti31 := fun _ => ⟨by kernel_rfl, by kernel_rfl, .inl rfl, (fun y h => by cases h), .inr rfl, (fun h => by cases h), by kernel_rfl, rfl, (fun h => by cases h), (fun h => by cases h), (fun k h => by cases h)⟩
theorem tok32 : TIok Tryz.prog tt 32 ti32 := fun _ => ⟨by kernel_rfl, by kernel_rfl, .inl rfl, (fun y h => by cases h), .inr rfl, (fun h => by cases h), by kernel_rfl, rfl, (fun h => by cases h), (fun h => by cases h), (fun k h => by cases h)⟩
theorem tok33 : TIok Tryz.prog tt 33 ti33 := fun _ => ⟨by kernel_rfl, by kernel_rfl, .inl rfl, (fun y h => by cases h), .inr rfl, (fun h => by cases h), by kernel_rfl, rfl, (fun h => by cases h), (fun h => by cases h), (fun k h => by cases h)⟩
theorem tok34 : TIok Tryz.prog tt 34 ti34 := fun _ => ⟨by kernel_rfl, by kernel_rfl, .inl rfl, (fun y h => by cases h), .inr rfl, (fun h => by cases h), by kernel_rfl, rfl, (fun h => by cases h), (fun h => by cases h), (fun k h => by cases h)⟩
theorem tok35 : TIok Tryz.prog tt 35 ti35 := fun _ => ⟨by kernel_rfl, by kernel_rfl, .inl rfl, (fun y h => by cases h), .inr rfl, (fun h => by cases h), by kernel_rfl, rfl, (fun h => by cases h), (fun h => by cases h), (fun k h => by cases h)⟩
theorem tok36 : TIok Tryz.prog tt 36 ti36 := fun _ => ⟨by kernel_rfl, by kernel_rfl, .inl rfl, (fun y h => by cases h), .inr rfl, (fun h => by cases h), by kernel_rfl, rfl, (fun h => by cases h), (fun h => by cases h), (fun k h => by cases h)⟩
theorem tok37 : TIok Tryz.prog tt 37 ti37 := fun _ => ⟨by kernel_rfl, by kernel_rfl, .inl rfl, (fun y h => by cases h), .inr rfl, (fun h => by cases h), by kernel_rfl, rfl, (fun h => by cases h), (fun h => by cases h), (fun k h => by cases h)⟩
theorem tok38 : TIok Tryz.prog tt 38 ti38 := fun _ => ⟨by kernel_rfl, by kernel_rfl, .inl rfl, (fun y h => by cases h), .inr rfl, (fun h => by cases h), by kernel_rfl, rfl, (fun h => by cases h), (fun h => by cases h), (fun k h => by cases h)⟩
theorem tok39 : TIok Tryz.prog tt 39 ti39 := fun _ => ⟨by kernel_rfl, by kernel_rfl, .inl rfl, (fun y h => by cases h), .inr rfl, (fun h => by cases h), by kernel_rfl, rfl, (fun h => by cases h), (fun h => by cases h), (fun k h => by cases h)⟩
theorem tok40 : TIok Tryz.prog tt 40 ti40 := fun _ => ⟨by kernel_rfl, by kernel_rfl, .inr (by kernel_rfl), (fun y h => by cases h; rfl), .inl rfl, (fun h => by cases h), by kernel_rfl, rfl, (fun h => by cases h), (fun h => by cases h), (fun k h => by cases h)⟩
theorem tok41 : TIok Tryz.prog tt 41 ti41 := fun _ => ⟨by kernel_rfl, by kernel_rfl, .inr (by kernel_rfl), (fun y h => by cases h; rfl), .inl rfl, (fun _ => ⟨by kernel_rfl, by kernel_rfl, by kernel_rfl⟩), by kernel_rfl, rfl, (fun h => by cases h), (fun h => by cases h), (fun k h => by cases h)⟩
theorem tok43 : TIok Tryz.prog tt 43 ti43 := fun _ => ⟨by kernel_rfl, by kernel_rfl, .inl rfl, (fun y h => by cases h), .inr rfl, (fun h => by cases h), by kernel_rfl, rfl, (fun h => by cases h), (fun h => by cases h), (fun k h => by cases h)⟩
theorem tok44 : TIok Tryz.prog tt 44 ti44 := fun _ => ⟨by kernel_rfl, by kernel_rfl, .inr (by kernel_rfl), (fun y h => by cases h; rfl), .inr rfl, (fun h => by cases h), by kernel_rfl, rfl, (fun h => by cases h), (fun h => by cases h), (fun k h => by cases h)⟩
theorem tok45 : TIok Tryz.prog tt 45 ti45 := fun _ => ⟨by kernel_rfl, by kernel_rfl, .inr (by kernel_rfl), (fun y h => by cases h; rfl), .inl rfl, (fun h => by cases h), by kernel_rfl, rfl, (fun h => by cases h), (fun h => by cases h), (fun k h => by cases h)⟩
theorem tok46 : TIok Tryz.prog tt 46 ti46 := fun _ => ⟨by kernel_rfl, by kernel_rfl, .inr (by kernel_rfl), (fun y h => by cases h; rfl), .inl rfl, (fun h => by cases h), by kernel_rfl, rfl, (fun h => by cases h), (fun h => by cases h), (fun k h => by cases h)⟩
theorem tok47 : TIok Tryz.prog tt 47 ti47 := fun _ => ⟨by kernel_rfl, by kernel_rfl, .inr (by kernel_rfl), (fun y h => by cases h; rfl), .inr rfl, (fun h => by cases h), by kernel_rfl, rfl, (fun h => by cases h), (fun h => by cases h), (fun k h => by cases h)⟩
theorem tok48 : TIok Tryz.prog tt 48 ti48 := fun _ => ⟨by kernel_rfl, by kernel_rfl, .inr (by kernel_rfl), (fun y h => by cases h; rfl), .inr rfl, (fun h => by cases h), by kernel_rfl, rfl, (fun h => by cases h), (fun h => by cases h), (fun k h => by cases h)⟩
theorem tok49 : TIok Tryz.prog tt 49 ti49 := fun _ => ⟨by kernel_rfl, by kernel_rfl, .inr (by kernel_rfl), (fun y h => by cases h; rfl), .inr rfl, (fun h => by cases h), by kernel_rfl, rfl, (fun h => by cases h), (fun h => by cases h), (fun k h => by cases h)⟩
theorem tok50 : TIok Tryz.prog tt 50 ti50 := fun _ => ⟨by kernel_rfl, by kernel_rfl, .inr (by kernel_rfl), (fun y h => by cases h; rfl), .inl rfl, (fun h => by cases h), by kernel_rfl, rfl, (fun h => by cases h), (fun h => by cases h), (fun k h => by cases h)⟩
theorem tok51 : TIok Tryz.prog tt 51 ti51 := fun _ => ⟨by kernel_rfl, by kernel_rfl, .inr (by kernel_rfl), (fun y h => by cases h; rfl), .inl rfl, (fun h => by cases h), by kernel_rfl, rfl, (fun h => by cases h), (fun h => by cases h), (fun k h => by cases h)⟩
theorem tok52 : TIok Tryz.prog tt 52 ti52 := fun _ => ⟨by kernel_rfl, by kernel_rfl, .inl rfl, (fun y h => by cases h), .inr rfl, (fun h => by cases h), by kernel_rfl, rfl, (fun h => by cases h), (fun h => by cases h), (fun k h => by cases h)⟩
theorem tok54 : TIok Tryz.prog tt 54 ti54 := fun _ => ⟨by kernel_rfl, by kernel_rfl, .inl rfl, (fun y h => by cases h), .inr rfl, (fun h => by cases h), by kernel_rfl, rfl, (fun h => by cases h), (fun h => by cases h), (fun k h => by cases h)⟩
theorem tok55 : TIok Tryz.prog tt 55 ti55 := fun _ => ⟨by kernel_rfl, by kernel_rfl, .inl rfl, (fun y h => by cases h), .inr rfl, (fun h => by cases h), by kernel_rfl, rfl, (fun h => by cases h), (fun h => by cases h), (fun k h => by cases h)⟩
theorem tok56 : TIok Tryz.prog tt 56 ti56 := fun _ => ⟨by kernel_rfl, by kernel_rfl, .inl rfl, (fun y h => by cases h), .inr rfl, (fun h => by cases h), by kernel_rfl, rfl, (fun h => by cases h), (fun h => by cases h), (fun k h => by cases h)⟩
theorem tok57 : TIok Tryz.prog tt 57 ti57 := fun _ => ⟨by kernel_rfl, by kernel_rfl, .inr (by kernel_rfl), (fun y h => by cases h; rfl), .inr rfl, (fun h => by cases h), by kernel_rfl, rfl, (fun h => by cases h), (fun h => by cases h), (fun k h => by cases h)⟩
theorem tok58 : TIok Tryz.prog tt 58 ti58 := fun _ => ⟨by kernel_rfl, by kernel_rfl, .inl rfl, (fun y h => by cases h), .inr rfl, (fun h => by cases h), by kernel_rfl, rfl, (fun h => by cases h), (fun h => by cases h), (fun k h => by cases h)⟩
theorem tok59 : TIok Tryz.prog tt 59 ti59 := fun _ => ⟨by kernel_rfl, by kernel_rfl, .inl rfl, (fun y h => by cases h), .inr rfl, (fun h => by cases h), by kernel_rfl, rfl, (fun h => by cases h), (fun h => by cases h), (fun k h => by cases h)⟩
theorem tok60 : TIok Tryz.prog tt 60 ti60 := fun _ => ⟨by kernel_rfl, by kernel_rfl, .inl rfl, (fun y h => by cases h), .inr rfl, (fun h => by cases h), by kernel_rfl, rfl, (fun h => by cases h), (fun h => by cases h), (fun k h => by cases h)⟩
theorem tok61 : TIok Tryz.prog tt 61 ti61 := fun _ => ⟨by kernel_rfl, by kernel_rfl, .inl rfl, (fun y h => by cases h), .inr rfl, (fun h => by cases h), by kernel_rfl, rfl, (fun h => by cases h), (fun h => by cases h), (fun k h => by cases h)⟩
theorem tok62 : TIok Tryz.prog tt 62 ti62 := fun _ => ⟨by kernel_rfl, by kernel_rfl, .inr (by kernel_rfl), (fun y h => by cases h; rfl), .inl rfl, (fun h => by cases h), by kernel_rfl, rfl, (fun h => by cases h), (fun h => by cases h), (fun k h => by cases h)⟩
theorem tok63 : TIok Tryz.prog tt 63 ti63 := fun _ => ⟨by kernel_rfl, by kernel_rfl, .inr (by kernel_rfl), (fun y h => by cases h; rfl), .inl rfl, (fun h => by cases h), by kernel_rfl, rfl, (fun h => by cases h), (fun h => by cases h), (fun k h => by cases h)⟩
theorem tok64 : TIok Tryz.prog tt 64 ti64 := fun _ => ⟨by kernel_rfl, by kernel_rfl, .inl rfl, (fun y h => by cases h), .inr rfl, (fun h => by cases h), by kernel_rfl, rfl, (fun h => by cases h), (fun h => by cases h), (fun k h => by cases h)⟩
theorem tok65 : TIok Tryz.prog tt 65 ti65 := fun _ => ⟨by kernel_rfl, by kernel_rfl, .inl rfl, (fun y h => by cases h), .inr rfl, (fun h => by cases h), by kernel_rfl, rfl, (fun h => by cases h), (fun h => by cases h), (fun k h => by cases h)⟩
theorem tok67 : TIok Tryz.prog tt 67 ti67 := fun _ => ⟨by kernel_rfl, by kernel_rfl, .inl rfl, (fun y h => by cases h), .inr rfl, (fun h => by cases h), by kernel_rfl, rfl, (fun h => by cases h), (fun h => by cases h), (fun k h => by cases h)⟩
theorem tok68 : TIok Tryz.prog tt 68 ti68 := fun _ => ⟨by kernel_rfl, by kernel_rfl, .inl rfl, (fun y h => by cases h), .inr rfl, (fun h => by cases h), by kernel_rfl, rfl, (fun h => by cases h), (fun h => by cases h), (fun k h => by cases h)⟩
theorem tok69 : TIok Tryz.prog tt 69 ti69 := fun _ => ⟨by kernel_rfl, by kernel_rfl, .inr (by kernel_rfl), (fun y h => by cases h; rfl), .inl rfl, (fun h => by cases h), by kernel_rfl, rfl, (fun h => by cases h), (fun h => by cases h), (fun k h => by cases h)⟩
theorem tok70 : TIok Tryz.prog tt 70 ti70 := fun _ => ⟨by kernel_rfl, by kernel_rfl, .inr (by kernel_rfl), (fun y h => by cases h; rfl), .inl rfl, (fun _ => ⟨by kernel_rfl, by kernel_rfl, by kernel_rfl⟩), by kernel_rfl, rfl, (fun h => by cases h), (fun h => by cases h), (fun k h => by cases h)⟩
theorem tok71 : TIok Tryz.prog tt 71 ti71 := fun _ => ⟨by kernel_rfl, by kernel_rfl, .inl rfl, (fun y h => by cases h), .inr rfl, (fun h => by cases h), by kernel_rfl, rfl, (fun h => by cases h), (fun h => by cases h), (fun k h => by cases h)⟩
theorem tok72 : TIok Tryz.prog tt 72 ti72 := fun _ => ⟨by kernel_rfl, by kernel_rfl, .inr (by kernel_rfl), (fun y h => by cases h; rfl), .inr rfl, (fun h => by cases h), by kernel_rfl, rfl, (fun h => by cases h), (fun h => by cases h), (fun k h j hj => by cases h; exact zero_of (by kernel_rfl) hj)⟩
theorem tok74 : TIok Tryz.prog tt 74 ti74 := fun _ => ⟨by kernel_rfl, by kernel_rfl, .inl rfl, (fun y h => by cases h), .inr rfl, (fun h => by cases h), by kernel_rfl, rfl, (fun h => by cases h), (fun h => by cases h), (fun k h => by cases h)⟩
theorem tok75 : TIok Tryz.prog tt 75 ti75 := fun _ => ⟨by kernel_rfl, by kernel_rfl, .inr (by kernel_rfl), (fun y h => by cases h; rfl), .inl rfl, (fun h => by cases h), by kernel_rfl, rfl, (fun h => by cases h), (fun h => by cases h), (fun k h => by cases h)⟩
theorem tok76 : TIok Tryz.prog tt 76 ti76 := fun _ => ⟨by kernel_rfl, by kernel_rfl, .inr (by kernel_rfl), (fun y h => by cases h; rfl), .inl rfl, (fun _ => ⟨by kernel_rfl, by kernel_rfl, by kernel_rfl⟩), by kernel_rfl, rfl, (fun h => by cases h), (fun h => by cases h), (fun k h => by cases h)⟩
theorem tok77 : TIok Tryz.prog tt 77 ti77 := fun _ => ⟨by kernel_rfl, by kernel_rfl, .inl rfl, (fun y h => by cases h), .inr rfl, (fun h => by cases h), by kernel_rfl, rfl, (fun h => by cases h), (fun h => by cases h), (fun k h => by cases h)⟩
theorem tok78 : TIok Tryz.prog tt 78 ti78 := fun _ => ⟨by kernel_rfl, by kernel_rfl, .inl rfl, (fun y h => by cases h), .inr rfl, (fun h => by cases h), by kernel_rfl, rfl, (fun h => by cases h), (fun h => by cases h), (fun k h => by cases h)⟩
theorem tok79 : TIok Tryz.prog tt 79 ti79 := fun _ => ⟨by kernel_rfl, by kernel_rfl, .inl rfl, (fun y h => by cases h), .inr rfl, (fun h => by cases h), by kernel_rfl, rfl, (fun h => by cases h), (fun h => by cases h), (fun k h => by cases h)⟩
theorem tok80 : TIok Tryz.prog tt 80 ti80 := fun _ => ⟨by kernel_rfl, by kernel_rfl, .inl rfl, (fun y h => by cases h), .inr rfl, (fun h => by cases h), by kernel_rfl, rfl, (fun h => by cases h), (fun h => by cases h), (fun k h => by cases h)⟩
theorem tok81 : TIok Tryz.prog tt 81 ti81 := fun _ => ⟨by kernel_rfl, by kernel_rfl, .inl rfl, (fun y h => by cases h), .inr rfl, (fun h => by cases h), by kernel_rfl, rfl, (fun h => by cases h), (fun h => by cases h), (fun k h => by cases h)⟩
theorem tok82 : TIok Tryz.prog tt 82 ti82 := fun _ => ⟨by kernel_rfl, by kernel_rfl, .inl rfl, (fun y h => by cases h), .inr rfl, (fun h => by cases h), by kernel_rfl, rfl, (fun h => by cases h), (fun h => by cases h), (fun k h => by cases h)⟩
theorem tok83 : TIok Tryz.prog tt 83 ti83 := fun _ => ⟨by kernel_rfl, by kernel_rfl, .inr (by kernel_rfl), (fun y h => by cases h; rfl), .inl rfl, (fun h => by cases h), by kernel_rfl, rfl, (fun h => by cases h), (fun h => by cases h), (fun k h => by cases h)⟩
theorem tok84 : TIok Tryz.prog tt 84 ti84 := fun _ => ⟨by kernel_rfl, by kernel_rfl, .inr (by kernel_rfl), (fun y h => by cases h; rfl), .inl rfl, (fun _ => ⟨by kernel_rfl, by kernel_rfl, by kernel_rfl⟩), by kernel_rfl, rfl, (fun h => by cases h), (fun h => by cases h), (fun k h => by cases h)⟩
theorem tok85 : TIok Tryz.prog tt 85 ti85 := fun _ => ⟨by kernel_rfl, by kernel_rfl, .inl rfl, (fun y h => by cases h), .inr rfl, (fun h => by cases h), by kernel_rfl, rfl, (fun h => by cases h), (fun h => by cases h), (fun k h => by cases h)⟩
theorem tok86 : TIok Tryz.prog tt 86 ti86 := fun _ => ⟨by kernel_rfl, by kernel_rfl, .inr (by kernel_rfl), (fun y h => by cases h; rfl), .inl rfl, (fun h => by cases h), by kernel_rfl, rfl, (fun h => by cases h), (fun h => by cases h), (fun k h => by cases h)⟩
theorem tok87 : TIok Tryz.prog tt 87 ti87 := fun _ => ⟨by kernel_rfl, by kernel_rfl, .inr (by kernel_rfl), (fun y h => by cases h; rfl), .inl rfl, (fun h => by cases h), by kernel_rfl, rfl, (fun h => by cases h), (fun h => by cases h), (fun k h => by cases h)⟩
theorem tok88 : TIok Tryz.prog tt 88 ti88 := fun _ => ⟨by kernel_rfl, by kernel_rfl, .inl rfl, (fun y h => by cases h), .inr rfl, (fun h => by cases h), by kernel_rfl, rfl, (fun h => by cases h), (fun h => by cases h), (fun k h => by cases h)⟩
theorem tok89 : TIok Tryz.prog tt 89 ti89 := fun _ => ⟨by kernel_rfl, by kernel_rfl, .inl rfl, (fun y h => by cases h), .inr rfl, (fun h => by cases h), by kernel_rfl, rfl, (fun h => by cases h), (fun h => by cases h), (fun k h => by cases h)⟩
theorem tok90 : TIok Tryz.prog tt 90 ti90 := fun _ => ⟨by kernel_rfl, by kernel_rfl, .inl rfl, (fun y h => by cases h), .inr rfl, (fun h => by cases h), by kernel_rfl, rfl, (fun h => by cases h), (fun h => by cases h), (fun k h => by cases h)⟩
theorem tok91 : TIok Tryz.prog tt 91 ti91 := fun _ => ⟨by kernel_rfl, by kernel_rfl, .inl rfl, (fun y h => by cases h), .inr rfl, (fun h => by cases h), by kernel_rfl, rfl, (fun h => by cases h), (fun h => by cases h), (fun k h => by cases h)⟩
theorem tok92 : TIok Tryz.prog tt 92 ti92 := fun _ => ⟨by kernel_rfl, by kernel_rfl, .inl rfl, (fun y h => by cases h), .inr rfl, (fun h => by cases h), by kernel_rfl, rfl, (fun h => by cases h), (fun h => by cases h), (fun k h => by cases h)⟩
theorem tok94 : TIok Tryz.prog tt 94 ti94 := fun _ => ⟨by kernel_rfl, by kernel_rfl, .inr (by kernel_rfl), (fun y h => by cases h; rfl), .inr rfl, (fun h => by cases h), by kernel_rfl, rfl, (fun h => by cases h), (fun h => by cases h), (fun k h j hj => by cases h; exact zero_of (by kernel_rfl) hj)⟩
theorem tok95 : TIok Tryz.prog tt 95 ti95 := fun _ => ⟨by kernel_rfl, by kernel_rfl, .inl rfl, (fun y h => by cases h), .inr rfl, (fun h => by cases h), by kernel_rfl, rfl, (fun h => by cases h), (fun h => by cases h), (fun k h => by cases h)⟩
theorem tok96 : TIok Tryz.prog tt 96 ti96 := fun _ => ⟨by kernel_rfl, by kernel_rfl, .inl rfl, (fun y h => by cases h), .inr rfl, (fun h => by cases h), by kernel_rfl, rfl, (fun h => by cases h), (fun h => by cases h), (fun k h => by cases h)⟩
theorem tok97 : TIok Tryz.prog tt 97 ti97 := fun _ => ⟨by kernel_rfl, by kernel_rfl, .inr (by kernel_rfl), (fun y h => by cases h; rfl), .inr rfl, (fun h => by cases h), by kernel_rfl, rfl, (fun h => by cases h), (fun h => by cases h), (fun k h => by cases h)⟩
theorem tok99 : TIok Tryz.prog tt 99 ti99 := fun _ => ⟨by kernel_rfl, by kernel_rfl, .inl rfl, (fun y h => by cases h), .inr rfl, (fun h => by cases h), by kernel_rfl, rfl, (fun h => by cases h), (fun h => by cases h), (fun k h => by cases h)⟩
theorem tok100 : TIok Tryz.prog tt 100 ti100 := fun _ => ⟨by kernel_rfl, by kernel_rfl, .inl rfl, (fun y h => by cases h), .inr rfl, (fun h => by cases h), by kernel_rfl, rfl, (fun h => by cases h), (fun h => by cases h), (fun k h => by cases h)⟩
theorem tok102 : TIok Tryz.prog tt 102 ti102 := fun _ => ⟨by kernel_rfl, by kernel_rfl, .inl rfl, (fun y h => by cases h), .inr rfl, (fun h => by cases h), by kernel_rfl, rfl, (fun h => by cases h), (fun h => by cases h), (fun k h => by cases h)⟩
theorem tok103 : TIok Tryz.prog tt 103 ti103 := fun _ => ⟨by kernel_rfl, by kernel_rfl, .inl rfl, (fun y h => by cases h), .inr rfl, (fun h => by cases h), by kernel_rfl, rfl, (fun h => by cases h), (fun h => by cases h), (fun k h => by cases h)⟩
theorem tok104 : TIok Tryz.prog tt 104 ti104 := fun _ => ⟨by kernel_rfl, by kernel_rfl, .inl rfl, (fun y h => by cases h), .inr rfl, (fun h => by cases h), by kernel_rfl, rfl, (fun h => by cases h), (fun h => by cases h), (fun k h => by cases h)⟩
theorem tok105 : TIok Tryz.prog tt 105 ti105 := fun _ => ⟨by kernel_rfl, by kernel_rfl, .inr (by kernel_rfl), (fun y h => by cases h; rfl), .inr rfl, (fun h => by cases h), by kernel_rfl, rfl, (fun h => by cases h), (fun h => by cases h), (fun k h => by cases h)⟩
theorem tok107 : TIok Tryz.prog tt 107 ti107 := fun _ => ⟨by kernel_rfl, by kernel_rfl, .inl rfl, (fun y h => by cases h), .inr rfl, (fun h => by cases h), by kernel_rfl, rfl, (fun h => by cases h), (fun h => by cases h), (fun k h => by cases h)⟩
theorem tok108 : TIok Tryz.prog tt 108 ti108 := fun _ => ⟨by kernel_rfl, by kernel_rfl, .inl rfl, (fun y h => by cases h), .inr rfl, (fun h => by cases h), by kernel_rfl, rfl, (fun h => by cases h), (fun h => by cases h), (fun k h => by cases h)⟩
theorem tok110 : TIok Tryz.prog tt 110 ti110 := fun _ => ⟨by kernel_rfl, by kernel_rfl, .inr (by kernel_rfl), (fun y h => by cases h; rfl), .inr rfl, (fun h => by cases h), by kernel_rfl, rfl, (fun h => by cases h), (fun h => by cases h), (fun k h j hj => by cases h; exact zero_of (by kernel_rfl) hj)⟩
theorem tok112 : TIok Tryz.prog tt 112 ti112 := fun _ => ⟨by kernel_rfl, by kernel_rfl, .inr (by kernel_rfl), (fun y h => by cases h; rfl), .inr rfl, (fun h => by cases h), by kernel_rfl, rfl, (fun h => by cases h), (fun h => by cases h), (fun k h j hj => by cases h; exact zero_of (by kernel_rfl) hj)⟩
theorem tok113 : TIok Tryz.prog tt 113 ti113 := fun _ => ⟨by kernel_rfl, by kernel_rfl, .inl rfl, (fun y h => by cases h), .inr rfl, (fun h => by cases h), by kernel_rfl, rfl, (fun h => by cases h), (fun h => by cases h), (fun k h => by cases h)⟩
theorem tok114 : TIok Tryz.prog tt 114 ti114 := fun _ => ⟨by kernel_rfl, by kernel_rfl, .inl rfl, (fun y h => by cases h), .inr rfl, (fun h => by cases h), by kernel_rfl, rfl, (fun h => by cases h), (fun h => by cases h), (fun k h => by cases h)⟩
theorem tok115 : TIok Tryz.prog tt 115 ti115 := fun _ => ⟨by kernel_rfl, by kernel_rfl, .inl rfl, (fun y h => by cases h), .inr rfl, (fun h => by cases h), by kernel_rfl, rfl, (fun h => by cases h), (fun h => by cases h), (fun k h => by cases h)⟩
theorem tok116 : TIok Tryz.prog tt 116 ti116 := fun _ => ⟨by kernel_rfl, by kernel_rfl, .inl rfl, (fun y h => by cases h), .inr rfl, (fun h => by cases h), by kernel_rfl, rfl, (fun h => by cases h), (fun h => by cases h), (fun k h => by cases h)⟩
theorem tok117 : TIok Tryz.prog tt 117 ti117 := fun _ => ⟨by kernel_rfl, by kernel_rfl, .inl rfl, (fun y h => by cases h), .inr rfl, (fun h => by cases h), by kernel_rfl, rfl, (fun h => by cases h), (fun h => by cases h), (fun k h => by cases h)⟩
theorem tok118 : TIok Tryz.prog tt 118 ti118 := fun _ => ⟨by kernel_rfl, by kernel_rfl, .inl rfl, (fun y h => by cases h), .inl rfl, (fun h => by cases h), by kernel_rfl, rfl, (fun h => by cases h), (fun h => by cases h), (fun k h => by cases h)⟩
theorem tok119 : TIok Tryz.prog tt 119 ti119 := fun _ => ⟨by kernel_rfl, by kernel_rfl, .inl rfl, (fun y h => by cases h), .inl rfl, (fun h => by cases h), by kernel_rfl, rfl, (fun h => by cases h), (fun _ => rfl), (fun k h => by cases h)⟩
theorem tok123 : TIok Tryz.prog tt 123 ti123 := fun _ => ⟨by kernel_rfl, by kernel_rfl, .inl rfl, (fun y h => by cases h), .inr rfl, (fun h => by cases h), by kernel_rfl, rfl, (fun h => by cases h), (fun h => by cases h), (fun k h => by cases h)⟩
theorem tok124 : TIok Tryz.prog tt 124 ti124 := fun _ => ⟨by kernel_rfl, by kernel_rfl, .inl rfl, (fun y h => by cases h), .inr rfl, (fun h => by cases h), by kernel_rfl, rfl, (fun h => by cases h), (fun h => by cases h), (fun k h => by cases h)⟩
theorem tok125 : TIok Tryz.prog tt 125 ti125 := fun _ => ⟨by kernel_rfl, by kernel_rfl, .inl rfl, (fun y h => by cases h), .inr rfl, (fun h => by cases h), by kernel_rfl, rfl, (fun h => by cases h), (fun h => by cases h), (fun k h => by cases h)⟩
theorem tok126 : TIok Tryz.prog tt 126 ti126 := fun _ => ⟨by kernel_rfl, by kernel_rfl, .inl rfl, (fun y h => by cases h), .inr rfl, (fun h => by cases h), by kernel_rfl, rfl, (fun h => by cases h), (fun h => by cases h), (fun k h => by cases h)⟩
theorem tok127 : TIok Tryz.prog tt 127 ti127 := fun _ => ⟨by kernel_rfl, by kernel_rfl, .inl rfl, (fun y h => by cases h), .inr rfl, (fun h => by cases h), by kernel_rfl, rfl, (fun h => by cases h), (fun h => by cases h), (fun k h => by cases h)⟩
theorem tok128 : TIok Tryz.prog tt 128 ti128 := fun _ => ⟨by kernel_rfl, by kernel_rfl, .inl rfl, (fun y h => by cases h), .inr rfl, (fun h => by cases h), by kernel_rfl, rfl, (fun h => by cases h), (fun h => by cases h), (fun k h => by cases h)⟩
theorem tok129 : TIok Tryz.prog tt 129 ti129 := fun _ => ⟨by kernel_rfl, by kernel_rfl, .inl rfl, (fun y h => by cases h), .inr rfl, (fun h => by cases h), by kernel_rfl, rfl, (fun h => by cases h), (fun h => by cases h), (fun k h => by cases h)⟩
theorem tok130 : TIok Tryz.prog tt 130 ti130 := fun _ => ⟨by kernel_rfl, by kernel_rfl, .inl rfl, (fun y h => by cases h), .inr rfl, (fun h => by cases h), by kernel_rfl, rfl, (fun h => by cases h), (fun h => by cases h), (fun k h => by cases h)⟩
theorem tok131 : TIok Tryz.prog tt 131 ti131 := fun _ => ⟨by kernel_rfl, by kernel_rfl, .inl rfl, (fun y h => by cases h), .inr rfl, (fun h => by cases h), by kernel_rfl, rfl, (fun h => by cases h), (fun h => by cases h), (fun k h => by cases h)⟩
theorem tok133 : TIok Tryz.prog tt 133 ti133 := fun _ => ⟨by kernel_rfl, by kernel_rfl, .inl rfl, (fun y h => by cases h), .inr rfl, (fun h => by cases h), by kernel_rfl, rfl, (fun h => by cases h), (fun h => by cases h), (fun k h => by cases h)⟩
theorem tok134 : TIok Tryz.prog tt 134 ti134 := fun _ => ⟨by kernel_rfl, by kernel_rfl, .inl rfl, (fun y h => by cases h), .inr rfl, (fun h => by cases h), by kernel_rfl, rfl, (fun h => by cases h), (fun h => by cases h), (fun k h => by cases h)⟩
theorem tok135 : TIok Tryz.prog tt 135 ti135 := fun _ => ⟨by kernel_rfl, by kernel_rfl, .inl rfl, (fun y h => by cases h), .inr rfl, (fun h => by cases h), by kernel_rfl, rfl, (fun h => by cases h), (fun h => by cases h), (fun k h => by cases h)⟩
theorem tok136 : TIok Tryz.prog tt 136 ti136 := fun _ => ⟨by kernel_rfl, by kernel_rfl, .inl rfl, (fun y h => by cases h), .inr rfl, (fun h => by cases h), by kernel_rfl, rfl, (fun h => by cases h), (fun h => by cases h), (fun k h => by cases h)⟩
theorem tok137 : TIok Tryz.prog tt 137 ti137 := fun _ => ⟨by kernel_rfl, by kernel_rfl, .inl rfl, (fun y h => by cases h), .inr rfl, (fun h => by cases h), by kernel_rfl, rfl, (fun h => by cases h), (fun h => by cases h), (fun k h => by cases h)⟩
theorem tok138 : TIok Tryz.prog tt 138 ti138 := fun _ => ⟨by kernel_rfl, by kernel_rfl, .inl rfl, (fun y h => by cases h), .inr rfl, (fun h => by cases h), by kernel_rfl, rfl, (fun h => by cases h), (fun h => by cases h), (fun k h => by cases h)⟩
theorem tok139 : TIok Tryz.prog tt 139 ti139 := fun _ => ⟨by kernel_rfl, by kernel_rfl, .inl rfl, (fun y h => by cases h), .inr rfl, (fun h => by cases h), by kernel_rfl, rfl, (fun h => by cases h), (fun h => by cases h), (fun k h => by cases h)⟩
theorem tok140 : TIok Tryz.prog tt 140 ti140 := fun _ => ⟨by kernel_rfl, by kernel_rfl, .inl rfl, (fun y h => by cases h), .inr rfl, (fun h => by cases h), by kernel_rfl, rfl, (fun h => by cases h), (fun h => by cases h), (fun k h => by cases h)⟩
theorem tok141 : TIok Tryz.prog tt 141 ti141 := fun _ => ⟨by kernel_rfl, by kernel_rfl, .inl rfl, (fun y h => by cases h), .inr rfl, (fun h => by cases h), by kernel_rfl, rfl, (fun h => by cases h), (fun h => by cases h), (fun k h => by cases h)⟩
theorem tok144 : TIok Tryz.prog tt 144 ti144 := fun _ => ⟨by kernel_rfl, by kernel_rfl, .inl rfl, (fun y h => by cases h), .inr rfl, (fun h => by cases h), by kernel_rfl, rfl, (fun h => by cases h), (fun h => by cases h), (fun k h => by cases h)⟩
theorem tok145 : TIok Tryz.prog tt 145 ti145 := fun _ => ⟨by kernel_rfl, by kernel_rfl, .inl rfl, (fun y h => by cases h), .inr rfl, (fun h => by cases h), by kernel_rfl, rfl, (fun h => by cases h), (fun h => by cases h), (fun k h => by cases h)⟩
theorem tok146 : TIok Tryz.prog tt 146 ti146 := fun _ => ⟨by kernel_rfl, by kernel_rfl, .inl rfl, (fun y h => by cases h), .inr rfl, (fun h => by cases h), by kernel_rfl, rfl, (fun h => by cases h), (fun h => by cases h), (fun k h => by cases h)⟩
theorem tok147 : TIok Tryz.prog tt 147 ti147 := fun _ => ⟨by kernel_rfl, by kernel_rfl, .inl rfl, (fun y h => by cases h), .inr rfl, (fun h => by cases h), by kernel_rfl, rfl, (fun h => by cases h), (fun h => by cases h), (fun k h => by cases h)⟩
theorem tok148 : TIok Tryz.prog tt 148 ti148 := fun _ => ⟨by kernel_rfl, by kernel_rfl, .inl rfl, (fun y h => by cases h), .inr rfl, (fun h => by cases h), by kernel_rfl, rfl, (fun h => by cases h), (fun h => by cases h), (fun k h => by cases h)⟩
theorem tok149 : TIok Tryz.prog tt 149 ti149 := fun _ => ⟨by kernel_rfl, by kernel_rfl, .inr (by kernel_rfl), (fun y h => by cases h; rfl), .inr rfl, (fun h => by cases h), by kernel_rfl, rfl, (fun h => by cases h), (fun h => by cases h), (fun k h => by cases h)⟩
theorem tok151 : TIok Tryz.prog tt 151 ti151 := fun _ => ⟨by kernel_rfl, by kernel_rfl, .inl rfl, (fun y h => by cases h), .inr rfl, (fun h => by cases h), by kernel_rfl, rfl, (fun h => by cases h), (fun h => by cases h), (fun k h => by cases h)⟩
theorem tok152 : TIok Tryz.prog tt 152 ti152 := fun _ => ⟨by kernel_rfl, by kernel_rfl, .inl rfl, (fun y h => by cases h), .inr rfl, (fun h => by cases h), by kernel_rfl, rfl, (fun h => by cases h), (fun h => by cases h), (fun k h => by cases h)⟩
theorem tok153 : TIok Tryz.prog tt 153 ti153 := fun _ => ⟨by kernel_rfl, by kernel_rfl, .inl rfl, (fun y h => by cases h), .inr rfl, (fun h => by cases h), by kernel_rfl, rfl, (fun h => by cases h), (fun h => by cases h), (fun k h => by cases h)⟩
theorem tok154 : TIok Tryz.prog tt 154 ti154 := fun _ => ⟨by kernel_rfl, by kernel_rfl, .inl rfl, (fun y h => by cases h), .inr rfl, (fun h => by cases h), by kernel_rfl, rfl, (fun h => by cases h), (fun h => by cases h), (fun k h => by cases h)⟩
theorem tok155 : TIok Tryz.prog tt 155 ti155 := fun _ => ⟨by kernel_rfl, by kernel_rfl, .inl rfl, (fun y h => by cases h), .inr rfl, (fun h => by cases h), by kernel_rfl, rfl, (fun h => by cases h), (fun h => by cases h), (fun k h => by cases h)⟩
theorem tok156 : TIok Tryz.prog tt 156 ti156 := fun _ => ⟨by kernel_rfl, by kernel_rfl, .inl rfl, (fun y h => by cases h), .inr rfl, (fun h => by cases h), by kernel_rfl, rfl, (fun h => by cases h), (fun h => by cases h), (fun k h => by cases h)⟩
theorem tok157 : TIok Tryz.prog tt 157 ti157 := fun _ => ⟨by kernel_rfl, by kernel_rfl, .inl rfl, (fun y h => by cases h), .inr rfl, (fun h => by cases h), by kernel_rfl, rfl, (fun h => by cases h), (fun h => by cases h), (fun k h => by cases h)⟩
theorem tok158 : TIok Tryz.prog tt 158 ti158 := fun _ => ⟨by kernel_rfl, by kernel_rfl, .inr (by kernel_rfl), (fun y h => by cases h; rfl), .inl rfl, (fun h => by cases h), by kernel_rfl, rfl, (fun h => by cases h), (fun h => by cases h), (fun k h => by cases h)⟩
theorem tok159 : TIok Tryz.prog tt 159 ti159 := fun _ => ⟨by kernel_rfl, by kernel_rfl, .inr (by kernel_rfl), (fun y h => by cases h; rfl), .inl rfl, (fun _ => ⟨by kernel_rfl, by kernel_rfl, by kernel_rfl⟩), by kernel_rfl, rfl, (fun h => by cases h), (fun h => by cases h), (fun k h => by cases h)⟩
theorem tok160 : TIok Tryz.prog tt 160 ti160 := fun _ => ⟨by kernel_rfl, by kernel_rfl, .inl rfl, (fun y h => by cases h), .inr rfl, (fun h => by cases h), by kernel_rfl, rfl, (fun h => by cases h), (fun h => by cases h), (fun k h => by cases h)⟩
theorem tok162 : TIok Tryz.prog tt 162 ti162 := fun _ => ⟨by kernel_rfl, by kernel_rfl, .inl rfl, (fun y h => by cases h), .inr rfl, (fun h => by cases h), by kernel_rfl, rfl, (fun h => by cases h), (fun h => by cases h), (fun k h => by cases h)⟩
theorem tok163 : TIok Tryz.prog tt 163 ti163 := fun _ => ⟨by kernel_rfl, by kernel_rfl, .inl rfl, (fun y h => by cases h), .inr rfl, (fun h => by cases h), by kernel_rfl, rfl, (fun h => by cases h), (fun h => by cases h), (fun k h => by cases h)⟩
theorem tok164 : TIok Tryz.prog tt 164 ti164 := fun _ => ⟨by kernel_rfl, by kernel_rfl, .inl rfl, (fun y h => by cases h), .inr rfl, (fun h => by cases h), by kernel_rfl, rfl, (fun h => by cases h), (fun h => by cases h), (fun k h => by cases h)⟩
theorem tok166 : TIok Tryz.prog tt 166 ti166 := fun _ => ⟨by kernel_rfl, by kernel_rfl, .inl rfl, (fun y h => by cases h), .inr rfl, (fun h => by cases h), by kernel_rfl, rfl, (fun h => by cases h), (fun h => by cases h), (fun k h => by cases h)⟩
theorem tok167 : TIok Tryz.prog tt 167 ti167 := fun _ => ⟨by kernel_rfl, by kernel_rfl, .inl rfl, (fun y h => by cases h), .inr rfl, (fun h => by cases h), by kernel_rfl, rfl, (fun h => by cases h), (fun h => by cases h), (fun k h => by cases h)⟩
theorem tok171 : TIok Tryz.prog tt 171 ti171 := fun _ => ⟨by kernel_rfl, by kernel_rfl, .inl rfl, (fun y h => by cases h), .inr rfl, (fun h => by cases h), by kernel_rfl, rfl, (fun h => by cases h), (fun h => by cases h), (fun k h => by cases h)⟩
theorem tok172 : TIok Tryz.prog tt 172 ti172 := fun _ => ⟨by kernel_rfl, by kernel_rfl, .inl rfl, (fun y h => by cases h), .inr rfl, (fun h => by cases h), by kernel_rfl, rfl, (fun h => by cases h), (fun h => by cases h), (fun k h => by cases h)⟩
theorem tok173 : TIok Tryz.prog tt 173 ti173 := fun _ => ⟨by kernel_rfl, by kernel_rfl, .inl rfl, (fun y h => by cases h), .inr rfl, (fun h => by cases h), by kernel_rfl, rfl, (fun h => by cases h), (fun h => by cases h), (fun k h => by cases h)⟩
theorem tok174 : TIok Tryz.prog tt 174 ti174 := fun _ => ⟨by kernel_rfl, by kernel_rfl, .inr (by kernel_rfl), (fun y h => by cases h; rfl), .inl rfl, (fun h => by cases h), by kernel_rfl, rfl, (fun h => by cases h), (fun h => by cases h), (fun k h => by cases h)⟩
theorem tok175 : TIok Tryz.prog tt 175 ti175 := fun _ => ⟨by kernel_rfl, by kernel_rfl, .inr (by kernel_rfl), (fun y h => by cases h; rfl), .inl rfl, (fun _ => ⟨by kernel_rfl, by kernel_rfl, by kernel_rfl⟩), by kernel_rfl, rfl, (fun h => by cases h), (fun h => by cases h), (fun k h => by cases h)⟩
theorem tok176 : TIok Tryz.prog tt 176 ti176 := fun _ => ⟨by kernel_rfl, by kernel_rfl, .inr (by kernel_rfl), (fun y h => by cases h; rfl), .inl rfl, (fun h => by cases h), by kernel_rfl, rfl, (fun h => by cases h), (fun h => by cases h), (fun k h => by cases h)⟩
theorem tok177 : TIok Tryz.prog tt 177 ti177 := fun _ => ⟨by kernel_rfl, by kernel_rfl, .inr (by kernel_rfl), (fun y h => by cases h; rfl), .inl rfl, (fun h => by cases h), by kernel_rfl, rfl, (fun h => by cases h), (fun h => by cases h), (fun k h => by cases h)⟩
theorem tok178 : TIok Tryz.prog tt 178 ti178 := fun _ => ⟨by kernel_rfl, by kernel_rfl, .inl rfl, (fun y h => by cases h), .inr rfl, (fun h => by cases h), by kernel_rfl, rfl, (fun h => by cases h), (fun h => by cases h), (fun k h => by cases h)⟩
theorem tok179 : TIok Tryz.prog tt 179 ti179 := fun _ => ⟨by kernel_rfl, by kernel_rfl, .inl rfl, (fun y h => by cases h), .inr rfl, (fun h => by cases h), by kernel_rfl, rfl, (fun h => by cases h), (fun h => by cases h), (fun k h => by cases h)⟩
theorem tok180 : TIok Tryz.prog tt 180 ti180 := fun _ => ⟨by kernel_rfl, by kernel_rfl, .inr (by kernel_rfl), (fun y h => by cases h; rfl), .inr rfl, (fun h => by cases h), by kernel_rfl, rfl, (fun h => by cases h), (fun h => by cases h), (fun k h => by cases h)⟩
theorem tok181 : TIok Tryz.prog tt 181 ti181 := fun _ => ⟨by kernel_rfl, by kernel_rfl, .inl rfl, (fun y h => by cases h), .inr rfl, (fun h => by cases h), by kernel_rfl, rfl, (fun h => by cases h), (fun h => by cases h), (fun k h => by cases h)⟩
theorem tok182 : TIok Tryz.prog tt 182 ti182 := fun _ => ⟨by kernel_rfl, by kernel_rfl, .inl rfl, (fun y h => by cases h), .inr rfl, (fun h => by cases h), by kernel_rfl, rfl, (fun h => by cases h), (fun h => by cases h), (fun k h => by cases h)⟩
theorem tok183 : TIok Tryz.prog tt 183 ti183 := fun _ => ⟨by kernel_rfl, by kernel_rfl, .inl rfl, (fun y h => by cases h), .inl rfl, (fun h => by cases h), by kernel_rfl, rfl, (fun h => by cases h), (fun h => by cases h), (fun k h => by cases h)⟩
theorem tok184 : TIok Tryz.prog tt 184 ti184 := fun _ => ⟨by kernel_rfl, by kernel_rfl, .inl rfl, (fun y h => by cases h), .inl rfl, (fun h => by cases h), by kernel_rfl, rfl, (fun h => by cases h), (fun h => by cases h), (fun k h => by cases h)⟩
theorem tok185 : TIok Tryz.prog tt 185 ti185 := fun _ => ⟨by kernel_rfl, by kernel_rfl, .inr (by kernel_rfl), (fun y h => by cases h; rfl), .inl rfl, (fun h => by cases h), by kernel_rfl, rfl, (fun h => by cases h), (fun h => by cases h), (fun k h => by cases h)⟩
theorem tok186 : TIok Tryz.prog tt 186 ti186 := fun _ => ⟨by kernel_rfl, by kernel_rfl, .inr (by kernel_rfl), (fun y h => by cases h; rfl), .inl rfl, (fun _ => ⟨by kernel_rfl, by kernel_rfl, by kernel_rfl⟩), by kernel_rfl, rfl, (fun h => by cases h), (fun h => by cases h), (fun k h => by cases h)⟩
theorem tok187 : TIok Tryz.prog tt 187 ti187 := fun _ => ⟨by kernel_rfl, by kernel_rfl, .inl rfl, (fun y h => by cases h), .inr rfl, (fun h => by cases h), by kernel_rfl, rfl, (fun h => by cases h), (fun h => by cases h), (fun k h => by cases h)⟩
theorem tok189 : TIok Tryz.prog tt 189 ti189 := fun _ => ⟨by kernel_rfl, by kernel_rfl, .inl rfl, (fun y h => by cases h), .inr rfl, (fun h => by cases h), by kernel_rfl, rfl, (fun h => by cases h), (fun h => by cases h), (fun k h => by cases h)⟩
theorem tok190 : TIok Tryz.prog tt 190 ti190 := fun _ => ⟨by kernel_rfl, by kernel_rfl, .inl rfl, (fun y h => by cases h), .inr rfl, (fun h => by cases h), by kernel_rfl, rfl, (fun h => by cases h), (fun h => by cases h), (fun k h => by cases h)⟩
theorem tok192 : TIok Tryz.prog tt 192 ti192 := fun _ => ⟨by kernel_rfl, by kernel_rfl, .inl rfl, (fun y h => by cases h), .inr rfl, (fun h => by cases h), by kernel_rfl, rfl, (fun h => by cases h), (fun h => by cases h), (fun k h => by cases h)⟩
theorem tok193 : TIok Tryz.prog tt 193 ti193 := fun _ => ⟨by kernel_rfl, by kernel_rfl, .inl rfl, (fun y h => by cases h), .inr rfl, (fun h => by cases h), by kernel_rfl, rfl, (fun h => by cases h), (fun h => by cases h), (fun k h => by cases h)⟩
theorem tok194 : TIok Tryz.prog tt 194 ti194 := fun _ => ⟨by kernel_rfl, by kernel_rfl, .inl rfl, (fun y h => by cases h), .inr rfl, (fun h => by cases h), by kernel_rfl, rfl, (fun h => by cases h), (fun h => by cases h), (fun k h => by cases h)⟩
theorem tok195 : TIok Tryz.prog tt 195 ti195 := fun _ => ⟨by kernel_rfl, by kernel_rfl, .inl rfl, (fun y h => by cases h), .inr rfl, (fun h => by cases h), by kernel_rfl, rfl, (fun h => by cases h), (fun h => by cases h), (fun k h => by cases h)⟩
theorem tok196 : TIok Tryz.prog tt 196 ti196 := fun _ => ⟨by kernel_rfl, by kernel_rfl, .inl rfl, (fun y h => by cases h), .inr rfl, (fun h => by cases h), by kernel_rfl, rfl, (fun h => by cases h), (fun h => by cases h), (fun k h => by cases h)⟩
theorem tok197 : TIok Tryz.prog tt 197 ti197 := fun _ => ⟨by kernel_rfl, by kernel_rfl, .inl rfl, (fun y h => by cases h), .inr rfl, (fun h => by cases h), by kernel_rfl, rfl, (fun h => by cases h), (fun h => by cases h), (fun k h => by cases h)⟩
theorem tok198 : TIok Tryz.prog tt 198 ti198 := fun _ => ⟨by kernel_rfl, by kernel_rfl, .inr (by kernel_rfl), (fun y h => by cases h; rfl), .inl rfl, (fun h => by cases h), by kernel_rfl, rfl, (fun h => by cases h), (fun h => by cases h), (fun k h => by cases h)⟩
theorem tok199 : TIok Tryz.prog tt 199 ti199 := fun _ => ⟨by kernel_rfl, by kernel_rfl, .inr (by kernel_rfl), (fun y h => by cases h; rfl), .inl rfl, (fun h => by cases h), by kernel_rfl, rfl, (fun h => by cases h), (fun h => by cases h), (fun k h => by cases h)⟩
theorem tok200 : TIok Tryz.prog tt 200 ti200 := fun _ => ⟨by kernel_rfl, by kernel_rfl, .inl rfl, (fun y h => by cases h), .inr rfl, (fun h => by cases h), by kernel_rfl, rfl, (fun h => by cases h), (fun h => by cases h), (fun k h => by cases h)⟩
theorem tok201 : TIok Tryz.prog tt 201 ti201 := fun _ => ⟨by kernel_rfl, by kernel_rfl, .inl rfl, (fun y h => by cases h), .inr rfl, (fun h => by cases h), by kernel_rfl, rfl, (fun h => by cases h), (fun h => by cases h), (fun k h => by cases h)⟩
theorem tok202 : TIok Tryz.prog tt 202 ti202 := fun _ => ⟨by kernel_rfl, by kernel_rfl, .inl rfl, (fun y h => by cases h), .inr rfl, (fun h => by cases h), by kernel_rfl, rfl, (fun h => by cases h), (fun h => by cases h), (fun k h => by cases h)⟩
theorem tok203 : TIok Tryz.prog tt 203 ti203 := fun _ => ⟨by kernel_rfl, by kernel_rfl, .inl rfl, (fun y h => by cases h), .inr rfl, (fun h => by cases h), by kernel_rfl, rfl, (fun h => by cases h), (fun h => by cases h), (fun k h => by cases h)⟩
theorem tok204 : TIok Tryz.prog tt 204 ti204 := fun _ => ⟨by kernel_rfl, by kernel_rfl, .inl rfl, (fun y h => by cases h), .inr rfl, (fun h => by cases h), by kernel_rfl, rfl, (fun h => by cases h), (fun h => by cases h), (fun k h => by cases h)⟩
theorem tok205 : TIok Tryz.prog tt 205 ti205 := fun _ => ⟨by kernel_rfl, by kernel_rfl, .inl rfl, (fun y h => by cases h), .inr rfl, (fun h => by cases h), by kernel_rfl, rfl, (fun h => by cases h), (fun h => by cases h), (fun k h => by cases h)⟩
theorem tok207 : TIok Tryz.prog tt 207 ti207 := fun _ => ⟨by kernel_rfl, by kernel_rfl, .inr (by kernel_rfl), (fun y h => by cases h; rfl), .inl rfl, (fun h => by cases h), by kernel_rfl, rfl, (fun h => by cases h), (fun h => by cases h), (fun k h => by cases h)⟩
theorem tok208 : TIok Tryz.prog tt 208 ti208 := fun _ => ⟨by kernel_rfl, by kernel_rfl, .inr (by kernel_rfl), (fun y h => by cases h; rfl), .inl rfl, (fun h => by cases h), by kernel_rfl, rfl, (fun h => by cases h), (fun h => by cases h), (fun k h => by cases h)⟩
theorem tok210 : TIok Tryz.prog tt 210 ti210 := fun _ => ⟨by kernel_rfl, by kernel_rfl, .inl rfl, (fun y h => by cases h), .inr rfl, (fun h => by cases h), by kernel_rfl, rfl, (fun h => by cases h), (fun h => by cases h), (fun k h => by cases h)⟩
theorem tok212 : TIok Tryz.prog tt 212 ti212 := fun _ => ⟨by kernel_rfl, by kernel_rfl, .inl rfl, (fun y h => by cases h), .inr rfl, (fun h => by cases h), by kernel_rfl, rfl, (fun h => by cases h), (fun h => by cases h), (fun k h => by cases h)⟩
theorem tok214 : TIok Tryz.prog tt 214 ti214 := fun _ => ⟨by kernel_rfl, by kernel_rfl, .inl rfl, (fun y h => by cases h), .inr rfl, (fun h => by cases h), by kernel_rfl, rfl, (fun h => by cases h), (fun h => by cases h), (fun k h => by cases h)⟩
theorem tok215 : TIok Tryz.prog tt 215 ti215 := fun _ => ⟨by kernel_rfl, by kernel_rfl, .inl rfl, (fun y h => by cases h), .inr rfl, (fun h => by cases h), by kernel_rfl, rfl, (fun h => by cases h), (fun h => by cases h), (fun k h => by cases h)⟩
theorem tok216 : TIok Tryz.prog tt 216 ti216 := fun _ => ⟨by kernel_rfl, by kernel_rfl, .inl rfl, (fun y h => by cases h), .inl rfl, (fun h => by cases h), by kernel_rfl, rfl, (fun h => by cases h), (fun h => by cases h), (fun k h => by cases h)⟩
theorem tok217 : TIok Tryz.prog tt 217 ti217 := fun _ => ⟨by kernel_rfl, by kernel_rfl, .inl rfl, (fun y h => by cases h), .inl rfl, (fun h => by cases h), by kernel_rfl, rfl, (fun h => by cases h), (fun h => by cases h), (fun k h => by cases h)⟩
theorem tok223 : TIok Tryz.prog tt 223 ti223 := fun _ => ⟨by kernel_rfl, by kernel_rfl, .inl rfl, (fun y h => by cases h), .inr rfl, (fun h => by cases h), by kernel_rfl, rfl, (fun h => by cases h), (fun h => by cases h), (fun k h => by cases h)⟩
theorem tok224 : TIok Tryz.prog tt 224 ti224 := fun _ => ⟨by kernel_rfl, by kernel_rfl, .inr (by kernel_rfl), (fun y h => by cases h; rfl), .inr rfl, (fun h => by cases h), by kernel_rfl, rfl, (fun h => by cases h), (fun h => by cases h), (fun k h j hj => by cases h; exact zero_of (by kernel_rfl) hj)⟩
theorem tok225 : TIok Tryz.prog tt 225 ti225 := fun _ => ⟨by kernel_rfl, by kernel_rfl, .inr (by kernel_rfl), (fun y h => by cases h; rfl), .inr rfl, (fun h => by cases h), by kernel_rfl, rfl, (fun h => by cases h), (fun h => by cases h), (fun k h j hj => by cases h; exact zero_of (by kernel_rfl) hj)⟩
theorem tok226 : TIok Tryz.prog tt 226 ti226 := fun _ => ⟨by kernel_rfl, by kernel_rfl, .inl rfl, (fun y h => by cases h), .inl rfl, (fun h => by cases h), by kernel_rfl, rfl, (fun h => by cases h), (fun h => by cases h), (fun k h => by cases h)⟩
theorem tok227 : TIok Tryz.prog tt 227 ti227 := fun _ => ⟨by kernel_rfl, by kernel_rfl, .inl rfl, (fun y h => by cases h), .inl rfl, (fun h => by cases h), by kernel_rfl, rfl, (fun h => by cases h), (fun h => by cases h), (fun k h => by cases h)⟩
theorem tok : TOk Tryz.prog tt := TOk.of_all (⟨tok107, ⟨tok52, ⟨tok27, ⟨tok14, ⟨tok8, ⟨tok4, ⟨tok2, ⟨tok1, trivial, trivial⟩, ⟨tok3, trivial, trivial⟩⟩, ⟨tok7, ⟨tok5, trivial, trivial⟩, trivial⟩⟩, ⟨tok11, ⟨tok10, ⟨tok9, trivial, trivial⟩, trivial⟩, ⟨tok13, ⟨tok12, trivial, trivial⟩, trivial⟩⟩⟩, ⟨tok21, ⟨tok17, ⟨tok16, ⟨tok15, trivial, trivial⟩, trivial⟩, ⟨tok19, ⟨tok18, trivial, trivial⟩, trivial⟩⟩, ⟨tok24, ⟨tok23, ⟨tok22, trivial, trivial⟩, trivial⟩, ⟨tok26, ⟨tok25, trivial, trivial⟩, trivial⟩⟩⟩⟩, ⟨tok39, ⟨tok33, ⟨tok30, ⟨tok29, ⟨tok28, trivial, trivial⟩, trivial⟩, ⟨tok32, ⟨tok31, trivial, trivial⟩, trivial⟩⟩, ⟨tok36, ⟨tok35, ⟨tok34, trivial, trivial⟩, trivial⟩, ⟨tok38, ⟨tok37, trivial, trivial⟩, trivial⟩⟩⟩, ⟨tok46, ⟨tok43, ⟨tok41, ⟨tok40, trivial, trivial⟩, trivial⟩, ⟨tok45, ⟨tok44, trivial, trivial⟩, trivial⟩⟩, ⟨tok49, ⟨tok48, ⟨tok47, trivial, trivial⟩, trivial⟩, ⟨tok51, ⟨tok50, trivial, trivial⟩, trivial⟩⟩⟩⟩⟩, ⟨tok79, ⟨tok65, ⟨tok59, ⟨tok56, ⟨tok55, ⟨tok54, trivial, trivial⟩, trivial⟩, ⟨tok58, ⟨tok57, trivial, trivial⟩, trivial⟩⟩, ⟨tok62, ⟨tok61, ⟨tok60, trivial, trivial⟩, trivial⟩, ⟨tok64, ⟨tok63, trivial, trivial⟩, trivial⟩⟩⟩, ⟨tok72, ⟨tok69, ⟨tok68, ⟨tok67, trivial, trivial⟩, trivial⟩, ⟨tok71, ⟨tok70, trivial, trivial⟩, trivial⟩⟩, ⟨tok76, ⟨tok75, ⟨tok74, trivial, trivial⟩, trivial⟩, ⟨tok78, ⟨tok77, trivial, trivial⟩, trivial⟩⟩⟩⟩, ⟨tok91, ⟨tok85, ⟨tok82, ⟨tok81, ⟨tok80, trivial, trivial⟩, trivial⟩, ⟨tok84, ⟨tok83, trivial, trivial⟩, trivial⟩⟩, ⟨tok88, ⟨tok87, ⟨tok86, trivial, trivial⟩, trivial⟩, ⟨tok90, ⟨tok89, trivial, trivial⟩, trivial⟩⟩⟩, ⟨tok99, ⟨tok95, ⟨tok94, ⟨tok92, trivial, trivial⟩, trivial⟩, ⟨tok97, ⟨tok96, trivial, trivial⟩, trivial⟩⟩, ⟨tok103, ⟨tok102, ⟨tok100, trivial, trivial⟩, trivial⟩, ⟨tok105, ⟨tok104, trivial, trivial⟩, trivial⟩⟩⟩⟩⟩⟩, ⟨tok166, ⟨tok137, ⟨tok124, ⟨tok115, ⟨tok112, ⟨tok110, ⟨tok108, trivial, trivial⟩, trivial⟩, ⟨tok114, ⟨tok113, trivial, trivial⟩, trivial⟩⟩, ⟨tok118, ⟨tok117, ⟨tok116, trivial, trivial⟩, trivial⟩, ⟨tok123, ⟨tok119, trivial, trivial⟩, trivial⟩⟩⟩, ⟨tok130, ⟨tok127, ⟨tok126, ⟨tok125, trivial, trivial⟩, trivial⟩, ⟨tok129, ⟨tok128, trivial, trivial⟩, trivial⟩⟩, ⟨tok134, ⟨tok133, ⟨tok131, trivial, trivial⟩, trivial⟩, ⟨tok136, ⟨tok135, trivial, trivial⟩, trivial⟩⟩⟩⟩, ⟨tok152, ⟨tok145, ⟨tok140, ⟨tok139, ⟨tok138, trivial, trivial⟩, trivial⟩, ⟨tok144, ⟨tok141, trivial, trivial⟩, trivial⟩⟩, ⟨tok148, ⟨tok147, ⟨tok146, trivial, trivial⟩, trivial⟩, ⟨tok151, ⟨tok149, trivial, trivial⟩, trivial⟩⟩⟩, ⟨tok158, ⟨tok155, ⟨tok154, ⟨tok153, trivial, trivial⟩, trivial⟩, ⟨tok157, ⟨tok156, trivial, trivial⟩, trivial⟩⟩, ⟨tok162, ⟨tok160, ⟨tok159, trivial, trivial⟩, trivial⟩, ⟨tok164, ⟨tok163, trivial, trivial⟩, trivial⟩⟩⟩⟩⟩, ⟨tok195, ⟨tok181, ⟨tok175, ⟨tok172, ⟨tok171, ⟨tok167, trivial, trivial⟩, trivial⟩, ⟨tok174, ⟨tok173, trivial, trivial⟩, trivial⟩⟩, ⟨tok178, ⟨tok177, ⟨tok176, trivial, trivial⟩, trivial⟩, ⟨tok180, ⟨tok179, trivial, trivial⟩, trivial⟩⟩⟩, ⟨tok187, ⟨tok184, ⟨tok183, ⟨tok182, trivial, trivial⟩, trivial⟩, ⟨tok186, ⟨tok185, trivial, trivial⟩, trivial⟩⟩, ⟨tok192, ⟨tok190, ⟨tok189, trivial, trivial⟩, trivial⟩, ⟨tok194, ⟨tok193, trivial, trivial⟩, trivial⟩⟩⟩⟩, ⟨tok208, ⟨tok201, ⟨tok198, ⟨tok197, ⟨tok196, trivial, trivial⟩, trivial⟩, ⟨tok200, ⟨tok199, trivial, trivial⟩, trivial⟩⟩, ⟨tok204, ⟨tok203, ⟨tok202, trivial, trivial⟩, trivial⟩, ⟨tok207, ⟨tok205, trivial, trivial⟩, trivial⟩⟩⟩, ⟨tok217, ⟨tok214, ⟨tok212, ⟨tok210, trivial, trivial⟩, trivial⟩, ⟨tok216, ⟨tok215, trivial, trivial⟩, trivial⟩⟩, ⟨tok225, ⟨tok224, ⟨tok223, trivial, trivial⟩, trivial⟩, ⟨tok227, ⟨tok226, trivial, trivial⟩, trivial⟩⟩⟩⟩⟩⟩⟩)

def noGorB (P : Program) : Bool := P.funcs.toList.all fun fn => fn.body.isNone || !(fn.name == "runtime.NumGoroutine")
theorem noGor_of {P : Program} (h : noGorB P = true) : NoGor P := fun f fn c hf hb => by
  have h1 := List.all_eq_true.1 h fn (by have := Array.mem_of_getElem? hf; simpa using this)
  simpa [hb] using h1
theorem noGor : NoGor Tryz.prog := noGor_of (by kernel_rfl)
theorem mixed : Tryz.prog.follows .mixedOrders = true := by kernel_rfl
noncomputable def sg0 (g : FuncId) : Option Sum := bif Nat.beq g 147 then some sumIB else none
theorem sg0_ok : ∀ g s, sg0 g = some s → SumOk Tryz.prog g s := fun g s h => by
  unfold sg0 at h
  rw [cond_eq_ite] at h
  split at h
  · rename_i hg
    obtain rfl : g = 147 := Nat.eq_of_beq_eq_true hg
    cases h
    exact (sumIB_ok Tryz.func147 (by kernel_rfl) (by kernel_rfl) (by kernel_rfl) (by kernel_rfl))
  cases h
def chkRen : Go.Shelf.Ren := ⟨fun | 240 => 97 | 276 => 119 | n => n, fun | 0 => 0 | 4 => 4 | 9 => 9 | 20 => 20 | 37 => 97 | 70 => 117 | 72 => 119 | 164 => 161 | n => n, fun n => n⟩
theorem chkLays : Go.Proofs.Lays.n240 Tryz.prog chkRen := {
  mixed := mixed,
  f240 := (Tryz.func97).trans (by kernel_rfl),
  f276 := (Tryz.func119).trans (by kernel_rfl),
  t0 := Tryz.underlying0, a0 := Tryz.isAgg0, z0 := Tryz.sizeOf0, v0 := Tryz.zeroValue0,
  t4 := Tryz.underlying4, a4 := Tryz.isAgg4, z4 := Tryz.sizeOf4, v4 := Tryz.zeroValue4,
  t9 := Tryz.underlying9, a9 := Tryz.isAgg9, z9 := Tryz.sizeOf9, v9 := Tryz.zeroValue9,
  t20 := Tryz.underlying20, a20 := Tryz.isAgg20, z20 := Tryz.sizeOf20, v20 := Tryz.zeroValue20,
  t70 := Tryz.underlying117, a70 := Tryz.isAgg117, z70 := Tryz.sizeOf117, v70 := Tryz.zeroValue117,
  t72 := Tryz.underlying119, a72 := Tryz.isAgg119, z72 := Tryz.sizeOf119, v72 := Tryz.zeroValue119,
  t164 := Tryz.underlying161, a164 := Tryz.isAgg161, z164 := Tryz.sizeOf161, v164 := Tryz.zeroValue161 }
theorem chkX : Go.Proofs.Builder.X72 Tryz.prog chkRen := { sizeBuilder := by kernel_rfl, liesBuilder := by kernel_rfl }
theorem chk_ok (g : FuncId) (h : isChk g = true) : CheckOk Tryz.prog g := by
  simp only [isChk, Bool.and_eq_true] at h
  obtain rfl : g = 97 := Nat.eq_of_beq_eq_true h.1
  exact fun w b hs hf => ⟨callFunc_run noGor Tryz.func97 (show Tryz.f97.body = some ((Tryz.f97.body).getD .skip) by kernel_rfl) _ _, fun h0 => Any.Builder_copyCheck_used chkLays chkX b w h0, fun h0 => Any.Builder_copyCheck_fresh chkLays chkX b w h0 hs hf⟩
/-- the plain machine, closed -/
noncomputable def env0 : Env := { P := Tryz.prog, T := tt, cl := true, kp := fun _ _ => none, sg := sg0, lp := fun _ _ => none, bf := isChk }
theorem rf_ok : ∀ E, LoopsOk Tryz.prog E → RfOk E := fun E h f k asg bd hr => rfAt_ok h f k asg bd hr
theorem env0_ok : EnvOk env0 := ⟨tok, mixed, noGor, sg0_ok, fun f fn c _ _ => loopsOk_none (fun _ => rfl) (fun _ => rfl) c, rf_ok _ fun f fn c _ _ => loopsOk_none (fun _ => rfl) (fun _ => rfl) c, chk_ok, fun _ _ h => by cases h⟩

abbrev CT81 : Ty := (.pair .str (.pair .bool .unit))
def cloneF81 (l : List CT81.den) : Option (List CT81.den) := bif fitI l 24 then some l else none
theorem clone_new81 (xs : List CT81.den) : exec env0 1000000 (.call 81 [.lst CT81 xs false]) ⟨[], [], [], 0⟩ (fun v st => resOf true [(.list CT81, true)] (resL 1 v) st.hp) = (bif fitI xs 24 then some (xs, ()) else none) := by kernel_rfl
theorem clone_nil81 : exec env0 1000000 (.call 81 [.lst CT81 [] true]) ⟨[], [], [], 0⟩ (fun v st => match v, st.hp with | .nils, [] => some () | _, _ => none) = some () := by kernel_rfl
def cloneG81 (l : List CT81.den) : Option (List CT81.den × Unit) := match cloneF81 l with | some y => some (y, ()) | none => none
def sumClone81 : Sum := ⟨[.list CT81], [(.list CT81, true)], fun x => cloneG81 x.1⟩
theorem sumClone81_ok : SumOk Tryz.prog 81 sumClone81 := by
 have base := sum_of_lst_new0 env0_ok (e := CT81) (e2 := CT81) (g := 81) (f := cloneF81) (show 0 < CT81.size by decide) (show 0 < CT81.size by decide) (fun xs y h => by
  unfold cloneF81 at h
  rw [clone_new81]
  cases hf : fitI xs 24 with
  | true => rw [hf] at h; cases h; rfl
  | false => rw [hf] at h; cases h) fun y h => by
  have e : cloneF81 [] = some [] := rfl
  rw [e] at h
  cases h
  exact ⟨rfl, clone_nil81⟩
 intro w bar args' x y hp hb hd hy
 refine base w bar args' x y hp hb hd ?_
 have hy : cloneG81 x.1 = some y := hy
 unfold cloneG81 at hy
 cases hc : cloneF81 x.1 with
 | none => rw [hc] at hy; cases hy
 | some z => rw [hc] at hy; simp only [hc]; exact hy

abbrev CT167 : Ty := (.pair (.int .i64) (.pair (.int .i64) .unit))
def cloneF167 (l : List CT167.den) : Option (List CT167.den) := bif fitI l 16 then some l else none
theorem clone_new167 (xs : List CT167.den) : exec env0 1000000 (.call 167 [.lst CT167 xs false]) ⟨[], [], [], 0⟩ (fun v st => resOf true [(.list CT167, true)] (resL 1 v) st.hp) = (bif fitI xs 16 then some (xs, ()) else none) := by kernel_rfl
theorem clone_nil167 : exec env0 1000000 (.call 167 [.lst CT167 [] true]) ⟨[], [], [], 0⟩ (fun v st => match v, st.hp with | .nils, [] => some () | _, _ => none) = some () := by kernel_rfl
def cloneG167 (l : List CT167.den) : Option (List CT167.den × Unit) := match cloneF167 l with | some y => some (y, ()) | none => none
def sumClone167 : Sum := ⟨[.list CT167], [(.list CT167, true)], fun x => cloneG167 x.1⟩
theorem sumClone167_ok : SumOk Tryz.prog 167 sumClone167 := by
 have base := sum_of_lst_new0 env0_ok (e := CT167) (e2 := CT167) (g := 167) (f := cloneF167) (show 0 < CT167.size by decide) (show 0 < CT167.size by decide) (fun xs y h => by
  unfold cloneF167 at h
  rw [clone_new167]
  cases hf : fitI xs 16 with
  | true => rw [hf] at h; cases h; rfl
  | false => rw [hf] at h; cases h) fun y h => by
  have e : cloneF167 [] = some [] := rfl
  rw [e] at h
  cases h
  exact ⟨rfl, clone_nil167⟩
 intro w bar args' x y hp hb hd hy
 refine base w bar args' x y hp hb hd ?_
 have hy : cloneG167 x.1 = some y := hy
 unfold cloneG167 at hy
 cases hc : cloneF167 x.1 with
 | none => rw [hc] at hy; cases hy
 | some z => rw [hc] at hy; simp only [hc]; exact hy

noncomputable def sg1 (g : FuncId) : Option Sum := bif Nat.beq g 81 then some sumClone81 else bif Nat.beq g 167 then some sumClone167 else sg0 g
theorem sg1_ok : ∀ g s, sg1 g = some s → SumOk Tryz.prog g s := fun g s h => by
  unfold sg1 at h
  rw [cond_eq_ite] at h
  split at h
  · rename_i hg
    obtain rfl : g = 81 := Nat.eq_of_beq_eq_true hg
    cases h
    exact sumClone81_ok
  rw [cond_eq_ite] at h
  split at h
  · rename_i hg
    obtain rfl : g = 167 := Nat.eq_of_beq_eq_true hg
    cases h
    exact sumClone167_ok
  exact sg0_ok g s h
noncomputable def env1 : Env := { P := Tryz.prog, T := tt, cl := true, kp := fun _ _ => none, sg := sg1, lp := fun _ _ => none, bf := isChk }
theorem env1_ok : EnvOk env1 := ⟨tok, mixed, noGor, sg1_ok, fun f fn c _ _ => loopsOk_none (fun _ => rfl) (fun _ => rfl) c, rf_ok _ fun f fn c _ _ => loopsOk_none (fun _ => rfl) (fun _ => rfl) c, chk_ok, fun _ _ h => by cases h⟩
end Go.Proofs.YtipbcgjogddigaaGreatDoor