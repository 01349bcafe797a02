/- Parts of the proof, joined and shortened by a program: the plain machine, the functions as it prints them, and the mathematics over them. -/
import Derived.Test.YtdfhjhkcjecmlaaGreatDoorProg
import Derived.Shelf.Strings.Builder1
import Derived.Ground.NamesProg
import Derived.Shelf.Strings.Replace
import Derived.Test.YtdfhjhkcjecmlaaGreatDoorZ2
set_option linter.unusedVariables false
set_option linter.unusedSimpArgs false
set_option maxRecDepth 100000
set_option maxHeartbeats 4000000
namespace Go.Proofs.YtdfhjhkcjecmlaaGreatDoor
section
open Option renaming some → a6, none → a7
open Bool renaming and_eq_true → af, not_true → ak, false_or → aW
open Nat renaming eq_of_beq_eq_true → aj
open Tryz
open Go.RowKit
def ji:TI:=⟨true,.fn,1,8,a7,[.nilfn],false,false,true⟩
def ti2:TI:=⟨true,(.int .i64),1,8,a6 (.int .i64),[.val (.int .i64) 0],false,false,true⟩
def ti4:TI:=⟨true,.bool,1,1,a6 .bool,[.val .bool false],false,false,true⟩
def ti5:TI:=⟨true,(.int .u8),1,1,a6 (.int .u8),[.val (.int .u8) 0],false,false,true⟩
def ti7:TI:=⟨true,(.struct [(0,2),(1,3),(2,4),(3,6)]),4,24,a7,[.val (.int .i64) 0,.val (.int .i64) 0,.val .bool false,.val (.int .u8) 0],false,false,true⟩
def ti9:TI:=⟨true,.str,1,16,a6 .str,[.val .str []],false,false,true⟩
def aOJ:TI:=⟨true,(.int .u64),1,8,a6 (.int .u64),[.val (.int .u64) 0],false,false,true⟩
def aOL:TI:=⟨true,(.struct [(0,9),(1,12)]),2,24,a6 (.pair .str (.pair (.int .u64) .unit)),[.val .str [],.val (.int .u64) 0],false,false,true⟩
def aPC:TI:=⟨true,(.ptr 240),1,8,a7,[.nilp],false,false,true⟩
def aPD:TI:=⟨true,(.ptr 243),1,8,a7,[.nilp],false,false,true⟩
def aPE:TI:=⟨true,(.ptr 250),1,8,a7,[.nilp],false,false,true⟩
def aOS:TI:=⟨true,(.struct [(0,17)]),1,8,a7,[.nilp],false,false,true⟩
def aL5:TI:=⟨true,(.int .i32),1,4,a6 (.int .i32),[.val (.int .i32) 0],false,false,true⟩
def aPG:TI:=⟨true,(.struct [(0,3),(1,9),(2,9)]),3,40,a6 (.pair (.int .i64) (.pair .str (.pair .str .unit))),[.val (.int .i64) 0,.val .str [],.val .str []],false,false,true⟩
def aPH:TI:=⟨true,(.struct [(0,3),(1,9),(2,9)]),3,40,a6 (.pair (.int .i64) (.pair .str (.pair .str .unit))),[.val (.int .i64) 0,.val .str [],.val .str []],true,false,true⟩
def aPI:TI:=⟨true,(.struct [(0,3),(1,3),(2,3),(3,3),(4,9),(5,4),(6,9),(7,3),(8,3)]),9,88,a6 (.pair (.int .i64) (.pair (.int .i64) (.pair (.int .i64) (.pair (.int .i64) (.pair .str (.pair .bool (.pair .str (.pair (.int .i64) (.pair (.int .i64) .unit))))))))),[.val (.int .i64) 0,.val (.int .i64) 0,.val (.int .i64) 0,.val (.int .i64) 0,.val .str [],.val .bool false,.val .str [],.val (.int .i64) 0,.val (.int .i64) 0],false,false,true⟩
def aPJ:TI:=⟨true,(.struct [(0,3),(1,3),(2,3),(3,3),(4,9),(5,4),(6,9),(7,3),(8,3)]),9,88,a6 (.pair (.int .i64) (.pair (.int .i64) (.pair (.int .i64) (.pair (.int .i64) (.pair .str (.pair .bool (.pair .str (.pair (.int .i64) (.pair (.int .i64) .unit))))))))),[.val (.int .i64) 0,.val (.int .i64) 0,.val (.int .i64) 0,.val (.int .i64) 0,.val .str [],.val .bool false,.val .str [],.val (.int .i64) 0,.val (.int .i64) 0],true,false,true⟩
def aPK:TI:=⟨true,(.slice 3),1,24,a6 (.list (.int .i64)),[.nils],false,false,true⟩
def aOX:TI:=⟨true,(.struct [(0,9),(1,47),(2,4)]),3,48,a6 (.pair .str (.pair (.list (.int .i64)) (.pair .bool .unit))),[.val .str [],.nils,.val .bool false],false,false,true⟩
def aPL:TI:=⟨true,(.slice 56),1,24,a6 (.list (.pair (.int .i64) (.pair (.int .i64) (.pair (.int .i64) (.pair (.int .i64) (.pair .bool .unit)))))),[.nils],false,false,true⟩
def aPM:TI:=⟨true,(.struct [(0,3),(1,3),(2,3),(3,3),(4,4)]),5,40,a6 (.pair (.int .i64) (.pair (.int .i64) (.pair (.int .i64) (.pair (.int .i64) (.pair .bool .unit))))),[.val (.int .i64) 0,.val (.int .i64) 0,.val (.int .i64) 0,.val (.int .i64) 0,.val .bool false],false,false,true⟩
def aPN:TI:=⟨true,(.struct [(0,3),(1,3),(2,3),(3,3),(4,4)]),5,40,a6 (.pair (.int .i64) (.pair (.int .i64) (.pair (.int .i64) (.pair (.int .i64) (.pair .bool .unit))))),[.val (.int .i64) 0,.val (.int .i64) 0,.val (.int .i64) 0,.val (.int .i64) 0,.val .bool false],true,false,true⟩
def aPO:TI:=⟨true,(.ptr 69),1,8,a7,[.nilp],false,false,true⟩
def aPP:TI:=⟨true,(.struct [(0,3),(1,3),(2,3),(3,4)]),4,32,a6 (.pair (.int .i64) (.pair (.int .i64) (.pair (.int .i64) (.pair .bool .unit)))),[.val (.int .i64) 0,.val (.int .i64) 0,.val (.int .i64) 0,.val .bool false],false,false,true⟩
def aPQ:TI:=⟨true,(.struct [(0,3),(1,3),(2,3),(3,4)]),4,32,a6 (.pair (.int .i64) (.pair (.int .i64) (.pair (.int .i64) (.pair .bool .unit)))),[.val (.int .i64) 0,.val (.int .i64) 0,.val (.int .i64) 0,.val .bool false],true,false,true⟩
def aPR:TI:=⟨true,(.slice 66),1,24,a6 (.list (.pair (.int .i64) (.pair (.int .i64) (.pair (.int .i64) (.pair .bool .unit))))),[.nils],false,false,true⟩
def aOY:TI:=⟨true,(.struct [(0,9),(1,3),(2,3),(3,67),(4,66),(8,4)]),9,96,a6 (.pair .str (.pair (.int .i64) (.pair (.int .i64) (.pair (.list (.pair (.int .i64) (.pair (.int .i64) (.pair (.int .i64) (.pair .bool .unit))))) (.pair (.pair (.int .i64) (.pair (.int .i64) (.pair (.int .i64) (.pair .bool .unit)))) (.pair .bool .unit)))))),[.val .str [],.val (.int .i64) 0,.val (.int .i64) 0,.nils,.val (.int .i64) 0,.val (.int .i64) 0,.val (.int .i64) 0,.val .bool false,.val .bool false],false,false,true⟩
def aPS:TI:=⟨true,(.slice 76),1,24,a6 (.list (.pair (.int .i64) (.pair (.int .i64) .unit))),[.nils],false,false,true⟩
def aPT:TI:=⟨true,(.struct [(0,3),(1,3)]),2,16,a6 (.pair (.int .i64) (.pair (.int .i64) .unit)),[.val (.int .i64) 0,.val (.int .i64) 0],false,false,true⟩
def aPU:TI:=⟨true,(.struct [(0,3),(1,3)]),2,16,a6 (.pair (.int .i64) (.pair (.int .i64) .unit)),[.val (.int .i64) 0,.val (.int .i64) 0],true,false,true⟩
def aPV:TI:=⟨true,(.slice 49),1,24,a6 (.list (.pair .str (.pair (.list (.int .i64)) (.pair .bool .unit)))),[.nils],false,false,true⟩
def aPX:TI:=⟨true,(.slice 94),1,24,a6 (.list (.pair .bool (.pair .bool (.pair .str .unit)))),[.nils],false,false,true⟩
def aPY:TI:=⟨true,(.struct [(0,4),(1,4),(2,9)]),3,24,a6 (.pair .bool (.pair .bool (.pair .str .unit))),[.val .bool false,.val .bool false,.val .str []],false,false,true⟩
def aPZ:TI:=⟨true,(.struct [(0,4),(1,4),(2,9)]),3,24,a6 (.pair .bool (.pair .bool (.pair .str .unit))),[.val .bool false,.val .bool false,.val .str []],true,false,true⟩
def aP0:TI:=⟨true,(.slice 97),1,24,a6 (.list (.pair (.int .i64) (.pair .str (.pair (.int .i64) (.pair (.int .i64) .unit))))),[.nils],false,false,true⟩
def aP1:TI:=⟨true,(.struct [(0,3),(1,9),(2,3),(3,3)]),4,40,a6 (.pair (.int .i64) (.pair .str (.pair (.int .i64) (.pair (.int .i64) .unit)))),[.val (.int .i64) 0,.val .str [],.val (.int .i64) 0,.val (.int .i64) 0],false,false,true⟩
def aP2:TI:=⟨true,(.struct [(0,3),(1,9),(2,3),(3,3)]),4,40,a6 (.pair (.int .i64) (.pair .str (.pair (.int .i64) (.pair (.int .i64) .unit)))),[.val (.int .i64) 0,.val .str [],.val (.int .i64) 0,.val (.int .i64) 0],true,false,true⟩
def aP3:TI:=⟨true,(.slice 102),1,24,a6 (.list (.pair (.int .i64) (.pair (.int .i64) (.pair (.int .i64) (.pair (.int .i64) .unit))))),[.nils],false,false,true⟩
def aOz:TI:=⟨true,(.struct [(0,3),(1,3),(2,3),(3,3)]),4,32,a6 (.pair (.int .i64) (.pair (.int .i64) (.pair (.int .i64) (.pair (.int .i64) .unit)))),[.val (.int .i64) 0,.val (.int .i64) 0,.val (.int .i64) 0,.val (.int .i64) 0],false,false,true⟩
def aOA:TI:=⟨true,(.struct [(0,3),(1,3),(2,3),(3,3)]),4,32,a6 (.pair (.int .i64) (.pair (.int .i64) (.pair (.int .i64) (.pair (.int .i64) .unit)))),[.val (.int .i64) 0,.val (.int .i64) 0,.val (.int .i64) 0,.val (.int .i64) 0],true,false,true⟩
def aOB:TI:=⟨true,(.slice 187),1,24,a6 (.list (.pair .str (.pair .bool .unit))),[.nils],false,false,true⟩
def aOC:TI:=⟨true,(.struct [(0,3),(1,103),(2,4)]),3,40,a6 (.pair (.int .i64) (.pair (.list (.pair .str (.pair .bool .unit))) (.pair .bool .unit))),[.val (.int .i64) 0,.nils,.val .bool false],false,false,true⟩
def aOD:TI:=⟨true,(.struct [(0,3),(1,103),(2,4)]),3,40,a6 (.pair (.int .i64) (.pair (.list (.pair .str (.pair .bool .unit))) (.pair .bool .unit))),[.val (.int .i64) 0,.nils,.val .bool false],false,false,false⟩
def aOE:TI:=⟨true,(.ptr 155),1,8,a7,[.nilp],false,false,true⟩
def aOF:TI:=⟨true,(.ptr 119),1,8,a7,[.nilp],false,false,true⟩
def aOG:TI:=⟨true,(.slice 5),1,24,a6 (.list (.int .u8)),[.nils],false,false,true⟩
def aOH:TI:=⟨true,(.struct [(0,116),(1,117)]),2,32,a7,[.nilp,.nils],false,false,true⟩
def aOI:TI:=⟨true,(.struct [(0,116),(1,117)]),2,32,a7,[.nilp,.nils],false,true,true⟩
def aOK:TI:=⟨true,(.ptr 166),1,8,a7,[.nilp],false,false,true⟩
def aOM:TI:=⟨true,(.ptr 148),1,8,a7,[.nilp],false,false,true⟩
def aHQ:TI:=⟨true,(.struct [(0,95),(1,9),(2,99),(3,3),(4,3),(5,3)]),6,88,a6 (.pair (.list (.pair (.int .i64) (.pair .str (.pair (.int .i64) (.pair (.int .i64) .unit))))) (.pair .str (.pair (.list (.pair (.int .i64) (.pair (.int .i64) (.pair (.int .i64) (.pair (.int .i64) .unit))))) (.pair (.int .i64) (.pair (.int .i64) (.pair (.int .i64) .unit)))))),[.nils,.val .str [],.nils,.val (.int .i64) 0,.val (.int .i64) 0,.val (.int .i64) 0],false,false,true⟩
def aHR:TI:=⟨true,(.struct [(0,71),(1,4),(2,3)]),3,40,a6 (.pair (.list (.pair (.int .i64) (.pair (.int .i64) .unit))) (.pair .bool (.pair (.int .i64) .unit))),[.nils,.val .bool false,.val (.int .i64) 0],false,false,true⟩
def aON:TI:=⟨true,(.ptr 161),1,8,a7,[.nilp],false,false,true⟩
def aHS:TI:=⟨true,(.struct [(0,53),(1,47)]),2,48,a6 (.pair (.list (.pair (.int .i64) (.pair (.int .i64) (.pair (.int .i64) (.pair (.int .i64) (.pair .bool .unit)))))) (.pair (.list (.int .i64)) .unit)),[.nils,.nils],false,false,true⟩
def aOO:TI:=⟨true,(.ptr 56),1,8,a7,[.nilp],false,false,true⟩
def aOP:TI:=⟨true,(.map 3 3),1,8,a7,[.undef],false,false,true⟩
def aHT:TI:=⟨true,(.struct [(0,9),(1,53),(2,164)]),3,48,a7,[.val .str [],.nils,.undef],false,false,true⟩
def aOQ:TI:=⟨true,(.ptr 5),1,8,a7,[.nilp],false,false,true⟩
def aOR:TI:=⟨true,(.ptr 180),1,8,a7,[.nilp],false,false,true⟩
def aHU:TI:=⟨true,(.struct [(0,95),(1,3),(2,99),(3,3),(4,3)]),5,72,a6 (.pair (.list (.pair (.int .i64) (.pair .str (.pair (.int .i64) (.pair (.int .i64) .unit))))) (.pair (.int .i64) (.pair (.list (.pair (.int .i64) (.pair (.int .i64) (.pair (.int .i64) (.pair (.int .i64) .unit))))) (.pair (.int .i64) (.pair (.int .i64) .unit))))),[.nils,.val (.int .i64) 0,.nils,.val (.int .i64) 0,.val (.int .i64) 0],false,false,true⟩
def aOT:TI:=⟨true,(.struct [(0,9),(1,4)]),2,24,a6 (.pair .str (.pair .bool .unit)),[.val .str [],.val .bool false],false,false,true⟩
def aOU:TI:=⟨true,(.struct [(0,9),(1,4)]),2,24,a6 (.pair .str (.pair .bool .unit)),[.val .str [],.val .bool false],true,false,true⟩
def aOV:TI:=⟨true,(.ptr 221),1,8,a7,[.nilp],false,false,true⟩
def aHV:TI:=⟨true,(.struct [(0,5),(1,5)]),2,2,a6 (.pair (.int .u8) (.pair (.int .u8) .unit)),[.val (.int .u8) 0,.val (.int .u8) 0],false,false,true⟩
def aOW:TI:=⟨true,(.int .u32),1,4,a6 (.int .u32),[.val (.int .u32) 0],false,false,true⟩
def aHW:TI:=⟨true,(.struct [(0,17),(1,17),(2,17),(3,9)]),4,40,a7,[.nilp,.nilp,.nilp,.val .str []],false,false,true⟩
def aHX:TI:=⟨true,(.struct [(0,12),(1,12),(2,234),(3,244),(4,5),(5,5),(6,245),(7,246),(8,174),(9,247),(10,248)]),11,48,a7,[.val (.int .u64) 0,.val (.int .u64) 0,.val (.int .u32) 0,.val (.int .u8) 0,.val (.int .u8) 0,.val (.int .u8) 0,.val (.int .u8) 0,.nilfn,.nilp,.val (.int .i32) 0,.val (.int .i32) 0],false,false,true⟩
def tt:TT:=(.node 120 ji (.node 61 ji (.node 31 aPJ (.node 15 aPC (.node 8 ti7 (.node 4 ti4 (.node 2 ti2 (.node 1 ji .nil .nil) (.node 3 ti2 .nil .nil)) (.node 7 ti7 (.node 5 ti5 .nil .nil) .nil)) (.node 12 aOJ (.node 10 ti9 (.node 9 ti9 .nil .nil) (.node 11 ti9 .nil .nil)) (.node 14 aOL (.node 13 aOL .nil .nil) .nil))) (.node 23 aPG (.node 19 aOS (.node 17 aPE (.node 16 aPD .nil .nil) (.node 18 aOS .nil .nil)) (.node 22 ji (.node 21 aL5 .nil .nil) .nil)) (.node 28 ji (.node 25 ti2 (.node 24 aPH .nil .nil) (.node 27 ji .nil .nil)) (.node 30 aPI (.node 29 ji .nil .nil) .nil)))) (.node 48 aOX (.node 41 ji (.node 38 ji (.node 35 ji (.node 33 ji .nil .nil) (.node 37 ji .nil .nil)) (.node 40 ji (.node 39 ji .nil .nil) .nil)) (.node 45 ji (.node 43 ji (.node 42 ji .nil .nil) (.node 44 ji .nil .nil)) (.node 47 aPK (.node 46 ji .nil .nil) .nil))) (.node 55 aPM (.node 52 ji (.node 50 ji (.node 49 aOX .nil .nil) (.node 51 ji .nil .nil)) (.node 54 ji (.node 53 aPL .nil .nil) .nil)) (.node 58 ji (.node 57 ji (.node 56 aPN .nil .nil) .nil) (.node 60 ji (.node 59 ji .nil .nil) .nil))))) (.node 92 ji (.node 76 aPU (.node 68 aOY (.node 65 aPP (.node 63 ji (.node 62 aPO .nil .nil) (.node 64 ji .nil .nil)) (.node 67 aPR (.node 66 aPQ .nil .nil) .nil)) (.node 73 ji (.node 70 ji (.node 69 aOY .nil .nil) (.node 71 aPS .nil .nil)) (.node 75 aPT (.node 74 ji .nil .nil) .nil))) (.node 86 ji (.node 82 ji (.node 79 ji (.node 78 ji .nil .nil) (.node 80 ji .nil .nil)) (.node 85 ji (.node 83 ji .nil .nil) .nil)) (.node 89 ji (.node 88 aPV (.node 87 ji .nil .nil) .nil) (.node 91 aPX (.node 90 ji .nil .nil) .nil)))) (.node 107 ji (.node 99 aP3 (.node 96 aP1 (.node 94 aPZ (.node 93 aPY .nil .nil) (.node 95 aP0 .nil .nil)) (.node 98 ji (.node 97 aP2 .nil .nil) .nil)) (.node 103 aOB (.node 101 aOz (.node 100 ji .nil .nil) (.node 102 aOA .nil .nil)) (.node 105 aOD (.node 104 aOC .nil .nil) .nil))) (.node 114 ji (.node 111 ji (.node 109 ji (.node 108 aOE .nil .nil) (.node 110 ji .nil .nil)) (.node 113 ji (.node 112 ji .nil .nil) .nil)) (.node 117 aOG (.node 116 aOF (.node 115 ji .nil .nil) .nil) (.node 119 aOI (.node 118 aOH .nil .nil) .nil)))))) (.node 183 ji (.node 153 ji (.node 139 ji (.node 130 ji (.node 124 ji (.node 122 aOK (.node 121 ji .nil .nil) (.node 123 ji .nil .nil)) (.node 129 ji (.node 128 ji .nil .nil) .nil)) (.node 136 ji (.node 133 ji (.node 131 ji .nil .nil) (.node 134 ji .nil .nil)) (.node 138 ji (.node 137 ji .nil .nil) .nil))) (.node 147 aHQ (.node 144 ji (.node 142 ji (.node 140 ji .nil .nil) (.node 143 ji .nil .nil)) (.node 146 aOM (.node 145 ji .nil .nil) .nil)) (.node 150 ji (.node 149 ji (.node 148 aHQ .nil .nil) .nil) (.node 152 ji (.node 151 ji .nil .nil) .nil)))) (.node 167 ji (.node 160 aHS (.node 157 ji (.node 155 aHR (.node 154 aHR .nil .nil) (.node 156 ji .nil .nil)) (.node 159 aON (.node 158 ji .nil .nil) .nil)) (.node 164 aOP (.node 162 ji (.node 161 aHS .nil .nil) (.node 163 aOO .nil .nil)) (.node 166 aHT (.node 165 aHT .nil .nil) .nil))) (.node 177 ji (.node 173 ji (.node 170 ji (.node 169 ji .nil .nil) (.node 172 ji .nil .nil)) (.node 176 ji (.node 174 aOQ .nil .nil) .nil)) (.node 180 aHU (.node 179 aHU (.node 178 aOR .nil .nil) .nil) (.node 182 ji (.node 181 ji .nil .nil) .nil))))) (.node 213 ji (.node 197 ji (.node 190 ji (.node 187 aOU (.node 185 ji (.node 184 ji .nil .nil) (.node 186 aOT .nil .nil)) (.node 189 ji (.node 188 ji .nil .nil) .nil)) (.node 194 ji (.node 192 ji (.node 191 ji .nil .nil) (.node 193 ji .nil .nil)) (.node 196 ji (.node 195 ji .nil .nil) .nil))) (.node 206 ji (.node 202 ji (.node 200 ji (.node 199 ji .nil .nil) (.node 201 ji .nil .nil)) (.node 205 ji (.node 204 ji .nil .nil) .nil)) (.node 209 ji (.node 208 ji (.node 207 ji .nil .nil) .nil) (.node 212 ji (.node 211 ji .nil .nil) .nil)))) (.node 231 aHV (.node 223 ji (.node 217 ji (.node 215 ji (.node 214 ji .nil .nil) (.node 216 ji .nil .nil)) (.node 219 ji (.node 218 ji .nil .nil) .nil)) (.node 227 ji (.node 225 aOV (.node 224 ji .nil .nil) (.node 226 ji .nil .nil)) (.node 230 aHV (.node 228 aOJ .nil .nil) .nil))) (.node 240 aHW (.node 237 ji (.node 234 aOW (.node 233 ji .nil .nil) (.node 236 ji .nil .nil)) (.node 239 aHW (.node 238 ji .nil .nil) .nil)) (.node 248 aL5 (.node 247 aL5 (.node 246 ji .nil .nil) .nil) (.node 250 aHX (.node 249 aHX .nil .nil) .nil)))))))
theorem aFH {P:Program} {t:TypeId} {j:TypeInfo} {k:IntKind} (h:(P.info? t).map (·.zero)=a6 (a6 (.int k 0))) (d:P.info? t=a6 j):j.zero=a6 (.int k 0):=by rw[d]at h;simpa using h
theorem tkN {P:Program} {T:TT} {t:TypeId} {i:TI} (u:(P.info? t).map (fun f=>(f.size,f.bytes,f.zero.map fun z=>(z.cells.toList.map yX,z.cells.toList.all Value.oneCell')))=a6 (i.size,i.bytes,a6 (i.zero,true)):=by kernel_rfl)
  (h2:(P.underlying t).map lG=a6 (a6 i.k):=by kernel_rfl) (g:(match i.ty with|none=>a7|some _=>i.ty)=(match i.ty with|none=>a7|some _=>mG T i.k):=by kernel_rfl) (l:(match i.ty with|none=>true|some y=>Nat.beq y.size i.size)=true:=by kernel_rfl) (m:(i.isAgg||Nat.beq i.size 1)=true:=by kernel_rfl)
  (e:(!i.eq||(!P.eqGuardType P.depth t&&(!P.stoodInHeld t&&((P.underlying t).map (fun d=>match d with|.struct fs=>fs.toList.all fun f=>f.name != "_" |_=>false)).getD false)))=true:=by kernel_rfl)
  (v:(P.underlying t).map (fun d=>match d with|.struct fs=>fs.toList.all fun f=>(P.info? f.type).isSome|_=>true)=a6 true:=by kernel_rfl) (x:Nat.beq i.zero.length i.size=true:=by kernel_rfl)
  (p:(match i.ty with|some (.int .u8)=>Nat.beq t qI|_=>true)=true:=by kernel_rfl) (q:(!i.bld||Nat.beq t ZJ)=true:=by kernel_rfl)
  (s:(match i.k with|.int _=>(P.info? t).map (fun j:TypeInfo=>j.zero)|_=>a7)=(match i.k with|.int k=>a6 (a6 (Value.int k 0))|_=>a7):=by kernel_rfl):aIb P T t i:=fun _=>by
 refine⟨u,h2, ?_,fun y A=> ?_, ?_,fun B=> ?_,v,aj x,fun D=> ?_,fun E=> ?_,fun k hk j G=> ?_⟩
 .cases hi:i.ty with
  |none=>exact .inl rfl
  |some y=>rw[hi]at g;exact .inr g
 .rw[A]at l;exact aj l
 .rw[Bool.or_eq_true]at m;exact m.imp id aj
 .rw[B]at e;simp only[ak,aW,af,Bool.not_eq_true']at e;refine⟨e.1,e.2.1, ?_⟩;have h:=e.2.2;generalize (P.underlying t).map _=o at h ⊢;cases o with
  |none=>cases h
  |some b=>exact congrArg a6 h
 .rw[D]at p;exact aj p
 .rw[E]at q;exact aj q
 .rw[hk]at s;exact aFH s G
theorem tok:TOk prog tt:=TOk.of_all (by repeat' first|exact trivial|refine⟨tkN, ?_, ?_⟩)
def aKv (P:Program):Bool:=P.funcs.toList.all fun fn=>fn.body.isNone|| !(fn.name== "runtime.NumGoroutine")
theorem azb {P:Program} (h:aKv P=true):MX P:=fun f fn c d e=>by
 have g:=List.all_eq_true.1 h fn (by have:=Array.mem_of_getElem? d;simpa using this);simpa [e] using g
theorem XE:MX prog:=azb (by kernel_rfl)
theorem mixed:prog.follows .mixedOrders=true:=by kernel_rfl
noncomputable def sg0 (g:FuncId):Option Sum:=cond (Nat.beq g 235) (a6 aB5) a7
theorem aAk: ∀g s,sg0 g=a6 s->dX prog g s:=fun g s h=>by
 unfold sg0 at h;rw[cond_eq_ite]at h;split at h
 .rename_i d
  obtain rfl:g=235:=aj d;cases h;exact(aiQ func235 (by kernel_rfl) (by kernel_rfl) (by kernel_rfl) (by kernel_rfl))
 cases h
def au0:Go.Shelf.Ren:=⟨fun|240=>115|276=>156|n=>n,fun|0=>0|4=>4|9=>9|20=>20|37=>117|70=>116|72=>119|164=>198|n=>n,fun n=>n⟩
theorem amI:Go.Proofs.Lays.n240 prog au0:={
 mixed:=mixed,
 f240:=(func115).trans (by kernel_rfl),
 f276:=(func156).trans (by kernel_rfl),
 t0:=underlying0,a0:=isAgg0,z0:=sizeOf0,v0:=zeroValue0,
 t4:=underlying4,a4:=isAgg4,z4:=sizeOf4,v4:=zeroValue4,
 t9:=underlying9,a9:=isAgg9,z9:=sizeOf9,v9:=zeroValue9,
 t20:=underlying20,a20:=isAgg20,z20:=sizeOf20,v20:=zeroValue20,
 t70:=underlying116,a70:=isAgg116,z70:=sizeOf116,v70:=zeroValue116,
 t72:=underlying119,a72:=isAgg119,z72:=sizeOf119,v72:=zeroValue119,
 t164:=underlying198,a164:=isAgg198,z164:=sizeOf198,v164:=zeroValue198}
theorem aMI:Go.Proofs.Builder.X72 prog au0:={sizeBuilder:=by kernel_rfl,liesBuilder:=by kernel_rfl}
theorem VZ (g:FuncId) (h:NY g=true):D6 prog g:=by
 simp only[NY,af]at h;obtain rfl:g=115:=aj h.1;exact fun w b e f=>⟨Ef XE func115 (show f115.body=a6 ((f115.body).getD .skip) by kernel_rfl) _ _,fun d=>Any.Builder_copyCheck_used amI aMI b w d,fun d=>Any.Builder_copyCheck_fresh amI aMI b w d e f⟩
noncomputable def avi:Env:={P:=prog,T:=tt,cl:=true,kp:=fun _ _=>a7,sg:=sg0,lp:=fun _ _=>a7,bf:=NY}
theorem aim: ∀E,vJ prog E->ai8 E:=fun E h f k jr d e=>aFj h f k jr d e
theorem amN:fH avi:=⟨tok,mixed,XE,aAk,fun f fn c _ _=>jT (fun _=>rfl) (fun _=>rfl) c,aim _ fun f fn c _ _=>jT (fun _=>rfl) (fun _=>rfl) c,VZ,fun _ _ h=>by cases h⟩
abbrev zU:Ty:=(.pair (.int .i64) (.pair (.int .i64) .unit))
def uF (l:List zU.den):Option (List zU.den):=cond (eH l 16) (a6 l) a7
theorem abN (xs:List zU.den):mJ avi 1000000 (.call 103 [.lst zU xs false]) ⟨[],[],[],0⟩ (fun v st=>jO true [(.list zU,true)] (TV 1 v) st.hp)=(bif eH xs 16 then a6 (xs,())else a7):=by kernel_rfl
theorem abP:mJ avi 1000000 (.call 103 [.lst zU [] true]) ⟨[],[],[],0⟩ (fun v st=>match v,st.hp with|.nils,[]=>a6 ()|_,_=>a7)=a6 ():=by kernel_rfl
def pY (l:List zU.den):Option (List zU.den×Unit):=match uF l with|some y=>a6 (y,())|none=>a7
def Bq:Sum:=⟨[.list zU],[(.list zU,true)],fun x=>pY x.1⟩
theorem zL:dX prog 103 Bq:=by
 have base:=F8 amN (e:=zU) (e2:=zU) (g:=103) (f:=uF) (show 0<zU.size by decide) (show 0<zU.size by decide) (fun i y h=>by
  unfold uF at h;rw[abN];cases hf:eH i 16 with
  |true=>rw[hf]at h;cases h;rfl
  |false=>rw[hf]at h;cases h) fun y h=>by
  have e:uF []=a6 []:=rfl;rw[e]at h;cases h;exact⟨rfl,abP⟩
 intro w j l x y m o hd d;refine base w j l x y m o hd ?_;have d:pY x.1=a6 y:=d;unfold pY at d;cases hc:uF x.1 with
 |none=>rw[hc]at d;cases d
 |some z=>rw[hc]at d;simp only[hc];exact d
abbrev zV:Ty:=(.pair .str (.pair .bool .unit))
def yD (l:List zV.den):Option (List zV.den):=cond (eH l 24) (a6 l) a7
theorem abO (xs:List zV.den):mJ avi 1000000 (.call 175 [.lst zV xs false]) ⟨[],[],[],0⟩ (fun v st=>jO true [(.list zV,true)] (TV 1 v) st.hp)=(bif eH xs 24 then a6 (xs,())else a7):=by kernel_rfl
theorem abQ:mJ avi 1000000 (.call 175 [.lst zV [] true]) ⟨[],[],[],0⟩ (fun v st=>match v,st.hp with|.nils,[]=>a6 ()|_,_=>a7)=a6 ():=by kernel_rfl
def uG (l:List zV.den):Option (List zV.den×Unit):=match yD l with|some y=>a6 (y,())|none=>a7
def TF:Sum:=⟨[.list zV],[(.list zV,true)],fun x=>uG x.1⟩
theorem zM:dX prog 175 TF:=by
 have base:=F8 amN (e:=zV) (e2:=zV) (g:=175) (f:=yD) (show 0<zV.size by decide) (show 0<zV.size by decide) (fun i y h=>by
  unfold yD at h;rw[abO];cases hf:eH i 24 with
  |true=>rw[hf]at h;cases h;rfl
  |false=>rw[hf]at h;cases h) fun y h=>by
  have e:yD []=a6 []:=rfl;rw[e]at h;cases h;exact⟨rfl,abQ⟩
 intro w j l x y m o hd d;refine base w j l x y m o hd ?_;have d:uG x.1=a6 y:=d;unfold uG at d;cases hc:yD x.1 with
 |none=>rw[hc]at d;cases d
 |some z=>rw[hc]at d;simp only[hc];exact d
noncomputable def sg1 (g:FuncId):Option Sum:=cond (Nat.beq g 103) (a6 Bq)<|cond (Nat.beq g 175) (a6 TF)<|sg0 g
theorem al6: ∀g s,sg1 g=a6 s->dX prog g s:=fun g s h=>by
 unfold sg1 at h;rw[cond_eq_ite]at h;split at h
 .rename_i d
  obtain rfl:g=103:=aj d;cases h;exact zL
 rw[cond_eq_ite]at h;split at h
 .rename_i d
  obtain rfl:g=175:=aj d;cases h;exact zM
 exact aAk g s h
noncomputable def aPs:Env:={P:=prog,T:=tt,cl:=true,kp:=fun _ _=>a7,sg:=sg1,lp:=fun _ _=>a7,bf:=NY}
theorem aO5:fH aPs:=⟨tok,mixed,XE,al6,fun f fn c _ _=>jT (fun _=>rfl) (fun _=>rfl) c,aim _ fun f fn c _ _=>jT (fun _=>rfl) (fun _=>rfl) c,VZ,fun _ _ h=>by cases h⟩
end
section
open Go.ChangeShapes Go.WideShapes Go.RowKit
end
section
open Option renaming some → a6, none → a7
open Tryz
open Go.RowKit
theorem uz {E:Env} {f:FuncId} {c:Code} {k:eY} {l i j:SP} {m p:Ex} {D:Nat} {lp:Nat->l.den->Option (i.den⊕j.den)}
  (st:{g:Type}->(l.den->Option g)->(i.den->Option g)->(j.den->Option g)->l.den->Option g)
  (hk:E.kp f (dM c)=a6 k:=by kernel_rfl) (q: ∀v,lp 0 v=a7:=by intro _;rfl) (s: ∀n v,lp (n+1) v=st (lp n) (fun e=>a6 (.inl e)) (fun r=>a6 (.inr r)) v:=by intro _ _;rfl)
  (u: ∀{R:Type} (d n:Nat) (K:Ex->St->Option R) (v:l.den),iter (a6 k) (qR E (d+D) f c) (n+1) (jf l v) K=st (fun v=>iter (a6 k) (qR E (d+D) f c) n (jf l v) K) (fun e=>K m (jf i e)) (fun r=>K p (jf j r)) v:=by intro _ d n K v;kernel_rfl)
  (h2: ∀{g A:Type} (x:l.den->Option g) (y:i.den->Option g) (z:j.den->Option g) (v:l.den) (K:g->Option A),bK (st x y z v) K=st (fun v=>bK (x v) K) (fun e=>bK (y e) K) (fun r=>bK (z r) K) v):
  dY E f c (fK k l i j m (fun v=>lp bV v) D p):=by
 refine asj hk fun R d K v o h=>⟨bV, ?_⟩;have B: ∀(n:Nat) (v:l.den),iter (a6 k) (qR E (d+D) f c) n (jf l v) K=bK (lp n v) fun o=>dO o (fun a=>K m (jf i a)) fun b=>K p (jf j b):=by
  intro n
  induction n with
  |zero=>intro v;rw[q];rfl
  |succ n G=>intro v;rw[u,s,h2,funext G];rfl
 exact(B bV v).trans (congrArg (fun o=>bK o _) h)
theorem lT {E:Env} {f:FuncId} {c:Code} {k:eY} {l i j:SQ} {m p:Ex} {D:Nat} {lp:Nat->l.den->Option (i.den⊕j.den)}
  (st:{g:Type}->(l.den->Option g)->(i.den->Option g)->(j.den->Option g)->l.den->Option g)
  (hk:E.kp f (dM c)=a6 k:=by kernel_rfl) (q: ∀v,lp 0 v=a7:=by intro _;rfl) (s: ∀n v,lp (n+1) v=st (lp n) (fun e=>a6 (.inl e)) (fun r=>a6 (.inr r)) v:=by intro _ _;rfl)
  (u: ∀{R:Type} (d n:Nat) (K:Ex->St->Option R) (v:l.den),iter (a6 k) (qR E (d+D) f c) (n+1) (jM l v) K=st (fun v=>iter (a6 k) (qR E (d+D) f c) n (jM l v) K) (fun e=>K m (jM i e)) (fun r=>K p (jM j r)) v:=by intro _ d n K v;kernel_rfl)
  (h2: ∀{g A:Type} (x:l.den->Option g) (y:i.den->Option g) (z:j.den->Option g) (v:l.den) (K:g->Option A),bK (st x y z v) K=st (fun v=>bK (x v) K) (fun e=>bK (y e) K) (fun r=>bK (z r) K) v):
  dY E f c (fQ k l i j m (fun v=>lp bV v) D p):=by
 refine akv hk fun R d K v o h=>⟨bV, ?_⟩;have B: ∀(n:Nat) (v:l.den),iter (a6 k) (qR E (d+D) f c) n (jM l v) K=bK (lp n v) fun o=>dO o (fun a=>K m (jM i a)) fun b=>K p (jM j b):=by
  intro n
  induction n with
  |zero=>intro v;rw[q];rfl
  |succ n G=>intro v;rw[u,s,h2,funext G];rfl
 exact(B bV v).trans (congrArg (fun o=>bK o _) h)
theorem aL4 {E:Env} (d:fH E) {g:FuncId} {s:Sum} (e:news s.rs<=1) (h: ∀x,TY E g s.ps s.rs x=s.f x):dX E.P g s:=
 MM d e fun x y i=>(h x).trans i
theorem fL {E:Env} {f:FuncId} {c:Code} {L:dG} (e:E.lp f (dM c)=a6 L) (h2:dY E f c L): ∀d,E.lp f (dM c)=a6 d->dY E f c d:=fun d h=>by
 simp_all
theorem fC {E:Env} {f:FuncId} {c:Code} {L:dG} (e:E.lp f (800000+dM c)=a6 L) (h2:qF E f c L): ∀d,E.lp f (800000+dM c)=a6 d->qF E f c d:=fun d h=>by
 simp_all
theorem aC {d:Type} {p:d->Prop} {a:d} {l:List d} (h:p a/\ ∀x∈l,p x): ∀x∈a::l,p x:=List.forall_mem_cons.2 h
theorem aN {d:Type} {p:d->Prop}: ∀x∈([]:List d),p x:=fun _ h=>absurd h List.not_mem_nil
theorem aHM {E:Env} (d:fH E) {g:FuncId} {s:gK} (h: ∀x y,azG E g s.bt s.cs s.ps s.rs x y=s.f x y):eP E.P g s:=aiP d fun x y _ e=>(h x y).trans e
theorem oU {P:Program} {g:FuncId} {s:gK} (h: ∀x y,s.f x y=a7):eP P g s:=fun W0 c x y z _ _ _ _ e _ d=>nomatch (show(a7:Option _)=a6 z from(h x y).symm.trans d)
theorem aD {d:Type} {p:d->Prop} {a:d} {l:List d} (h:p a) (h2: ∀x∈l,p x): ∀x∈a::l,p x:=aC ⟨h,h2⟩
theorem fM {E:Env} {f:FuncId} {c:Code} {L:dG} (h2:dY E f c L) (e:E.lp f (dM c)=a6 L:=by kernel_rfl): ∀d,E.lp f (dM c)=a6 d->dY E f c d:=fL e h2
theorem sA {E:Env} (d:fH E) {g:FuncId} {s:Sum} (e:news s.rs<=1:=by decide) (h: ∀x,TY E g s.ps s.rs x=s.f x:=by intro x;kernel_rfl):dX E.P g s:=aL4 d e h
theorem sB {E:Env} (d:fH E) {g:FuncId} {s:gK} (h: ∀x y,azG E g s.bt s.cs s.ps s.rs x y=s.f x y:=by intro x y;kernel_rfl):eP E.P g s:=aHM d h
theorem oq {E:Env} {f:FuncId} {c:Code} (l:List Code) (h: ∀d∈l,∀L,E.lp f (dM d)=a6 L->dY E f d L) (hl:jk c=l:=by kernel_rfl) (k:acS E f c=true:=by kernel_rfl) (e: ∀id,E.rf f id=false:=by intro _;rfl):dR E f c:=akw c e (by rw[hl];exact h) k
theorem eA {f:FuncId} {sg:List (FuncId×Sum)} {kp:List (Nat×eY)} {lp:List (Nat×dG)} {sb:List (FuncId×gK)} (fn:Func) (d: ∀e∈sg,dX prog e.1 e.2) (hl:dR (iW prog tt f sg kp lp sb) f (fn.body.getD .skip):=by exact jT (fun _=>rfl) (fun _=>rfl) _) (hf:prog.funcs[f]? =a6 fn:=by kernel_rfl) (hb:fn.body=a6 (fn.body.getD .skip):=by kernel_rfl) (hx: ∀e∈sb,eP prog e.1 e.2:=by simp):fH (iW prog tt f sg kp lp sb):=awr tok mixed XE d hf hb hl aim VZ hx
theorem eB {sg:List (FuncId×Sum)} {kp:List (FuncId×Nat×eY)} {lp:List (FuncId×Nat×dG)} {rf:List FuncId} {sb:List (FuncId×gK)} (f: ∀e∈sg,dX prog e.1 e.2) (d:List FuncId) (hl: ∀g∈d,∃fn c,prog.funcs[g]? =a6 fn/\fn.body=a6 c/\dR (gZ prog tt sg kp lp rf sb) g c) (hx: ∀e∈sb,eP prog e.1 e.2:=by simp) (h:(lp.all fun e=>d.any fun g=>Nat.beq e.1 g)=true:=by kernel_rfl) (i:(rf.all fun e=>d.any fun g=>Nat.beq e g)=true:=by kernel_rfl):fH (gZ prog tt sg kp lp rf sb):=arK tok mixed XE f d h i hl aim VZ hx
theorem sE {g:FuncId} {s:Sum} {l:List (FuncId×Sum)} (h:dX prog g s) (h2: ∀e∈l,dX prog e.1 e.2): ∀e∈(g,s)::l,dX prog e.1 e.2:=aD (p:=fun e:FuncId×Sum=>dX prog e.1 e.2) h h2
theorem sF {g:FuncId} {s:gK} {l:List (FuncId×gK)} (h:eP prog g s) (h2: ∀e∈l,eP prog e.1 e.2): ∀e∈(g,s)::l,eP prog e.1 e.2:=aD (p:=fun e:FuncId×gK=>eP prog e.1 e.2) h h2
theorem qA {g:FuncId} {s:Sum} {sg:List (FuncId×Sum)} {sb:List (FuncId×gK)} (fn:Func) (kp:List (Nat×eY)) (d: ∀e∈sg,dX prog e.1 e.2) (hx: ∀e∈sb,eP prog e.1 e.2:=by exact aN) (hf:prog.funcs[g]? =a6 fn:=by kernel_rfl) (hb:fn.body=a6 (fn.body.getD .skip):=by kernel_rfl) (h: ∀x,TY (iW prog tt g sg kp [] sb) g s.ps s.rs x=s.f x:=by intro x;kernel_rfl) (i:news s.rs<=1:=by decide):dX prog g s:=aL4 (eA fn d (hl:=jT (fun _=>by show(bif Nat.beq g g then a7 else a7)=a7;cases Nat.beq g g<;>rfl) (fun _=>rfl) _) (hf:=hf) (hb:=hb) (hx:=hx)) i h
theorem qC {g:FuncId} {s:Sum} {sg:List (FuncId×Sum)} {sb:List (FuncId×gK)} (kp:List (FuncId×Nat×eY)) (d: ∀e∈sg,dX prog e.1 e.2) (hx: ∀e∈sb,eP prog e.1 e.2:=by exact aN) (h: ∀x,TY (gZ prog tt sg kp [] [] sb) g s.ps s.rs x=s.f x:=by intro x;kernel_rfl) (i:news s.rs<=1:=by decide):dX prog g s:=aL4 (eB d [] aN hx) i h
theorem qB {g:FuncId} {s:gK} {sg:List (FuncId×Sum)} {sb:List (FuncId×gK)} (kp:List (FuncId×Nat×eY)) (d: ∀e∈sg,dX prog e.1 e.2) (hx: ∀e∈sb,eP prog e.1 e.2:=by exact aN) (h: ∀x y,azG (gZ prog tt sg kp [] [] sb) g s.bt s.cs s.ps s.rs x y=s.f x y:=by intro x y;kernel_rfl):eP prog g s:=aHM (eB d [] aN hx) h
end
section
open Option renaming some → a6, none → a7
open Tryz
open Go.RowKit
def xA (d:List lD) (e:Bool) (f g:Int):Option (taN×(Unit)):=cond (fO d (dV .i64 (bM d) 1)) (cond (pW (dL (dV .i64 (bM d) 1)) d) (a6 (((iL d (dL (dV .i64 (bM d) 1)) (g,((dU d (0,(0,())) (dL (dV .i64 (bM d) 1))).2.1,()))),(e,(f,()))),())) a7) a7
def aAC:gK:=⟨155,tzD,[cZ],[],fun x y=>xA x.1 x.2.1 x.2.2.1 y.1⟩
theorem Rf:eP prog 100 aAC:=qB [] aN
def zf (d:List lD) (e:Bool) (f:Int):Option (taN×(Unit)):=cond (gU 1 (bM d)) (cond (dZ (bM d) 0 (dV .i64 (bM d) 1)) (a6 (((takeN d (dL (dV .i64 (bM d) 1))),(e,(f,()))),())) a7)<|some ((d,(e,(f,()))),())
def aAD:gK:=⟨155,tzD,[],[],fun x y=>zf x.1 x.2.1 x.2.2.1⟩
theorem yO:eP prog 101 aAD:=qB [] aN
def am0 (d:List lD) (e:Bool) (f:Int):Option (taN×zN):=cond (fO d (EN (dV .i64 (bM d) 2) 0)) (cond (pW (dL (EN (dV .i64 (bM d) 2) 0)) d) (a6 ((d,(e,(f,()))),((dU d (0,(0,())) (dL (EN (dV .i64 (bM d) 2) 0))).1,()))) a7) a7
def aLA:gK:=⟨155,tzD,[],[cZ],fun x y=>am0 x.1 x.2.1 x.2.2.1⟩
theorem as3:eP prog 140 aLA:=qB [] aN
def ag7 (f:List lD) (g:Bool) (h i:Int):Option (taN×oJ):=cond (bZ i 40) (bK (xA f g h 3) fun d=>a6 ((d.1.1,(true,(d.1.2.2.1,()))),(true,())))<|cond (bZ i 123) (bK (am0 f g h) fun d=>cond (bZ d.2.1 5) (cond (bZ d.2.1 5) (bK (xA d.1.1 d.1.2.1 d.1.2.2.1 8) fun e=>a6 ((e.1.1,(e.1.2.1,(e.1.2.2.1,()))),(true,())))<|bK (xA d.1.1 d.1.2.1 d.1.2.2.1 7) fun e=>a6 ((e.1.1,(e.1.2.1,(e.1.2.2.1,()))),(true,())))<|cond (bZ d.2.1 8) (bK (xA d.1.1 d.1.2.1 d.1.2.2.1 8) fun e=>a6 ((e.1.1,(e.1.2.1,(e.1.2.2.1,()))),(true,())))<|bK (xA d.1.1 d.1.2.1 d.1.2.2.1 7) fun e=>a6 ((e.1.1,(e.1.2.1,(e.1.2.2.1,()))),(true,())))<|cond (bZ i 36) (bK (zf f g h) fun d=>a6 ((d.1.1,(d.1.2.1,(d.1.2.2.1,()))),(true,())))<|bK (zf f g h) fun d=>a6 ((d.1.1,(d.1.2.1,(d.1.2.2.1,()))),(false,()))
def aHL:gK:=⟨155,tzD,[.int .u8],[.bool],fun x y=>ag7 x.1 x.2.1 x.2.2.1 y.1⟩
theorem aB4:eP prog 99 aHL:=qB [] aN (sF Rf (sF yO (sF as3 aN)))
def zh (f:List lD) (g:Bool) (d e:Int):Option (taN×(Unit)):=cond (bZ e e) (cond (bZ d d) (cond (eH (cu f [(e,(d,()))]) 16) (cond (bZ e e) (cond (bZ d d) (cond ((bZ e e)&&((bZ d d)&&true)) (a6 (((cu f [(e,(d,()))]),(g,(d,()))),())) a7) a7) a7) a7) a7) a7
def aLC:gK:=⟨155,tzD,[cZ],[],fun x y=>zh x.1 x.2.1 x.2.2.1 y.1⟩
theorem DX:eP prog 142 aLC:=qB [] aN
def WF (e:List lD) (f:Bool) (g h:Int):Option (taN×oJ):=cond (bZ h 92) (bK (zh e f g 13) fun d=>a6 ((d.1.1,(d.1.2.1,(d.1.2.2.1,()))),(true,())))<|cond (bZ h 36) (bK (zh e f g 12) fun d=>a6 ((d.1.1,(d.1.2.1,(d.1.2.2.1,()))),(true,())))<|cond (bZ h 96) (bK (zh e f g 6) fun d=>a6 ((d.1.1,(d.1.2.1,(d.1.2.2.1,()))),(true,())))<|some ((e,(f,(g,()))),(false,()))
def aLK:gK:=⟨155,tzD,[.int .u8],[.bool],fun x y=>WF x.1 x.2.1 x.2.2.1 y.1⟩
theorem Rn:eP prog 172 aLK:=qB [] aN (sF DX aN)
noncomputable def agd:Code:=(f164.body).getD .skip
noncomputable def zY:Code:=cB (cB (cB (cB (cB (cB (cB (cA (cA (cB (agd))))))))))
noncomputable def zZ:Code:=cB (cB (agd))
noncomputable def Aa:Code:=cB (cA (cB (cA (cB (cB (agd))))))
noncomputable def Ac:Code:=cB (cB (cB (cA (cB (cA (cB (cB (agd))))))))
def Aj:eY:=⟨[0,18,900011],[],[0],[],[2],[]⟩
def Ak:eY:=⟨[0,900012],[],[2],[],[2],[]⟩
def Am:eY:=⟨[33,34,900020],[],[],[],[2],[]⟩
def Ap:eY:=⟨[42,900026],[],[],[],[2],[]⟩
def ar {a b c d e g h R:Type} (f:a->b->c->d->e->g->h->R) (v:((a×b×c×Unit)×((d×e×g×h×Unit)×Unit×Unit)×Unit)):R:=f v.1.1 v.1.2.1 v.1.2.2.1 v.2.1.1.1 v.2.1.1.2.1 v.2.1.1.2.2.1 v.2.1.1.2.2.2.1
def aE {a R:Type} (f:((a×Unit)×Unit)->R):a->R:=fun a=>f ((a,()),())
def aL {a b R:Type} (f:((a×b×Unit)×Unit)->R):a->b->R:=fun a b=>f ((a,b,()),())
def aM {a b c d R:Type} (f:((a×b×c×d×Unit)×Unit)->R):a->b->c->d->R:=fun a b c d=>f ((a,b,c,d,()),())
def aR {a b c d R:Type} (f:a->b->c->d->R) (v:((a×b×c×d×Unit)×Unit)):R:=f v.1.1 v.1.2.1 v.1.2.2.1 v.1.2.2.2.1
def a8 {a b c R:Type} (f:((a×b×c×Unit)×Unit)->R):a->b->c->R:=fun a b c=>f ((a,b,c,()),())
def ba {a b c R:Type} (f:a->b->c->R) (v:((a×b×c×Unit)×Unit)):R:=f v.1.1 v.1.2.1 v.1.2.2.1
def bb {a b c d e g h i j k l R:Type} (f:a->b->c->d->e->g->h->i->j->k->l->R) (v:((a×b×c×d×Unit)×((e×g×h×i×j×Unit)×k×l×Unit))):R:=f v.1.1 v.1.2.1 v.1.2.2.1 v.1.2.2.2.1 v.2.1.1 v.2.1.2.1 v.2.1.2.2.1 v.2.1.2.2.2.1 v.2.1.2.2.2.2.1 v.2.2.1 v.2.2.2.1
def bc {a b c d e R:Type} (f:a->b->c->d->e->R) (v:((a×b×c×d×Unit)×(e×Unit))):R:=f v.1.1 v.1.2.1 v.1.2.2.1 v.1.2.2.2.1 v.2.1
def be {a b c d e g h i j k l m R:Type} (f:a->b->c->d->e->g->h->i->j->k->l->m->R) (v:((a×b×c×Unit)×((d×e×g×Unit)×(h×i×Unit)×(j×k×l×m×Unit)×Unit))):R:=f v.1.1 v.1.2.1 v.1.2.2.1 v.2.1.1 v.2.1.2.1 v.2.1.2.2.1 v.2.2.1.1 v.2.2.1.2.1 v.2.2.2.1.1 v.2.2.2.1.2.1 v.2.2.2.1.2.2.1 v.2.2.2.1.2.2.2.1
def bh {a b c d e g h i j k l m n o p R:Type} (f:a->b->c->d->e->g->h->i->j->k->l->m->n->o->p->R) (v:((a×b×c×Unit)×((d×e×g×Unit)×(h×i×Unit)×(j×k×l×m×Unit)×(n×o×p×Unit)×Unit))):R:=f v.1.1 v.1.2.1 v.1.2.2.1 v.2.1.1 v.2.1.2.1 v.2.1.2.2.1 v.2.2.1.1 v.2.2.1.2.1 v.2.2.2.1.1 v.2.2.2.1.2.1 v.2.2.2.1.2.2.1 v.2.2.2.1.2.2.2.1 v.2.2.2.2.1.1 v.2.2.2.2.1.2.1 v.2.2.2.2.1.2.2.1
def bj {a b c d e g R:Type} (f:(Unit×((a×Unit)×Unit×Unit×Unit)×((b×c×Unit)×d×Unit×(e×Unit)×g×Unit×Unit))->R):a->b->c->d->e->g->R:=fun a b c d e g=>f ((),((a,()),(),(),()),((b,c,()),d,(),(e,()),g,(),()))
def bk {a b c d e g h i j k l m n o p q r s t u R:Type} (f:a->b->c->d->e->g->h->i->j->k->l->m->n->o->p->q->r->s->t->u->R) (v:((a×b×c×Unit)×((d×e×g×h×Unit)×(i×Unit)×Unit×Unit×Unit)×(j×(k×l×m×n×o×Unit)×p×Unit×Unit×(q×r×Unit)×s×Unit×(t×Unit)×u×Unit×Unit))):R:=f v.1.1 v.1.2.1 v.1.2.2.1 v.2.1.1.1 v.2.1.1.2.1 v.2.1.1.2.2.1 v.2.1.1.2.2.2.1 v.2.1.2.1.1 v.2.2.1 v.2.2.2.1.1 v.2.2.2.1.2.1 v.2.2.2.1.2.2.1 v.2.2.2.1.2.2.2.1 v.2.2.2.1.2.2.2.2.1 v.2.2.2.2.1 v.2.2.2.2.2.2.2.1.1 v.2.2.2.2.2.2.2.1.2.1 v.2.2.2.2.2.2.2.2.1 v.2.2.2.2.2.2.2.2.2.2.1.1 v.2.2.2.2.2.2.2.2.2.2.2.1
def bl {a b c d e g h i j k l m n o p R:Type} (f:a->b->c->d->e->g->h->i->j->k->l->m->n->o->p->R) (v:((a×Unit)×(Unit×Unit×Unit×Unit)×((b×c×d×e×Unit)×(g×h×i×Unit)×(j×Unit)×Unit×k×(l×m×n×Unit)×Unit×(o×p×Unit)×Unit))):R:=f v.1.1 v.2.2.1.1 v.2.2.1.2.1 v.2.2.1.2.2.1 v.2.2.1.2.2.2.1 v.2.2.2.1.1 v.2.2.2.1.2.1 v.2.2.2.1.2.2.1 v.2.2.2.2.1.1 v.2.2.2.2.2.2.1 v.2.2.2.2.2.2.2.1.1 v.2.2.2.2.2.2.2.1.2.1 v.2.2.2.2.2.2.2.1.2.2.1 v.2.2.2.2.2.2.2.2.2.1.1 v.2.2.2.2.2.2.2.2.2.1.2.1
def bm {a b c d e g R:Type} (f:((a×Unit)×(Unit×Unit)×((b×c×d×e×Unit)×g×Unit))->R):a->b->c->d->e->g->R:=fun a b c d e g=>f ((a,()),((),()),((b,c,d,e,()),g,()))
def bo {a b c d e g R:Type} (f:a->b->c->d->e->g->R) (v:((a×Unit)×(Unit×Unit)×((b×c×d×e×Unit)×g×Unit))):R:=f v.1.1 v.2.2.1.1 v.2.2.1.2.1 v.2.2.1.2.2.1 v.2.2.1.2.2.2.1 v.2.2.2.1
def bp {a b c d e R:Type} (f:(Unit×(Unit×Unit)×((a×b×c×d×Unit)×e×Unit))->R):a->b->c->d->e->R:=fun a b c d e=>f ((),((),()),((a,b,c,d,()),e,()))
def bq {a b c d e R:Type} (f:a->b->c->d->e->R) (v:(Unit×(Unit×Unit)×((a×b×c×d×Unit)×e×Unit))):R:=f v.2.2.1.1 v.2.2.1.2.1 v.2.2.1.2.2.1 v.2.2.1.2.2.2.1 v.2.2.2.1
def br {a b c d e g h i j k l R:Type} (f:(Unit×((a×b×Unit)×(c×d×Unit)×(e×g×Unit)×Unit×Unit)×(Unit×Unit×h×(i×j×k×l×Unit)×Unit))->R):a->b->c->d->e->g->h->i->j->k->l->R:=fun a b c d e g h i j k l=>f ((),((a,b,()),(c,d,()),(e,g,()),(),()),((),(),h,(i,j,k,l,()),()))
def bs {a b c d e g R:Type} (f:(Unit×((a×b×Unit)×(c×d×Unit)×(e×g×Unit)×Unit×Unit)×Unit)->R):a->b->c->d->e->g->R:=fun a b c d e g=>f ((),((a,b,()),(c,d,()),(e,g,()),(),()),())
def bv {a b c d e g h i j k l R:Type} (f:a->b->c->d->e->g->h->i->j->k->l->R) (v:(Unit×((a×b×Unit)×(c×d×Unit)×(e×g×Unit)×Unit×Unit)×(Unit×Unit×h×(i×j×k×l×Unit)×Unit))):R:=f v.2.1.1.1 v.2.1.1.2.1 v.2.1.2.1.1 v.2.1.2.1.2.1 v.2.1.2.2.1.1 v.2.1.2.2.1.2.1 v.2.2.2.2.1 v.2.2.2.2.2.1.1 v.2.2.2.2.2.1.2.1 v.2.2.2.2.2.1.2.2.1 v.2.2.2.2.2.1.2.2.2.1
def bw {a b c d e g h R:Type} (f:((a×Unit)×(Unit×Unit)×((b×c×d×e×g×Unit)×h×Unit))->R):a->b->c->d->e->g->h->R:=fun a b c d e g h=>f ((a,()),((),()),((b,c,d,e,g,()),h,()))
def bx {a b c d e g h R:Type} (f:a->b->c->d->e->g->h->R) (v:((a×Unit)×(Unit×Unit)×((b×c×d×e×g×Unit)×h×Unit))):R:=f v.1.1 v.2.2.1.1 v.2.2.1.2.1 v.2.2.1.2.2.1 v.2.2.1.2.2.2.1 v.2.2.1.2.2.2.2.1 v.2.2.2.1
def bA {a b c d e g h i j k l m n o p q r s R:Type} (f:a->b->c->d->e->g->h->i->j->k->l->m->n->o->p->q->r->s->R) (v:((a×b×c×Unit)×((d×e×Unit)×Unit×Unit×Unit×Unit)×(g×(h×i×j×k×l×Unit)×m×Unit×Unit×(n×o×Unit)×p×Unit×Unit×q×Unit×(r×Unit)×(s×Unit)×Unit))):R:=f v.1.1 v.1.2.1 v.1.2.2.1 v.2.1.1.1 v.2.1.1.2.1 v.2.2.1 v.2.2.2.1.1 v.2.2.2.1.2.1 v.2.2.2.1.2.2.1 v.2.2.2.1.2.2.2.1 v.2.2.2.1.2.2.2.2.1 v.2.2.2.2.1 v.2.2.2.2.2.2.2.1.1 v.2.2.2.2.2.2.2.1.2.1 v.2.2.2.2.2.2.2.2.1 v.2.2.2.2.2.2.2.2.2.2.2.1 v.2.2.2.2.2.2.2.2.2.2.2.2.2.1.1 v.2.2.2.2.2.2.2.2.2.2.2.2.2.2.1.1
def bB {a b c d e g h i j k l m n o p q r s t u w x y z A B C D E F G H I J R:Type} (f:a->b->c->d->e->g->h->i->j->k->l->m->n->o->p->q->r->s->t->u->w->x->y->z->A->B->C->D->E->F->G->H->I->J->R) (v:((a×b×c×d×Unit)×((e×g×Unit)×Unit×Unit)×(h×(i×j×k×l×m×n×o×p×q×Unit)×(r×s×t×u×w×x×y×z×A×Unit)×(B×C×D×E×F×G×H×I×J×Unit)×Unit))):R:=f v.1.1 v.1.2.1 v.1.2.2.1 v.1.2.2.2.1 v.2.1.1.1 v.2.1.1.2.1 v.2.2.1 v.2.2.2.1.1 v.2.2.2.1.2.1 v.2.2.2.1.2.2.1 v.2.2.2.1.2.2.2.1 v.2.2.2.1.2.2.2.2.1 v.2.2.2.1.2.2.2.2.2.1 v.2.2.2.1.2.2.2.2.2.2.1 v.2.2.2.1.2.2.2.2.2.2.2.1 v.2.2.2.1.2.2.2.2.2.2.2.2.1 v.2.2.2.2.1.1 v.2.2.2.2.1.2.1 v.2.2.2.2.1.2.2.1 v.2.2.2.2.1.2.2.2.1 v.2.2.2.2.1.2.2.2.2.1 v.2.2.2.2.1.2.2.2.2.2.1 v.2.2.2.2.1.2.2.2.2.2.2.1 v.2.2.2.2.1.2.2.2.2.2.2.2.1 v.2.2.2.2.1.2.2.2.2.2.2.2.2.1 v.2.2.2.2.2.1.1 v.2.2.2.2.2.1.2.1 v.2.2.2.2.2.1.2.2.1 v.2.2.2.2.2.1.2.2.2.1 v.2.2.2.2.2.1.2.2.2.2.1 v.2.2.2.2.2.1.2.2.2.2.2.1 v.2.2.2.2.2.1.2.2.2.2.2.2.1 v.2.2.2.2.2.1.2.2.2.2.2.2.2.1 v.2.2.2.2.2.1.2.2.2.2.2.2.2.2.1
def bE {a b c d e g h i j R:Type} (f:(Unit×((a×b×c×d×e×g×h×i×j×Unit)×Unit))->R):a->b->c->d->e->g->h->i->j->R:=fun a b c d e g h i j=>f ((),((a,b,c,d,e,g,h,i,j,()),()))
def bL {a b c d e g h i j k l m n o p q r s R:Type} (f:a->b->c->d->e->g->h->i->j->k->l->m->n->o->p->q->r->s->R) (v:(Unit×((a×b×c×d×e×g×h×i×j×Unit)×(k×l×m×n×o×p×q×r×s×Unit)×Unit))):R:=f v.2.1.1 v.2.1.2.1 v.2.1.2.2.1 v.2.1.2.2.2.1 v.2.1.2.2.2.2.1 v.2.1.2.2.2.2.2.1 v.2.1.2.2.2.2.2.2.1 v.2.1.2.2.2.2.2.2.2.1 v.2.1.2.2.2.2.2.2.2.2.1 v.2.2.1.1 v.2.2.1.2.1 v.2.2.1.2.2.1 v.2.2.1.2.2.2.1 v.2.2.1.2.2.2.2.1 v.2.2.1.2.2.2.2.2.1 v.2.2.1.2.2.2.2.2.2.1 v.2.2.1.2.2.2.2.2.2.2.1 v.2.2.1.2.2.2.2.2.2.2.2.1
def bN {a b c d e g h i j k l m n o p q r s t u w x y R:Type} (f:a->b->c->d->e->g->h->i->j->k->l->m->n->o->p->q->r->s->t->u->w->x->y->R) (v:((a×b×c×d×Unit)×(e×(g×h×i×j×k×l×m×n×o×Unit)×(p×q×r×s×t×u×w×x×y×Unit)×Unit))):R:=f v.1.1 v.1.2.1 v.1.2.2.1 v.1.2.2.2.1 v.2.1 v.2.2.1.1 v.2.2.1.2.1 v.2.2.1.2.2.1 v.2.2.1.2.2.2.1 v.2.2.1.2.2.2.2.1 v.2.2.1.2.2.2.2.2.1 v.2.2.1.2.2.2.2.2.2.1 v.2.2.1.2.2.2.2.2.2.2.1 v.2.2.1.2.2.2.2.2.2.2.2.1 v.2.2.2.1.1 v.2.2.2.1.2.1 v.2.2.2.1.2.2.1 v.2.2.2.1.2.2.2.1 v.2.2.2.1.2.2.2.2.1 v.2.2.2.1.2.2.2.2.2.1 v.2.2.2.1.2.2.2.2.2.2.1 v.2.2.2.1.2.2.2.2.2.2.2.1 v.2.2.2.1.2.2.2.2.2.2.2.2.1
def bO {a b c d e g h i j k l m n o p q r s t u w x y z A R:Type} (f:a->b->c->d->e->g->h->i->j->k->l->m->n->o->p->q->r->s->t->u->w->x->y->z->A->R) (v:((a×b×c×d×e×g×h×Unit)×((i×j×k×l×m×n×o×p×q×Unit)×(r×s×t×u×w×x×y×z×A×Unit)×Unit))):R:=f v.1.1 v.1.2.1 v.1.2.2.1 v.1.2.2.2.1 v.1.2.2.2.2.1 v.1.2.2.2.2.2.1 v.1.2.2.2.2.2.2.1 v.2.1.1 v.2.1.2.1 v.2.1.2.2.1 v.2.1.2.2.2.1 v.2.1.2.2.2.2.1 v.2.1.2.2.2.2.2.1 v.2.1.2.2.2.2.2.2.1 v.2.1.2.2.2.2.2.2.2.1 v.2.1.2.2.2.2.2.2.2.2.1 v.2.2.1.1 v.2.2.1.2.1 v.2.2.1.2.2.1 v.2.2.1.2.2.2.1 v.2.2.1.2.2.2.2.1 v.2.2.1.2.2.2.2.2.1 v.2.2.1.2.2.2.2.2.2.1 v.2.2.1.2.2.2.2.2.2.2.1 v.2.2.1.2.2.2.2.2.2.2.2.1
def bR {a b c d e g h i j k l m n o p q r s t u w R:Type} (f:a->b->c->d->e->g->h->i->j->k->l->m->n->o->p->q->r->s->t->u->w->R) (v:((a×b×c×Unit)×((d×e×g×h×i×j×k×l×m×Unit)×(n×o×p×q×r×s×t×u×w×Unit)×Unit))):R:=f v.1.1 v.1.2.1 v.1.2.2.1 v.2.1.1 v.2.1.2.1 v.2.1.2.2.1 v.2.1.2.2.2.1 v.2.1.2.2.2.2.1 v.2.1.2.2.2.2.2.1 v.2.1.2.2.2.2.2.2.1 v.2.1.2.2.2.2.2.2.2.1 v.2.1.2.2.2.2.2.2.2.2.1 v.2.2.1.1 v.2.2.1.2.1 v.2.2.1.2.2.1 v.2.2.1.2.2.2.1 v.2.2.1.2.2.2.2.1 v.2.2.1.2.2.2.2.2.1 v.2.2.1.2.2.2.2.2.2.1 v.2.2.1.2.2.2.2.2.2.2.1 v.2.2.1.2.2.2.2.2.2.2.2.1
def bS {a b c d e g h i j k l m n o p q r s t u R:Type} (f:a->b->c->d->e->g->h->i->j->k->l->m->n->o->p->q->r->s->t->u->R) (v:((a×b×c×d×e×g×h×i×Unit)×((j×k×l×Unit)×(m×n×o×p×q×r×s×t×u×Unit)×Unit))):R:=f v.1.1 v.1.2.1 v.1.2.2.1 v.1.2.2.2.1 v.1.2.2.2.2.1 v.1.2.2.2.2.2.1 v.1.2.2.2.2.2.2.1 v.1.2.2.2.2.2.2.2.1 v.2.1.1 v.2.1.2.1 v.2.1.2.2.1 v.2.2.1.1 v.2.2.1.2.1 v.2.2.1.2.2.1 v.2.2.1.2.2.2.1 v.2.2.1.2.2.2.2.1 v.2.2.1.2.2.2.2.2.1 v.2.2.1.2.2.2.2.2.2.1 v.2.2.1.2.2.2.2.2.2.2.1 v.2.2.1.2.2.2.2.2.2.2.2.1
def cJ:FK:=.ptr 0 0
def c9:FK:=.fn 251 [(1000001,0),(2000003,0)]
def cg:FK:=.v cZ
def dj:FK:=.ptr 1000001 0
def cf:List FK:=[cJ]
def bX:List (List FK):=[us [cJ,.u,c9,.u,.u,.u,cg,cg,.u,.u,.u,.u,.u,.u,.u,.u,.u,.u,.u,.u,.u,.u,.u,.u,.u,.u,.u,.u,.u,.u,.u,.u,.u,.u,.u,.u,.u,c9] 16,us [cJ,cg,c9,.u,.u,.u,.u,.u,.u,.u,.u,.u,.u,cJ,cg,c9] 8,[.u,dj,cg,.ptr 2000003 0,.u,.u,.u,.u,.u,.u,.u,.u,.u,.u,.u,.u,.u,.u,.u,.u,.u,.u,.u,.u,.u,.u,.u,.u,cJ,cg,c9,.u],cf]
def ci:FK:=.v .str
def co:FK:=.v .bool
def b8:List FK:=[cg,cg,cg,cg,ci,co,ci,cg,cg]
def cN:HK:=.arr 1 og
def b9:List HK:=[.box 0 148 [.v pV,ci,.slc 1,cg,cg,cg],cN]
def ca:HK:=.box 0 180 [.v pV,cg,.slc 1,cg,cg]
def em:FK:=.ptr 2000001 0
def fT:FK:=.ptr 3000002 0
def fe:FK:=.ptr 3000003 0
def cH:FK:=.fn 110 [(3000003,0),(3000002,0)]
def dz:FK:=.ptr 2000011 0
def ce:List FK:=[.u,em,fT,fe,cH,cg,.ptr 3000006 0,.u,.u,.u,.u,.u,.u,.u,.u,.u,.u,.u,.u,.u,.u,.u,.u,.u,.u,.u,.u,.u,.u,.u,.u,.u,.u,.u,.u,.u,.u,.u,.u,.u,.u,.u,.u,.u,.u,.u,.u,.u,.u,.u,.u,.u,.u,.u,.u,.u,.u,.u,.u,.u,.u,.u,.u,.u,.u,.u,.u,.u,.u,.u,.u,.u,.u,.u,.u,.u,.u,.u,.u,.u,.u,.u,.u,.u,.u,.u,.u,.u,.u,.u,.u,.u,.u,.u,.u,.u,.u,.u,.u,.u,.u,cH,.kb true,.kb true,dz,.v J5,.yld 1700009,.u,.u,.u,.u,.u]
def cS:FK:=.ptr 1000002 0
def cw:FK:=.ptr 1000003 0
def cC:FK:=.ptr 1000004 0
def cj:List FK:=us [.u,.u,cS,cw,cC] 11
def ck:HK:=.box 2000011 166 [ci,.v MW,.mpv 2000009]
def cq:HK:=.box 1000003 119 [.slf 1000003,.slc 1500003]
def cr:List FK:=[.u,em,fT,fe,cH,cg,.ptr 3000006 0,.u,.u,.u,.u,.u,.u,.u,.u,.u,.u,.u,.u,.u,.u,.u,.u,.u,.u,.u,.u,.u,.u,.u,.u,.u,.u,.u,.u,.u,.u,.u,.u,.u,.u,.u,.u,.u,.u,.u,.u,.u,.u,.u,.u,.u,.u,.u,.u,.u,.u,.u,.u,.u,.u,.u,.u,.u,.u,.u,.u,.u,.u,.u,.u,.u,.u,.u,.u,.u,.u,.u,.u,.u,.u,.u,.u,.u,.u,.u,.u,.u,.u,.u,.u,.u,.u,.u,.u,.u,.u,.u,.u,.u,.u,cH,co,co,dz,.v J5,.yld 1700008,.u,.u,.u,.u,.u]
def fz:FK:=.fn 222 [(1000001,0)]
def ct:List (List FK):=[us [cJ,.u,fz,.u,.u,.u,cg,cg,.u,.u,.u,.u,.u,.u,.u,.u,.u,.u,.u,.u,.u,.u,.u,.u,.u,.u,.u,.u,.u,.u,.u,.u,.u,.u,.u,.u,.u,fz] 16,[.u,dj,.u,.u,.u,.u,.u,cJ,fz,.u],cf]
def cx:HK:=.box 2000001 122 [dz]
def ef:List FK:=[cg,cg,cg,cg,co]
def ge:HK:=.box 3000006 56 ef
def d9:HK:=.arr 3500003 (.int .u8)
def fg:HK:=.box 3000003 117 [.nils]
def d6:List FK:=[.yld 1700009]
def fX:HK:=.box 3000002 167 d6
def cz:HK:=.mp 2000009 .i64 .i64
def de:HK:=.arr 1500004 (.int .u8)
def cD:HK:=.box 1000004 119 [.slf 1000004,.slc 1500004]
def dk:HK:=.box 1000003 4 [co]
def d8:HK:=.box 1000002 9 [ci]
def cy:List HK:=[.arr 4800009 (.int .u8),ge,d9,fg,fX,ck,cz,cx,.lp 1700009 44 (cj) [9] 4 0 a7,de,cD,dk,d8]
def cE:HK:=.arr 1500003 (.int .u8)
def eb:HK:=.arr 1000012 (.pair .str tyL)
def cF:List HK:=[.box 1000008 56 ef,.arr 1800005 J5,eb]
def ek:List FK:=[ci,.v (.list cZ),co]
def c8:HK:=.box 1000006 31 b8
def cG:List HK:=[.box 1000011 49 ek,c8]
def cI:HK:=.box 1000001 178 cf
def cK:FK:=.ptr 1000005 0
def cL:FK:=.ptr 1000006 0
def d5:List FK:=[.yld 1700008]
def cR:List FK:=us [.u,.u,ci,cw] 9
def cM:List HK:=[.arr 4800009 (.int .u8),ge,d9,fg,.box 3000002 167 d5,ck,cz,cx,.lp 1700008 183 (cR) [8] 4 0 a7,cE,cq]
def gh:HK:=.box 3000003 117 [.slc 3500003]
def cP:List HK:=[d9,gh,fX,ck,cz,cx,.lp 1700009 44 (cj) [9] 4 0 a7,de,cD,dk,d8]
def cQ:List FK:=[cg,.v (.list Iy),co]
def cT:FK:=.ptr 1000008 0
def cU:HK:=.box 1000008 31 b8
def fh:HK:=.box 1000009 161 [.slc 1500009,.slc 1502009]
def cV:List HK:=[.arr 1502009 cZ,.arr 1500009 J5,fh]
def eh:FK:=.v (.list J4)
def fN:HK:=.box 2000001 71 [eh]
def cW:List HK:=[.lp 1700014 182 (us [.u,.u,ci,.u,.u,cK] 15) [14] 5 0 a7,fN,.box 1000005 117 [.slc 1500005],.arr 1500005 (.int .u8)]
def eJ:FK:=.v (.list Gp)
def cX:List FK:=[ci,cg,cg,eJ,cg,cg,cg,co,co]
def cY:HK:=.box 1000004 31 b8
def c6:List HK:=[.box 0 161 [.slc 1,.slc 2],.arr 1 J5,.arr 2 cZ]
def c7:List HK:=[d9,gh,.box 3000002 167 d5,ck,cz,cx,.lp 1700008 183 (cR) [8] 4 0 a7,cE,cq]
def da:List HK:=[.lp 1700007 38 (us [.u,.u,cS,cw] 6) [7] 3 0 a7,fN,dk,.box 1000002 76 [cg,cg]]
def db:HK:=.box 2000004 155 [.slc 2000002,co,cg]
def dc:List (List FK):=[us [cJ,.u,cg,.u,cC,.u,cL,.u,.u,.u,.u,.u,.u,.u,cJ,cg] 91,cf]
def dg:List FK:=[.u,.u,.u,.u,cg]
def dr:List FK:=us [.u,.u,.nils,cw,cC,cK] 13
def er:HK:=.box 1000005 105 cQ
def dt:List HK:=[.box 1000011 105 cQ,.box 1000007 105 [cg,.nils,co],.box 1000006 66 [cg,cg,cg,co],er]
def du:List FK:=us [.u,.u,.u,.u,.u,.u,.u,.u,cT] 243
def dv:FK:=.v (.int .u8)
def dx:List HK:=[ck,cz,cx,.lp 1700008 183 (cR) [8] 4 0 a7,cE,cq]
def dy:FK:=.ptr 1000011 0
def d7:HK:=.box 1000003 105 [cg,.nils,co]
def ec:List HK:=[.box 1000011 105 cQ,.box 1000007 105 [cg,.nils,co],.box 1000006 66 [cg,cg,cg,co]]
def eg:List (List FK):=[us [.u,.u,ci,.u,.u,cK] 15,[.yld 1700014],[]]
def ei:FK:=.v (.list og)
def ej:List (List FK):=[cf]
def eo:List HK:=[.box 1000005 187 [ci,co]]
def ev:List FK:=us [cJ,.u,.u,.u,.u,cg] 102
def ey:List FK:=[ci,cg,.u,.u,.u,.u,.u,.u,.u,ci,cg,.u]
def ez:List FK:=[ci,cg,.u,.u,.u,ci,cg,.u,.u,.u,.u,.u]
def eC:FK:=.slc 1800004
def eD:List HK:=[ca,cN]
def eE:List FK:=[.u,.u,.u,.u,.u,.u,cg,cg]
def eI:HK:=.arr 2000002 J4
def eK:List HK:=[.arr 1200482 og,.box 1000024 148 [.v pV,ci,.slc 1200482,cg,cg,cg]]
def eM:List (List FK):=[us [.u,.u,cS,cw] 6,[.yld 1700007],[]]
def eN:List FK:=us [ci,cg,.u,.u,.u,cK,cL,.ptr 1000007 0,.u,.u,.u,dy,.u,.u,cg] 171
def eO:List FK:=us [.u,.u,.u,dz,.u,.u,.u,.u,.u,.u,.u,.u,.u,.u,.u,.v MW,cg,cg] 14
def eR:FK:=.slc 1000012
def eS:List FK:=[.u,.u,.u,.u,.u,.u,cL]
def eT:List FK:=[.u,.u,cg]
def eV:List FK:=us [.u,.u,.u,.u,.u,.u,.u,cg] 25
def eW:List FK:=us [] 13
def eZ:List FK:=us [.u,.u,.u,.u,.u,.u,ci] 103
def fa:List FK:=us [.u,.u,.v MW] 119
def fb:List (List FK):=[us [ci,.u,cS,cw,cC,.u,ci] 9,[]]
def fc:FK:=.slc 1800005
def ff:List HK:=[.box 1000003 49 ek,.box 1000002 49 [ci,.nils,co]]
def fj:List FK:=[ci,cg,.u,.u,.u,ci,cg,.u]
def fk:List HK:=[eI,.box 0 155 [.slc 2000002,co,cg],.arr 1 J4]
def fm:List HK:=[.box 2000003 1 [.mfn 246 [(0,0)]],cI,cN,ca]
def fp:List HK:=[.box 2000003 1 [.mfn 247 [(0,0)]],cI,cN,ca]
def fq:List HK:=[.box 2000003 1 [.mfn 248 [(0,0)]],cI,cN,ca]
def fu:List HK:=[.box 2000003 1 [.mfn 249 [(0,0)]],cI,cN,ca]
def fw:List HK:=[.box 2000003 1 [.mfn 250 [(0,0)]],cI,cN,ca]
def fx:List HK:=[.box 2000003 1 [.mfn 245 [(0,0)]],cI,cN,ca]
def fy:List FK:=us [ci,cg,cg,.u,.u,.u,cL,.u,co,cg,ci,dy] 224
def fI:List FK:=[cJ,.u,.u,cg]
def fR:FK:=.ptr 1000009 0
def fS:FK:=.ptr 2000004 0
def fW:List FK:=us [ci,.u,.u,.u,.u,cK,.u,.u,.u,cg,cg] 63
def fY:HK:=.box 1000004 56 ef
def ga:FK:=.v (.list Y1)
def gb:List FK:=us [dj] 12
def gd:List FK:=[cJ,.u,cg]
def gf:List HK:=[.box 0 155 [.slc 1,co,cg],.arr 1 J4]
def gg:List HK:=[.arr 2800005 Gp,c8,cY,.box 0 69 cX]
def G8:SP:=⟨us [dv,.u,.u,.u,.u,.u,.u,.u,.u,.u,.u,.u,.u,.u,.u,.u,.u,.u,co] 29,[]⟩
def uj:SP:=⟨us [dv] 47,[]⟩
def ul:SP:=⟨us eT 45,[]⟩
def Fv {d:Type} (e f:Int->Option d) (g:Int) (h:Bool):Option d:=cond h (f 5)<|e g
def lN (d:Int) (e:Bool):Option (uj.den⊕ul.den):=Fv (fun f=>a6 (.inl ((f,()),()))) (fun g=>a6 (.inr ((g,()),()))) d e
noncomputable def OG:dG:=fK Aj G8 uj ul (.exit 999999) (fun v=>lN v.1.1 v.1.2.1) 6
def He:SP:=⟨[.u,.u,.u,.u,.u,.u,.u,.u,.u,.u,.u,.u,.u,.u,.u,.u,.u,.u,.u,.u,.u,.u,.u,.u,.u,.u,.u,.u,.u,.u,.u,.u,.u,.u,.u,.u,.u,.u,.u,.u,.u,.u,co,.u,.u,.u,.u,.u],[]⟩
def xX:SP:=⟨us [] 48,[]⟩
def yf:SP:=⟨us eT 45,[]⟩
def FC {d:Type} (e:Option d) (f:Int->Option d) (g:Bool):Option d:=cond g (f 4) e
def lQ (d:Bool):Option (xX.den⊕yf.den):=FC (a6 (.inl ((),()))) (fun e=>a6 (.inr ((e,()),()))) d
noncomputable def OJ:dG:=fK Ap He xX yf (.exit 999999) (fun v=>lQ v.1.1) 12
def Ha:SP:=⟨us [.u,.u,.u,.u,.u,.u,.u,.u,.u,.u,.u,.u,.u,.u,.u,.u,.u,.u,.u,.u,.u,.u,.u,.u,.u,.u,.u,.u,.u,.u,.u,.u,.u,dv,co] 13,[]⟩
def xW:SP:=⟨us [] 48,[]⟩
def yc:SP:=⟨us eT 45,[]⟩
def FB {j:Type} (h:Option j) (g:Int->Option j) (d:Int) (l:Bool):Option j:=cond l (g 3)<|cond (bZ d 92) (bK (lQ (bZ d 92)) fun e=>dO e (fun i=>h) (fun f=>g f.1.1))<|cond (bZ d 39) (bK (lQ (bZ d 39)) fun e=>dO e (fun i=>h) (fun f=>g f.1.1))<|cond (bZ d 34) (bK (lQ (bZ d 34)) fun e=>dO e (fun i=>h) (fun f=>g f.1.1))<|cond (bZ d 96) (bK (lQ (bZ d 96)) fun e=>dO e (fun i=>h) (fun f=>g f.1.1))<|bK (lQ (bZ d 36)) fun e=>dO e (fun i=>h) (fun f=>g f.1.1)
def jU (d:Int) (e:Bool):Option (xW.den⊕yc.den):=FB (a6 (.inl ((),()))) (fun f=>a6 (.inr ((f,()),()))) d e
noncomputable def OI:dG:=fK Am Ha xW yc (.exit 999999) (fun v=>jU v.1.1 v.1.2.1) 18
def G9:SP:=⟨us [dv] 47,[]⟩
def xU:SP:=⟨[],[]⟩
def xZ:SP:=⟨us eT 45,[]⟩
def Fz {i:Type} (j:Option i) (e:Int->Option i) (d:Int):Option i:=cond (bZ d 124) (bK (jU d (bZ d 124)) fun f=>dO f (fun h=>e 0) (fun g=>e g.1.1))<|cond (bZ d 38) (bK (jU d (bZ d 38)) fun f=>dO f (fun h=>e 0) (fun g=>e g.1.1))<|cond (bZ d 59) (bK (jU d (bZ d 59)) fun f=>dO f (fun h=>e 0) (fun g=>e g.1.1))<|cond (bZ d 60) (bK (jU d (bZ d 60)) fun f=>dO f (fun h=>e 0) (fun g=>e g.1.1))<|cond (bZ d 62) (bK (jU d (bZ d 62)) fun f=>dO f (fun h=>e 0) (fun g=>e g.1.1))<|cond (bZ d 40) (bK (jU d (bZ d 40)) fun f=>dO f (fun h=>e 0) (fun g=>e g.1.1))<|bK (jU d (bZ d 41)) fun f=>dO f (fun h=>e 0) (fun g=>e g.1.1)
def xJ (d:Int):Option (xU.den⊕xZ.den):=Fz (a6 (.inl ((),()))) (fun e=>a6 (.inr ((e,()),()))) d
noncomputable def OH:dG:=fK Ak G9 xU xZ (.exit 0) (fun v=>xJ v.1.1) 24
def NQ (d:uj.den⊕ul.den):Option zN:=dO d (fun e=>bK (xJ e.1.1) fun f=>dO f (fun i=>a7) (fun g=>a6 (g.1.1,()))) (fun h=>a6 (h.1.1,()))
def Ud (d:Int):Option zN:=cond (leI 65 d) (cond (leI d 90) (bK (lN d (leI d 90)) fun e=>NQ e)<|bK (lN d (bZ d 95)) fun e=>NQ e)<|bK (lN d (bZ d 95)) fun e=>NQ e
def ana (d:Int):Option zN:=cond (bZ d 10) (a6 (2,()))<|cond (leI 48 d) (cond (leI d 57) (a6 (6,()))<|cond (leI 97 d) (cond (leI d 122) (bK (lN d (leI d 122)) fun e=>NQ e)<|Ud d)<|Ud d)<|cond (leI 97 d) (cond (leI d 122) (bK (lN d (leI d 122)) fun e=>NQ e)<|Ud d)<|Ud d
def J9 (d:Int):Option zN:=cond (bZ d 32) (cond (bZ d 32) (a6 (1,()))<|ana d)<|cond (bZ d 9) (a6 (1,()))<|ana d
def ami:Sum:=⟨[.int .u8],TL,fun x=>J9 x.1⟩
noncomputable def rM:Env:=iW prog tt 164 [] [(800011,Aj),(800012,Ak),(800020,Am),(800026,Ap)] [(800011,OG),(800026,OJ),(800020,OI),(800012,OH)]
theorem Yn {R:Type} (d:Nat) (K:Ex->St->Option R) (e:Int) (f:Bool):
  iter (a6 Aj) (tH (qR rM (d+6) 164 zY)) 1 (jf G8 ((e,f,()),())) K=
   Fv (fun g=>K (.exit 999999) (jf uj ((g,()),()))) (fun h=>K .ret (jf ul ((h,()),()))) e f:=by kernel_rfl
theorem acz {R:Type} (d:Nat) (K:Ex->St->Option R) (e:Int) (f:Bool):
  iter (a6 Aj) (tH (qR rM (d+6) 164 zY)) 1 (jf G8 ((e,f,()),())) K=bK (lN e f) fun o=>dO o (fun a=>K (.exit 999999) (jf uj a)) fun b=>K .ret (jf ul b):=by
  rw[Yn];simp only[lN,Fv,dw,dA,bJ,dh,dB]
  try simp only[dO]
theorem acV:qF rM 164 zY OG:=wL (by kernel_rfl) fun R d K v o h=>⟨1,(acz d K (v.1.1) (v.1.2.1)).trans (congrArg (fun o=>bK o _) h)⟩
theorem Yq {R:Type} (d:Nat) (K:Ex->St->Option R) (e:Bool):
  iter (a6 Ap) (tH (qR rM (d+12) 164 Ac)) 1 (jf He ((e,()),())) K=
   FC (K (.exit 999999) (jf xX ((),()))) (fun f=>K .ret (jf yf ((f,()),()))) e:=by kernel_rfl
theorem acC {R:Type} (d:Nat) (K:Ex->St->Option R) (e:Bool):
  iter (a6 Ap) (tH (qR rM (d+12) 164 Ac)) 1 (jf He ((e,()),())) K=bK (lQ e) fun o=>dO o (fun a=>K (.exit 999999) (jf xX a)) fun b=>K .ret (jf yf b):=by
  rw[Yq];simp only[lQ,FC,dw,dA,bJ,dh,dB]
  try simp only[dO]
theorem acY:qF rM 164 Ac OJ:=wL (by kernel_rfl) fun R d K v o h=>⟨1,(acC d K (v.1.1)).trans (congrArg (fun o=>bK o _) h)⟩
theorem Yp {R:Type} (d:Nat) (K:Ex->St->Option R) (e:Int) (f:Bool):
  iter (a6 Am) (tH (qR rM (d+18) 164 Aa)) 1 (jf Ha ((e,f,()),())) K=
   FB (K (.exit 999999) (jf xW ((),()))) (fun g=>K .ret (jf yc ((g,()),()))) e f:=by kernel_rfl
theorem acB {R:Type} (d:Nat) (K:Ex->St->Option R) (e:Int) (f:Bool):
  iter (a6 Am) (tH (qR rM (d+18) 164 Aa)) 1 (jf Ha ((e,f,()),())) K=bK (jU e f) fun o=>dO o (fun a=>K (.exit 999999) (jf xW a)) fun b=>K .ret (jf yc b):=by
  rw[Yp];simp only[jU,FB,dw,dA,bJ,dh,dB]
  try simp only[dO]
theorem acX:qF rM 164 Aa OI:=wL (by kernel_rfl) fun R d K v o h=>⟨1,(acB d K (v.1.1) (v.1.2.1)).trans (congrArg (fun o=>bK o _) h)⟩
theorem Yo {R:Type} (d:Nat) (K:Ex->St->Option R) (e:Int):
  iter (a6 Ak) (tH (qR rM (d+24) 164 zZ)) 1 (jf G9 ((e,()),())) K=
   Fz (K (.exit 0) (jf xU ((),()))) (fun f=>K .ret (jf xZ ((f,()),()))) e:=by kernel_rfl
theorem acA {R:Type} (d:Nat) (K:Ex->St->Option R) (e:Int):
  iter (a6 Ak) (tH (qR rM (d+24) 164 zZ)) 1 (jf G9 ((e,()),())) K=bK (xJ e) fun o=>dO o (fun a=>K (.exit 0) (jf xU a)) fun b=>K .ret (jf xZ b):=by
  rw[Yo];simp only[xJ,Fz,dw,dA,bJ,dh,dB]
  try simp only[dO]
theorem acW:qF rM 164 zZ OH:=wL (by kernel_rfl) fun R d K v o h=>⟨1,(acA d K (v.1.1)).trans (congrArg (fun o=>bK o _) h)⟩
theorem aJc:jk agd=[]:=by kernel_rfl
theorem aIv:uP rM 164 agd=[zY,zZ,Aa,Ac]:=by kernel_rfl
theorem aJw:dR rM 164 agd:=pz agd (fun x _ d=>absurd (show false=true from d) (by decide)) (by rw[aJc];exact aN) (qj (by rw[aIv];exact(aD (fC (by kernel_rfl) (acV)) (aD (fC (by kernel_rfl) (acW)) (aD (fC (by kernel_rfl) (acX)) (aD (fC (by kernel_rfl) (acY)) aN))))))
theorem ara:fH rM:=eA f164 aN (aJw)
theorem vF:dX prog 164 ami:=sA ara
def Ko (e:Int):Option oJ:=bK (J9 e) fun d=>cond (bZ d.1 1) (cond (bZ d.1 1) (a6 (true,()))<|some (false,()))<|cond (bZ d.1 2) (cond (bZ d.1 2) (a6 (true,()))<|some (false,()))<|cond (bZ d.1 3) (a6 (true,()))<|some (false,())
def aLL:Sum:=⟨[.int .u8],KO,fun x=>Ko x.1⟩
theorem aa9:dX prog 173 aLL:=qA f173 [] (sE vF aN)
def NM (d:Int) (e:List lD) (f:Int):Option (taN×(Unit)):=bK (Ko d) fun g=>a6 ((e,(g.1,(f,()))),())
def aad (f:List lD) (h:Bool) (g j e:Int):Option (taN×(Unit)):=cond (bZ e 92) (bK (zh f h g 13) fun d=>a6 ((d.1.1,(d.1.2.1,(d.1.2.2.1,()))),()))<|cond (bZ e 35) (cond h (bK (zh f h g 14) fun d=>a6 ((d.1.1,(d.1.2.1,(d.1.2.2.1,()))),()))<|NM e f g)<|cond (bZ e 40) (cond (!(bZ j 0)) (bK (zh f h g 2) fun d=>bK (Ko e) fun i=>a6 ((d.1.1,(i.1,(d.1.2.2.1,()))),()))<|NM e f g)<|cond (bZ e 41) (cond (!(bZ j 0)) (bK (zf f h g) fun d=>a6 ((d.1.1,((!(bZ j 1)),(d.1.2.2.1,()))),()))<|some ((f,((!(bZ j 1)),(g,()))),()))<|cond (bZ e 39) (bK (zh f h g 4) fun d=>bK (Ko e) fun i=>a6 ((d.1.1,(i.1,(d.1.2.2.1,()))),()))<|cond (bZ e 34) (bK (zh f h g 5) fun d=>bK (Ko e) fun i=>a6 ((d.1.1,(i.1,(d.1.2.2.1,()))),()))<|cond (bZ e 36) (cond (bZ e 36) (bK (WF f h g e) fun d=>bK (Ko e) fun i=>a6 ((d.1.1,(i.1,(d.1.2.2.1,()))),()))<|NM e f g)<|cond (bZ e 96) (bK (WF f h g e) fun d=>bK (Ko e) fun i=>a6 ((d.1.1,(i.1,(d.1.2.2.1,()))),()))<|NM e f g
def aLB:gK:=⟨155,tzD,[cZ,.int .u8],[],fun x y=>aad x.1 x.2.1 x.2.2.1 y.1 y.2.1⟩
theorem as4:eP prog 141 aLB:=qB [] (sE aa9 aN) (sF yO (sF DX (sF Rn aN)))
def am1 (g:List lD) (h:Bool) (i j f:Int):Option (taN×(Unit)):=bK (WF g h i f) fun d=>cond d.2.1 (a6 ((d.1.1,(d.1.2.1,(d.1.2.2.1,()))),()))<|cond (bZ f 40) (bK (zh d.1.1 d.1.2.1 d.1.2.2.1 10) fun e=>a6 ((e.1.1,(e.1.2.1,(e.1.2.2.1,()))),()))<|cond (bZ f 41) (cond (bZ j 10) (bK (zf d.1.1 d.1.2.1 d.1.2.2.1) fun e=>a6 ((e.1.1,(e.1.2.1,(e.1.2.2.1,()))),()))<|cond (bZ f 41) (bK (xA d.1.1 d.1.2.1 d.1.2.2.1 11) fun e=>a6 ((e.1.1,(e.1.2.1,(e.1.2.2.1,()))),()))<|some ((d.1.1,(d.1.2.1,(d.1.2.2.1,()))),()))<|cond (bZ f 41) (bK (xA d.1.1 d.1.2.1 d.1.2.2.1 11) fun e=>a6 ((e.1.1,(e.1.2.1,(e.1.2.2.1,()))),()))<|some ((d.1.1,(d.1.2.1,(d.1.2.2.1,()))),())
def aLD:gK:=⟨155,tzD,[cZ,.int .u8],[],fun x y=>am1 x.1 x.2.1 x.2.2.1 y.1 y.2.1⟩
theorem as5:eP prog 143 aLD:=qB [] aN (sF Rf (sF yO (sF DX (sF Rn aN))))
def ace (f g:Int) (d:(taN×oJ)):Option (taN×(Unit)):=cond (bZ f 39) (cond (bZ g 7) (bK (zh d.1.1 d.1.2.1 d.1.2.2.1 4) fun e=>a6 ((e.1.1,(e.1.2.1,(e.1.2.2.1,()))),()))<|some ((d.1.1,(d.1.2.1,(d.1.2.2.1,()))),()))<|some ((d.1.1,(d.1.2.1,(d.1.2.2.1,()))),())
def acf (f:Int) (d:(taN×oJ)) (g:Int):Option (taN×(Unit)):=cond (bZ f 34) (bK (zh d.1.1 d.1.2.1 d.1.2.2.1 5) fun e=>a6 ((e.1.1,(e.1.2.1,(e.1.2.2.1,()))),()))<|cond (bZ f 125) (cond (!(bZ g 5)) (bK (zf d.1.1 d.1.2.1 d.1.2.2.1) fun e=>a6 ((e.1.1,(e.1.2.1,(e.1.2.2.1,()))),()))<|ace f g d)<|ace f g d
def am2 (h:List lD) (i:Bool) (j f e:Int):Option (taN×(Unit)):=bK (WF h i j e) fun d=>cond d.2.1 (a6 ((d.1.1,(d.1.2.1,(d.1.2.2.1,()))),()))<|cond (bZ e 34) (cond (bZ f 5) (bK (zf d.1.1 d.1.2.1 d.1.2.2.1) fun g=>a6 ((g.1.1,(g.1.2.1,(g.1.2.2.1,()))),()))<|acf e d f)<|acf e d f
def aLE:gK:=⟨155,tzD,[cZ,.int .u8],[],fun x y=>am2 x.1 x.2.1 x.2.2.1 y.1 y.2.1⟩
theorem as6:eP prog 144 aLE:=qB [] aN (sF yO (sF DX (sF Rn aN)))
def Eo (h:Int) (e:List lD) (f:Bool) (g i:Int):Option (taN×(Unit)):=cond (bZ h 13) (bK (zf e f g) fun d=>cond d.1.2.1 (a6 ((d.1.1,((bZ i 10),(d.1.2.2.1,()))),()))<|some ((d.1.1,(false,(d.1.2.2.1,()))),()))<|cond (bZ h 4) (cond (bZ i 39) (bK (zf e f g) fun d=>a6 ((d.1.1,(d.1.2.1,(d.1.2.2.1,()))),()))<|some ((e,(f,(g,()))),()))<|cond (bZ h 14) (cond (bZ i 10) (bK (zf e f g) fun d=>a6 ((d.1.1,(true,(d.1.2.2.1,()))),()))<|some ((e,(f,(g,()))),()))<|cond (bZ h 6) (cond (bZ i 96) (bK (zf e f g) fun d=>a6 ((d.1.1,(d.1.2.1,(d.1.2.2.1,()))),()))<|cond (bZ i 92) (bK (zh e f g 13) fun d=>a6 ((d.1.1,(d.1.2.1,(d.1.2.2.1,()))),()))<|some ((e,(f,(g,()))),()))<|cond (bZ h 9) (cond (bZ h 9) (bK (am1 e f g h i) fun d=>a6 ((d.1.1,(d.1.2.1,(d.1.2.2.1,()))),()))<|bK (am2 e f g h i) fun d=>a6 ((d.1.1,(d.1.2.1,(d.1.2.2.1,()))),()))<|cond (bZ h 10) (bK (am1 e f g h i) fun d=>a6 ((d.1.1,(d.1.2.1,(d.1.2.2.1,()))),()))<|bK (am2 e f g h i) fun d=>a6 ((d.1.1,(d.1.2.1,(d.1.2.2.1,()))),())
def RP (f:List lD) (g:Bool) (h d i:Int):Option (taN×(Unit)):=cond (bZ d 0) (cond (bZ d 0) (bK (aad f g h d i) fun e=>a6 ((e.1.1,(e.1.2.1,(e.1.2.2.1,()))),()))<|Eo d f g h i)<|cond (bZ d 1) (cond (bZ d 1) (bK (aad f g h d i) fun e=>a6 ((e.1.1,(e.1.2.1,(e.1.2.2.1,()))),()))<|Eo d f g h i)<|cond (bZ d 2) (bK (aad f g h d i) fun e=>a6 ((e.1.1,(e.1.2.1,(e.1.2.2.1,()))),()))<|Eo d f g h i
def aAE:gK:=⟨155,tzD,[cZ,.int .u8],[],fun x y=>RP x.1 x.2.1 x.2.2.1 y.1 y.2.1⟩
theorem asM:eP prog 102 aAE:=qB [] aN (sF yO (sF as4 (sF DX (sF as5 (sF as6 aN)))))
noncomputable def b61:Code:=(f61.body).getD .skip
noncomputable def amH:Code:=cA (cA (cA (cB (cB (cA (b61))))))
def ax9:eY:=⟨[0,1,100002],[],[0],[],[],[]⟩
def zt:eY:=⟨[0,1],[],[],[],[],[]⟩
def aoY:SQ:=⟨us [cJ,dv] 63,ej,fk⟩
def ak9:SQ:=⟨us cf 64,ej,fk⟩
def alJ:SQ:=⟨us [] 65,ej,[]⟩
def ama {j:Type} (m:Int->(List lD)->Bool->Int->(List lD)->Option j) (l:(List lD)->Bool->Int->(List lD)->Option j) (o:Option j) (f:Int) (e:List lD) (h:Bool) (i:Int) (g:List lD):Option j:=cond (fO e (dV .i64 (bM e) 1)) (cond (pW (dL (dV .i64 (bM e) 1)) e) (cond (bZ (dU e (0,(0,())) (dL (dV .i64 (bM e) 1))).1 12) (bK (ag7 e h i f) fun d=>cond d.2.1 (l d.1.1 d.1.2.1 d.1.2.2.1 g)<|m f d.1.1 d.1.2.1 d.1.2.2.1 g)<|cond (bZ (dU e (0,(0,())) (dL (dV .i64 (bM e) 1))).1 3) (cond (bZ f 40) (bK (xA e h i 9) fun d=>l d.1.1 false d.1.2.2.1 g)<|bK (xA e h i 1) fun d=>m f d.1.1 d.1.2.1 d.1.2.2.1 g)<|cond (bZ (dU e (0,(0,())) (dL (dV .i64 (bM e) 1))).1 11) (cond (bZ f 41) (bK (zf e h i) fun d=>l d.1.1 d.1.2.1 d.1.2.2.1 g)<|bK (xA e h i 9) fun d=>m f d.1.1 d.1.2.1 d.1.2.2.1 g)<|bK (RP e h i (dU e (0,(0,())) (dL (dV .i64 (bM e) 1))).1 f) fun d=>l d.1.1 d.1.2.1 d.1.2.2.1 g) a7) a7
def akz:Nat->Int->(List lD)->Bool->Int->(List lD)->Option (ak9.den⊕alJ.den)
 |0,_,_,_,_,_=>a7
 |n+1,d,e,f,g,h=>ama (akz n) (fun i j l m=>a6 (.inl ((),((),()),(i,(j,l,()),m,())))) (a6 (.inr ((),((),()),()))) d e f g h
def aKd (n:Nat) (v:aoY.den):=akz n v.1.1 v.2.2.1 v.2.2.2.1.1 v.2.2.2.1.2.1 v.2.2.2.2.1
noncomputable def akG:dG:=fQ ax9 aoY ak9 alJ (.exit 0) (aKd bV) 6
def Ut:SQ:=⟨us [cJ,dv] 63,ej,gf⟩
def XP:SQ:=⟨us cf 64,ej,gf⟩
def XV:SQ:=⟨us [] 65,ej,[]⟩
def Ig {i:Type} (l:Int->Bool->Int->(List lD)->Option i) (j:Bool->Int->(List lD)->Option i) (m:Option i) (f:Int) (g:Bool) (h:Int) (e:List lD):Option i:=cond (fO e (dV .i64 (bM e) 1)) (cond (pW (dL (dV .i64 (bM e) 1)) e) (cond (bZ (dU e (0,(0,())) (dL (dV .i64 (bM e) 1))).1 12) (bK (ag7 e g h f) fun d=>cond d.2.1 (j d.1.2.1 d.1.2.2.1 d.1.1)<|l f d.1.2.1 d.1.2.2.1 d.1.1)<|cond (bZ (dU e (0,(0,())) (dL (dV .i64 (bM e) 1))).1 3) (cond (bZ f 40) (bK (xA e g h 9) fun d=>j false d.1.2.2.1 d.1.1)<|bK (xA e g h 1) fun d=>l f d.1.2.1 d.1.2.2.1 d.1.1)<|cond (bZ (dU e (0,(0,())) (dL (dV .i64 (bM e) 1))).1 11) (cond (bZ f 41) (bK (zf e g h) fun d=>j d.1.2.1 d.1.2.2.1 d.1.1)<|bK (xA e g h 9) fun d=>l f d.1.2.1 d.1.2.2.1 d.1.1)<|bK (RP e g h (dU e (0,(0,())) (dL (dV .i64 (bM e) 1))).1 f) fun d=>j d.1.2.1 d.1.2.2.1 d.1.1) a7) a7
def Dy:Nat->Int->Bool->Int->(List lD)->Option (XP.den⊕XV.den)
 |0,_,_,_,_=>a7
 |n+1,d,e,f,g=>Ig (Dy n) (fun h i j=>a6 (.inl ((),((),()),((h,i,()),j,())))) (a6 (.inr ((),((),()),()))) d e f g
def ayw (n:Nat) (v:Ut.den):=Dy n v.1.1 v.2.2.1.1 v.2.2.1.2.1 v.2.2.2.1
noncomputable def Xu:dG:=fQ ax9 Ut XP XV (.exit 0) (ayw bV) 12
def arW (e:List lD) (h:Bool) (i g:Int):Option (taN×(Unit)):=cond (bZ (bM e) 0) (bK (akz bV g [(0,(0,()))] true 0 e) fun f=>dO f (fun d=>a6 ((d.2.2.1,(d.2.2.2.1.1,((bY .i64 d.2.2.2.1.2.1 1),()))),())) (fun j=>a7))<|bK (Dy bV g h i e) fun f=>dO f (fun d=>a6 ((d.2.2.2.1,(d.2.2.1.1,((bY .i64 d.2.2.1.2.1 1),()))),())) (fun j=>a7)
def aqy:gK:=⟨155,tzD,[.int .u8],[],fun x y=>arW x.1 x.2.1 x.2.2.1 y.1⟩
noncomputable def agC:Env:=gZ prog tt [] [(61,2,ax9),(61,600001,zt)] [(61,2,kL akG Xu)] [] [(99,aHL),(100,aAC),(101,aAD),(102,aAE)]
def az4 {d:Type} (a:aoY.den->Option d) (b:ak9.den->Option d) (c:alJ.den->Option d) (v:aoY.den):Option d:=ama (fun e f g h i=>a ((e,()),((),()),(f,(g,h,()),i,()))) (fun j l m o=>b ((),((),()),(j,(l,m,()),o,()))) (c ((),((),()),())) v.1.1 v.2.2.1 v.2.2.2.1.1 v.2.2.2.1.2.1 v.2.2.2.2.1
theorem aKU:dY agC 61 amH akG:=lT (az4) (h2:=by intros;simp only[az4,ama,dw,dA,bJ,dh,dB])
def ait {d:Type} (a:Ut.den->Option d) (b:XP.den->Option d) (c:XV.den->Option d) (v:Ut.den):Option d:=Ig (fun e f g h=>a ((e,()),((),()),((f,g,()),h,()))) (fun i j l=>b ((),((),()),((i,j,()),l,()))) (c ((),((),()),())) v.1.1 v.2.2.1.1 v.2.2.1.2.1 v.2.2.2.1
theorem azk:dY agC 61 amH Xu:=lT (ait) (h2:=by intros;simp only[ait,Ig,dw,dA,bJ,dh,dB])
theorem aNB:dR agC 61 b61:=oq [amH] (aD (fun L h=>by rw[show(agC).lp 61 (dM amH)=a6 (kL akG Xu) by kernel_rfl]at h;cases h;exact uS aKU azk) aN)
theorem avX:fH agC:=eB aN [61] (aD ⟨f61,b61,by kernel_rfl,by kernel_rfl,aNB⟩ aN) (hx:=(aD aB4 (aD Rf (aD yO (aD asM aN)))))
theorem YB:eP prog 61 aqy:=sB avX
def aae (d:Int):Option zN:=cond (bZ d 3) (a6 (1,()))<|cond (bZ d 11) (a6 (9,()))<|some (d,())
def aAY:Sum:=⟨[cZ],TL,fun x=>aae x.1⟩
theorem atb:dX prog 152 aAY:=qA f152 [] aN
noncomputable def aCt:Code:=(f107.body).getD .skip
noncomputable def auj:Code:=cA (cA (cB (cA (cB (aCt)))))
noncomputable def auk:Code:=cA (cA (cB (cB (cB (aCt)))))
def axD:eY:=⟨[0,1,2,6,100002],[],[0,1],[],[],[]⟩
def axE:eY:=⟨[0,77,78,79,100009],[],[],[],[],[]⟩
def ac4:SQ:=⟨us [cJ,eh,cg,.u,.u,.u,cg] 141,ej,c6⟩
def adN:SQ:=⟨us [cJ,eh] 146,ej,c6⟩
def aen:SQ:=⟨us [] 148,ej,[]⟩
def jH (d:iD) (e:Int):=dU d 0 (dL (dV .i64 e 1))
def yI (d:List iI) (e:iD) (f g:Int):=iL d (dL (jH e f)) ((dU d (0,(0,(0,(0,(false,()))))) (dL (jH e f))).1,((dU d (0,(0,(0,(0,(false,()))))) (dL (jH e f))).2.1,((bY .i64 g 1),((dU d (0,(0,(0,(0,(false,()))))) (dL (jH e f))).2.2.2.1,((dU d (0,(0,(0,(0,(false,()))))) (dL (jH e f))).2.2.2.2.1,())))))
def yJ (f:List iI) (d:iD) (e g:Int):=dU (yI f d e g) (0,(0,(0,(0,(false,()))))) (dL (jH d e))
def Jv {h:Type} (f:List iI) (e:iD) (d g:Int) (i:(List lD)->Int->Int->(List iI)->iD->Option h) (j:List lD):Option h:=cond (fO f (jH e d)) (cond (pW (dL (jH e d)) f) (cond (fO (yI f e d g) (jH e d)) (cond (pW (dL (jH e d)) (yI f e d g)) (cond (dZ (bM e) 0 (dV .i64 d 1)) (i j g (dV .i64 d 1) (iL (yI f e d g) (dL (jH e d)) ((yJ f e d g).1,((yJ f e d g).2.1,((yJ f e d g).2.2.1,((yJ f e d g).2.2.2.1,(false,())))))) (takeN e (dL (dV .i64 d 1)))) a7) a7) a7) a7) a7
def UQ {h:Type} (i:(List lD)->Int->Int->(List iI)->iD->Option h) (j:(List lD)->(List iI)->iD->Option h) (m:Option h) (f:List lD) (l d:Int) (g:List iI) (e:iD):Option h:=cond (gU 0 d) (cond (fO e (dV .i64 d 1)) (cond (pW (dL (dV .i64 d 1)) e) (cond (leI d (bM f)) (cond (fO f (dV .i64 d 1)) (cond (fO g (jH e d)) (cond (pW (dL (jH e d)) g) (cond (bZ (dQ f (0,(0,())) (dV .i64 d 1)).2.1 (dU g (0,(0,(0,(0,(false,()))))) (dL (jH e d))).2.1) (j f g e)<|Jv g e d l i f) a7) a7) a7)<|Jv g e d l i f) a7) a7)<|j f g e
def Oh:Nat->(List lD)->Int->Int->(List iI)->iD->Option (adN.den⊕aen.den)
 |0,_,_,_,_,_=>a7
 |n+1,d,e,f,g,h=>UQ (Oh n) (fun i j l=>a6 (.inl ((i,()),((),()),((),j,l,())))) (a6 (.inr ((),((),()),()))) d e f g h
def aDL (n:Nat) (v:ac4.den):=Oh n v.1.1 v.1.2.1 v.1.2.2.1 v.2.2.2.1 v.2.2.2.2.1
noncomputable def anQ:dG:=fQ axD ac4 adN aen (.exit 0) (aDL bV) 6
def ac5:SQ:=⟨us [cJ,.u,.u,.u,.u,.u,.u,.u,.u,.u,.u,.u,.u,.u,.u,.u,.u,.u,.u,.u,.u,.u,.u,.u,.u,.u,.u,.u,.u,.u,.u,.u,.u,.u,.u,.u,.u,.u,.u,.u,.u,.u,.u,.u,.u,.u,.u,.u,.u,.u,.u,.u,.u,.u,.u,.u,.u,.u,.u,.u,.u,.u,.u,.u,.u,.u,.u,.u,.u,.u,.u,.u,.u,.u,.u,.u,.u,eh,cg,cg] 68,ej,c6⟩
def adO:SQ:=⟨us [] 148,ej,c6⟩
def aeo:SQ:=⟨us [] 148,ej,[]⟩
def kW (d:List iI) (e:iD) (f:Int):=dU d (0,(0,(0,(0,(false,()))))) (dL (dU e 0 (dL f)))
def nG (d:List lD) (e:Int):=bZ (dQ d (0,(0,())) e).2.1 (dQ d (0,(0,())) e).2.1
def nH (d:List lD) (e:Int):=bZ (dQ d (0,(0,())) e).1 (dQ d (0,(0,())) e).1
def Fq {i:Type} (l:(List lD)->Int->Int->(List iI)->iD->Option i) (m:(List iI)->iD->Option i) (o:Option i) (g:List lD) (j d:Int) (f:List iI) (e:iD):Option i:=cond (gU d j) (cond (fO g d) (cond (gU d (bM e)) (cond (fO e d) (cond (pW (dL d) e) (bK (aae (dQ g (0,(0,())) d).1) fun h=>cond (fO f (dU e 0 (dL d))) (cond (pW (dL (dU e 0 (dL d))) f) (cond (fO (iL f (dL (dU e 0 (dL d))) (h.1,((kW f e d).2.1,((kW f e d).2.2.1,((kW f e d).2.2.2.1,((kW f e d).2.2.2.2.1,())))))) (dU e 0 (dL d))) (cond ((eqN (dL (dU e 0 (dL d))) (dL (dU e 0 (dL d))))&&true) (l g j (bY .i64 d 1) (iL f (dL (dU e 0 (dL d))) (h.1,((kW f e d).2.1,((kW f e d).2.2.1,((kW f e d).2.2.2.1,((kW f e d).2.2.2.2.1,())))))) e) a7) a7) a7) a7) a7) a7)<|cond (gU 0 d) (cond (fO e (dV .i64 d 1)) (cond (pW (dL (dV .i64 d 1)) e) (cond (eH (cu e [(bM f)]) 8) (cond (bZ (bM f) (bM f)) (bK (aae (dQ g (0,(0,())) d).1) fun h=>cond (nH g d) (cond (nG g d) (cond (bZ (dU e 0 (dL (dV .i64 d 1))) (dU e 0 (dL (dV .i64 d 1)))) (cond (((nH g d)&&true)&&((bZ h.1 h.1)&&true)) (cond (eH (cu f [(h.1,((dQ g (0,(0,())) d).2.1,(0,((dU e 0 (dL (dV .i64 d 1))),(true,())))))]) 40) (cond (nH g d) (cond (nG g d) (cond (bZ (dU e 0 (dL (dV .i64 d 1))) (dU e 0 (dL (dV .i64 d 1)))) (cond ((bZ h.1 h.1)&&((nG g d)&&((bZ 0 0)&&((bZ (dU e 0 (dL (dV .i64 d 1))) (dU e 0 (dL (dV .i64 d 1))))&&((jP true true)&&true))))) (l g j (bY .i64 d 1) (cu f [(h.1,((dQ g (0,(0,())) d).2.1,(0,((dU e 0 (dL (dV .i64 d 1))),(true,())))))]) (cu e [(bM f)])) a7) a7) a7) a7) a7) a7) a7) a7) a7) a7) a7) a7) a7)<|cond (eH (cu e [(bM f)]) 8) (cond (bZ (bM f) (bM f)) (bK (aae (dQ g (0,(0,())) d).1) fun h=>cond (nH g d) (cond (nG g d) (cond (bZ (-1) (-1)) (cond (((nH g d)&&true)&&((bZ h.1 h.1)&&true)) (cond (eH (cu f [(h.1,((dQ g (0,(0,())) d).2.1,(0,((-1),(true,())))))]) 40) (cond (nH g d) (cond (nG g d) (cond (bZ (-1) (-1)) (cond ((bZ h.1 h.1)&&((nG g d)&&((bZ 0 0)&&((bZ (-1) (-1))&&((jP true true)&&true))))) (l g j (bY .i64 d 1) (cu f [(h.1,((dQ g (0,(0,())) d).2.1,(0,((-1),(true,())))))]) (cu e [(bM f)])) a7) a7) a7) a7) a7) a7) a7) a7) a7) a7) a7) a7)<|m f e
def vN:Nat->(List lD)->Int->Int->(List iI)->iD->Option (adO.den⊕aeo.den)
 |0,_,_,_,_,_=>a7
 |n+1,d,e,f,g,h=>Fq (vN n) (fun i j=>a6 (.inl ((),((),()),((),i,j,())))) (a6 (.inr ((),((),()),()))) d e f g h
def aDM (n:Nat) (v:ac5.den):=vN n v.1.1 v.1.2.1 v.1.2.2.1 v.2.2.2.1 v.2.2.2.2.1
noncomputable def anR:dG:=fQ axE ac5 adO aeo (.exit 2) (aDM bV) 12
def agM (h:List iI) (f:iD) (d:List lD) (i:Int):Option (((List iI)×iD×Unit)×(Unit)):=cond (dZ (bM d) 1 (bM d)) (bK (Oh bV (sub d 1 (bM d)) i (bM f) h f) fun j=>dO j (fun e=>bK (vN bV e.1.1 (bM e.1.1) 0 e.2.2.2.1 e.2.2.2.2.1) fun l=>dO l (fun g=>a6 ((g.2.2.2.1,(g.2.2.2.2.1,())),())) (fun m=>a7)) (fun o=>a7)) a7
def aAF:gK:=⟨161,[(.list J5,true),(.list cZ,true)],[.list J4,cZ],[],fun x y=>agM x.1 x.2.1 y.1 y.2.1⟩
noncomputable def abW:Env:=gZ prog tt [(152,aAY)] [(107,2,axD),(107,9,axE)] [(107,2,anQ),(107,9,anR)] []
def apn {d:Type} (a:ac4.den->Option d) (b:adN.den->Option d) (c:aen.den->Option d) (v:ac4.den):Option d:=UQ (fun e f g h i=>a ((e,f,g,()),((),()),((),h,i,()))) (fun j l m=>b ((j,()),((),()),((),l,m,()))) (c ((),((),()),())) v.1.1 v.1.2.1 v.1.2.2.1 v.2.2.2.1 v.2.2.2.2.1
theorem aEw:dY abW 107 auj anQ:=lT (apn) (h2:=by intros;simp only[apn,UQ,dw,dA,bJ,dh,dB,jH,yI,yJ,Jv])
def apo {d:Type} (a:ac5.den->Option d) (b:adO.den->Option d) (c:aeo.den->Option d) (v:ac5.den):Option d:=Fq (fun e f g h i=>a ((e,f,g,()),((),()),((),h,i,()))) (fun j l=>b ((),((),()),((),j,l,()))) (c ((),((),()),())) v.1.1 v.1.2.1 v.1.2.2.1 v.2.2.2.1 v.2.2.2.2.1
theorem aEx:dY abW 107 auk anR:=lT (apo) (h2:=by intros;simp only[apo,Fq,dw,dA,bJ,dh,dB,kW,nG,nH])
theorem aJj:dR abW 107 aCt:=oq [auj,auk] (aD (fM (aEw)) (aD (fM (aEx)) aN))
theorem aqW:fH abW:=eB (aD atb aN) [107] (aD ⟨f107,aCt,by kernel_rfl,by kernel_rfl,aJj⟩ aN)
theorem asN:eP prog 107 aAF:=sB aqW
def agR (d:Int):Option oJ:=bK (J9 d) fun e=>a6 ((bZ e.1 5),())
def aAW:Sum:=⟨[.int .u8],KO,fun x=>agR x.1⟩
theorem ata:dX prog 149 aAW:=qA f149 [] (sE vF aN)
def agS (d:Int):Option oJ:=bK (J9 d) fun e=>a6 ((bZ e.1 6),())
def amg:Sum:=⟨[.int .u8],KO,fun x=>agS x.1⟩
theorem aa5:dX prog 151 amg:=qA f151 [] (sE vF aN)
noncomputable def VH:Code:=(f148.body).getD .skip
noncomputable def Ea:Code:=cA (cA (cA (cB (cB (cB (cA (cB (VH))))))))
def zq:eY:=⟨[0,1,2,7,107000004],[],[7],[],[6],[]⟩
def Sj:eY:=⟨[0,1,2,7],[],[],[],[],[]⟩
def ER:SQ:=⟨us [ci,cg,.fn 150 [],.u,.u,.u,.u,cg] 25,[ey,[]],[]⟩
def Hl:SQ:=⟨eV,[ey,[]],[]⟩
def Hu:SQ:=⟨us [] 33,[ey,[]],[]⟩
def Bd {g:Type} (m:bU->Int->Int->bU->Int->bU->Int->Option g) (o:Int->bU->Int->bU->Int->Option g) (s:bU->Int->bU->Int->Option g) (e:bU) (f d:Int) (h:bU) (i:Int) (j:bU) (l:Int):Option g:=cond (gU (bY .i64 f d) (bM e)) (cond (fO e (bY .i64 f d)) (bK (agR (cO e (bY .i64 f d))) fun p=>cond p.1 (m e f (bY .i64 d 1) h i j l)<|bK (agS (cO e (bY .i64 f d))) fun q=>cond (!q.1) (o d h i j l)<|m e f (bY .i64 d 1) h i j l) a7)<|o d h i j l
def pG:Nat->bU->Int->Int->bU->Int->bU->Int->Option (Hl.den⊕Hu.den)
 |0,_,_,_,_,_,_,_=>a7
 |n+1,d,e,f,g,h,i,j=>Bd (pG n) (fun l m o p q=>a6 (.inl ((l,()),((m,o,p,q,()),(),()),()))) (fun s u v x=>a6 (.inr ((),((s,u,v,x,()),(),()),()))) d e f g h i j
def ahE (n:Nat) (v:ER.den):=ar (pG n) v
noncomputable def GU:dG:=fQ zq ER Hl Hu (.exit 0) (ahE bV) 6
def xM:SQ:=⟨us [ci,cg,.fn 149 [],.u,.u,.u,.u,cg] 25,[ez,[]],[]⟩
def BP:SQ:=⟨eV,[ez,[]],[]⟩
def BZ:SQ:=⟨us [] 33,[ez,[]],[]⟩
def vW {e:Type} (o:bU->Int->Int->bU->Int->bU->Int->Option e) (m:Int->bU->Int->bU->Int->Option e) (q:bU->Int->bU->Int->Option e) (f:bU) (g d:Int) (h:bU) (i:Int) (j:bU) (l:Int):Option e:=cond (gU (bY .i64 g d) (bM f)) (cond (fO f (bY .i64 g d)) (bK (agR (cO f (bY .i64 g d))) fun p=>cond (!p.1) (m d h i j l)<|o f g (bY .i64 d 1) h i j l) a7)<|m d h i j l
def ou:Nat->bU->Int->Int->bU->Int->bU->Int->Option (BP.den⊕BZ.den)
 |0,_,_,_,_,_,_,_=>a7
 |n+1,d,e,f,g,h,i,j=>vW (ou n) (fun l m o p q=>a6 (.inl ((l,()),((m,o,p,q,()),(),()),()))) (fun s u v x=>a6 (.inr ((),((s,u,v,x,()),(),()),()))) d e f g h i j
def Y8 (n:Nat) (v:xM.den):=ar (ou n) v
noncomputable def BH:dG:=fQ zq xM BP BZ (.exit 0) (Y8 bV) 12
def ab9 (d:Int) (e:bU):Option zN:=cond (bZ 0 0) (a6 (0,()))<|cond (gU d 0) (a6 (0,()))<|cond (leI (bM e) d) (a6 (0,()))<|bK (pG bV e d 0 e d e d) fun f=>dO f (fun g=>a6 (g.1.1,())) (fun h=>a7)
def Wx (f:bU) (e:Int):Option zN:=cond (gU e 0) (ab9 e f)<|cond (leI (bM f) e) (ab9 e f)<|bK (ou bV f e 0 f e f e) fun g=>dO g (fun d=>cond (bZ d.1.1 0) (a6 (0,()))<|cond (gU d.2.1.1.2.1 0) (a6 (0,()))<|cond (leI (bM d.2.1.1.1) d.2.1.1.2.1) (a6 (0,()))<|bK (pG bV d.2.1.1.1 d.2.1.1.2.1 0 d.2.1.1.1 d.2.1.1.2.1 d.2.1.1.1 d.2.1.1.2.1) fun h=>dO h (fun i=>a6 (i.1.1,())) (fun j=>a7)) (fun l=>a7)
def aLu:Sum:=⟨[.str,cZ],TL,fun x=>Wx x.1 x.2.1⟩
noncomputable def We:Env:=gZ prog tt [(149,aAW),(151,amg)] [(148,4,zq),(106,600001,zt),(106,600003,zt),(148,600006,Sj)] [(148,4,kL GU BH)] []
def Tq {d:Type} (a:ER.den->Option d) (b:Hl.den->Option d) (c:Hu.den->Option d) (v:ER.den):Option d:=ar (Bd (fun e f g h i j l=>a ((e,f,g,()),((h,i,j,l,()),(),()),())) (fun m o p q s=>b ((m,()),((o,p,q,s,()),(),()),())) (fun u x y z=>c ((),((u,x,y,z,()),(),()),()))) v
theorem ahU:dY We 148 Ea GU:=lT (Tq) (h2:=by intros;simp only[Tq,ar,Bd,dw,dA,bJ,dh,dB])
def KD {d:Type} (a:xM.den->Option d) (b:BP.den->Option d) (c:BZ.den->Option d) (v:xM.den):Option d:=ar (vW (fun e f g h i j l=>a ((e,f,g,()),((h,i,j,l,()),(),()),())) (fun m o p q s=>b ((m,()),((o,p,q,s,()),(),()),())) (fun u x y z=>c ((),((u,x,y,z,()),(),()),()))) v
theorem Zh:dY We 148 Ea BH:=lT (KD) (h2:=by intros;simp only[KD,ar,vW,dw,dA,bJ,dh,dB])
theorem ako:dR We 148 VH:=oq [Ea] (aD (fun L h=>by rw[show(We).lp 148 (dM Ea)=a6 (kL GU BH) by kernel_rfl]at h;cases h;exact uS ahU Zh) aN)
theorem aqV:fH We:=eB (aD ata (aD aa5 aN)) [148] (aD ⟨f148,VH,by kernel_rfl,by kernel_rfl,ako⟩ aN)
theorem Rh:dX prog 106 aLu:=sA aqV
noncomputable def VI:Code:=(f148.body).getD .skip
noncomputable def VS:Code:=cA (cA (cA (cB (cB (cB (cA (cB (VI))))))))
def ES:SQ:=⟨us [ci,cg,.fn 151 [],.u,.u,.u,.u,cg] 25,[fj,[]],[]⟩
def Hm:SQ:=⟨eV,[fj,[]],[]⟩
def Hw:SQ:=⟨us [] 33,[fj,[]],[]⟩
def Bg {e:Type} (o:bU->Int->Int->bU->Int->bU->Int->Option e) (m:Int->bU->Int->bU->Int->Option e) (q:bU->Int->bU->Int->Option e) (f:bU) (g d:Int) (h:bU) (i:Int) (j:bU) (l:Int):Option e:=cond (gU (bY .i64 g d) (bM f)) (cond (fO f (bY .i64 g d)) (bK (agS (cO f (bY .i64 g d))) fun p=>cond (!p.1) (m d h i j l)<|o f g (bY .i64 d 1) h i j l) a7)<|m d h i j l
def sJ:Nat->bU->Int->Int->bU->Int->bU->Int->Option (Hm.den⊕Hw.den)
 |0,_,_,_,_,_,_,_=>a7
 |n+1,d,e,f,g,h,i,j=>Bg (sJ n) (fun l m o p q=>a6 (.inl ((l,()),((m,o,p,q,()),(),()),()))) (fun s u v x=>a6 (.inr ((),((s,u,v,x,()),(),()),()))) d e f g h i j
def ahF (n:Nat) (v:ES.den):=ar (sJ n) v
noncomputable def SG:dG:=fQ zq ES Hm Hw (.exit 0) (ahF bV) 6
def Dk (e:bU) (d:Int):Option zN:=cond (gU d 0) (a6 (0,()))<|cond (leI (bM e) d) (a6 (0,()))<|bK (sJ bV e d 0 e d e d) fun f=>dO f (fun g=>a6 (g.1.1,())) (fun h=>a7)
def aLI:Sum:=⟨[.str,cZ],TL,fun x=>Dk x.1 x.2.1⟩
noncomputable def aju:Env:=gZ prog tt [(151,amg)] [(148,4,zq),(153,600001,zt),(148,600006,Sj)] [(148,4,SG)] []
def Tt {d:Type} (a:ES.den->Option d) (b:Hm.den->Option d) (c:Hw.den->Option d) (v:ES.den):Option d:=ar (Bg (fun e f g h i j l=>a ((e,f,g,()),((h,i,j,l,()),(),()),())) (fun m o p q s=>b ((m,()),((o,p,q,s,()),(),()),())) (fun u x y z=>c ((),((u,x,y,z,()),(),()),()))) v
theorem ahX:dY aju 148 VS SG:=lT (Tt) (h2:=by intros;simp only[Tt,ar,Bg,dw,dA,bJ,dh,dB])
theorem akp:dR aju 148 VI:=oq [VS] (aD (fM (ahX)) aN)
theorem aq8:fH aju:=eB (aD aa5 aN) [148] (aD ⟨f148,VI,by kernel_rfl,by kernel_rfl,akp⟩ aN)
theorem Rj:dX prog 153 aLI:=sA aq8
def Z8 (e:bU) (d:Int):Option zN:=bK (Wx e d) fun g=>cond (gU 0 g.1) (a6 (g.1,()))<|cond (gU d 0) (a6 (0,()))<|cond (leI (bM e) d) (a6 (0,()))<|cond (fO e d) (cond (bZ (cO e d) 64) (cond (bZ (cO e d) 64) (a6 (1,()))<|bK (Dk e d) fun f=>a6 ((LM f.1 1),()))<|cond (bZ (cO e d) 42) (cond (bZ (cO e d) 42) (a6 (1,()))<|bK (Dk e d) fun f=>a6 ((LM f.1 1),()))<|cond (bZ (cO e d) 35) (cond (bZ (cO e d) 35) (a6 (1,()))<|bK (Dk e d) fun f=>a6 ((LM f.1 1),()))<|cond (bZ (cO e d) 63) (cond (bZ (cO e d) 63) (a6 (1,()))<|bK (Dk e d) fun f=>a6 ((LM f.1 1),()))<|cond (bZ (cO e d) 45) (cond (bZ (cO e d) 45) (a6 (1,()))<|bK (Dk e d) fun f=>a6 ((LM f.1 1),()))<|cond (bZ (cO e d) 36) (cond (bZ (cO e d) 36) (a6 (1,()))<|bK (Dk e d) fun f=>a6 ((LM f.1 1),()))<|cond (bZ (cO e d) 33) (a6 (1,()))<|bK (Dk e d) fun f=>a6 ((LM f.1 1),())) a7
def aAG:Sum:=⟨[.str,cZ],TL,fun x=>Z8 x.1 x.2.1⟩
theorem asO:dX prog 108 aAG:=qA f108 [] (sE Rj (sE Rh aN))
noncomputable def b67:Code:=(f67.body).getD .skip
noncomputable def aGc:Code:=cA (cA (cB (cA (cB (cB (cB (b67)))))))
noncomputable def auW:Code:=cA (cA (cB (cA (cB (cB (cB (cB (b67))))))))
def aGQ:eY:=⟨[0,3,4,12,13,100004],[(100000900,.pair (.list .unit) J5),(100000901,.pair (.list .unit) cZ)],[0,3],[],[2],[(2,J5)]⟩
def aya:eY:=⟨[0,3,31,32,100010],[],[3],[],[2],[(2,J5)]⟩
def ayf:eY:=⟨[0,3],[],[],[],[],[]⟩
def aI8:eY:=⟨[0,3,4,5,12,13],[],[],[],[],[]⟩
def ao0:SP:=⟨us [ci,.u,.u,fR,fS,.u,.u,.u,.u,.u,.u,.u,cg,cg] 65,[db,eI,.arr 1502009 cZ,.arr 1500009 J5,fh]⟩
def alb:SP:=⟨us [ci,.u,.u,fR] 75,cV⟩
def alL:SP:=⟨us [.u,.u,.v MW] 76,[]⟩
def afB {g:Type} (m:bU->Int->Int->Bool->Int->(List lD)->iD->(List iI)->Option g) (p:bU->iD->(List iI)->Option g) (v:(List iI)->Option g) (f:bU) (i e:Int) (q:Bool) (s:Int) (u:List lD) (j:iD) (l:List iI):Option g:=cond (gU e i) (cond (fO f e) (bK (arW u q s (cO f e)) fun d=>cond (bZ (bM d.1.1) 0) (bK (agM l j [(0,(0,()))] e) fun h=>m f i (bY .i64 e 1) d.1.2.1 d.1.2.2.1 d.1.1 h.1.2.1 h.1.1)<|bK (pY d.1.1) fun h=>bK (agM l j h.1 e) fun o=>m f i (bY .i64 e 1) d.1.2.1 d.1.2.2.1 d.1.1 o.1.2.1 o.1.1) a7)<|p f j l
def Xj:Nat->bU->Int->Int->Bool->Int->(List lD)->iD->(List iI)->Option (alb.den⊕alL.den)
 |0,_,_,_,_,_,_,_,_=>a7
 |n+1,d,e,f,g,h,i,j,l=>afB (Xj n) (fun m o p=>a6 (.inl ((m,()),(o,p,(),())))) (fun q=>a6 (.inr ((q,()),()))) d e f g h i j l
def aKf (n:Nat) (v:ao0.den):=Xj n v.1.1 v.1.2.1 v.1.2.2.1 v.2.1.1 v.2.1.2.1 v.2.2.1 v.2.2.2.1 v.2.2.2.2.1
noncomputable def ayT:dG:=fK aGQ ao0 alb alL (.exit 0) (aKf bV) 6
def adK:SP:=⟨us [ci,.u,.u,fR,.u,.u,.u,.u,.u,.u,.u,.u,.u,.u,.u,.u,.u,.u,.u,.u,.u,.u,.u,.u,.u,.u,.u,.u,.u,.u,.u,cg,cg] 46,cV⟩
def aek:SP:=⟨us [.u,.u,.u,fR] 75,cV⟩
def aeT:SP:=⟨us [.u,.u,.v MW] 76,[]⟩
def fU (d:List iI) (e:Int):=dU d (0,(0,(0,(0,(false,()))))) (dL e)
def kG (d:List iI) (e:Int) (f:bU):=iL d (dL e) ((fU d e).1,((fU d e).2.1,((bM f),((fU d e).2.2.2.1,((fU d e).2.2.2.2.1,())))))
def gz (e:List iI) (d:Int) (f:bU):=dU (kG e d f) (0,(0,(0,(0,(false,()))))) (dL d)
def Vq {j:Type} (l:bU->Int->Int->iD->(List iI)->Option j) (m:iD->(List iI)->Option j) (o:(List iI)->Option j) (f:bU) (h d:Int) (i:iD) (e:List iI):Option j:=cond (gU d h) (cond (fO e d) (cond (pW (dL d) e) (cond ((fU e d).2.2.2.2.1) (cond (pW (dL d) e) (cond (pW (dL d) (kG e d f)) (cond (bZ (gz e d f).1 12) (cond (pW (dL d) (kG e d f)) (cond (pW (dL d) (kG e d f)) (bK (Z8 f (bY .i64 (gz e d f).2.1 1)) fun g=>cond (pW (dL d) (kG e d f)) (cond ((eqN (dL d) (dL d))&&true) (cond ((eqN (dL d) (dL d))&&true) (cond (pW (dL d) (iL (kG e d f) (dL d) ((gz e d f).1,((gz e d f).2.1,((bY .i64 (bY .i64 (gz e d f).2.1 1) g.1),((gz e d f).2.2.2.1,((gz e d f).2.2.2.2.1,()))))))) (cond ((eqN (dL d) (dL d))&&true) (l f h (bY .i64 d 1) i (iL (iL (kG e d f) (dL d) ((gz e d f).1,((gz e d f).2.1,((bY .i64 (bY .i64 (gz e d f).2.1 1) g.1),((gz e d f).2.2.2.1,((gz e d f).2.2.2.2.1,())))))) (dL d) ((dU (iL (kG e d f) (dL d) ((gz e d f).1,((gz e d f).2.1,((bY .i64 (bY .i64 (gz e d f).2.1 1) g.1),((gz e d f).2.2.2.1,((gz e d f).2.2.2.2.1,())))))) (0,(0,(0,(0,(false,()))))) (dL d)).1,((dU (iL (kG e d f) (dL d) ((gz e d f).1,((gz e d f).2.1,((bY .i64 (bY .i64 (gz e d f).2.1 1) g.1),((gz e d f).2.2.2.1,((gz e d f).2.2.2.2.1,())))))) (0,(0,(0,(0,(false,()))))) (dL d)).2.1,((dU (iL (kG e d f) (dL d) ((gz e d f).1,((gz e d f).2.1,((bY .i64 (bY .i64 (gz e d f).2.1 1) g.1),((gz e d f).2.2.2.1,((gz e d f).2.2.2.2.1,())))))) (0,(0,(0,(0,(false,()))))) (dL d)).2.2.1,((dU (iL (kG e d f) (dL d) ((gz e d f).1,((gz e d f).2.1,((bY .i64 (bY .i64 (gz e d f).2.1 1) g.1),((gz e d f).2.2.2.1,((gz e d f).2.2.2.2.1,())))))) (0,(0,(0,(0,(false,()))))) (dL d)).2.2.2.1,(false,()))))))) a7) a7) a7) a7) a7) a7) a7)<|l f h (bY .i64 d 1) i (kG e d f)) a7) a7)<|cond (pW (dL d) e) (cond (bZ (fU e d).1 12) (cond (pW (dL d) e) (cond (pW (dL d) e) (bK (Z8 f (bY .i64 (fU e d).2.1 1)) fun g=>cond (pW (dL d) e) (cond ((eqN (dL d) (dL d))&&true) (cond ((eqN (dL d) (dL d))&&true) (cond (pW (dL d) (iL e (dL d) ((fU e d).1,((fU e d).2.1,((bY .i64 (bY .i64 (fU e d).2.1 1) g.1),((fU e d).2.2.2.1,((fU e d).2.2.2.2.1,()))))))) (cond ((eqN (dL d) (dL d))&&true) (l f h (bY .i64 d 1) i (iL (iL e (dL d) ((fU e d).1,((fU e d).2.1,((bY .i64 (bY .i64 (fU e d).2.1 1) g.1),((fU e d).2.2.2.1,((fU e d).2.2.2.2.1,())))))) (dL d) ((dU (iL e (dL d) ((fU e d).1,((fU e d).2.1,((bY .i64 (bY .i64 (fU e d).2.1 1) g.1),((fU e d).2.2.2.1,((fU e d).2.2.2.2.1,())))))) (0,(0,(0,(0,(false,()))))) (dL d)).1,((dU (iL e (dL d) ((fU e d).1,((fU e d).2.1,((bY .i64 (bY .i64 (fU e d).2.1 1) g.1),((fU e d).2.2.2.1,((fU e d).2.2.2.2.1,())))))) (0,(0,(0,(0,(false,()))))) (dL d)).2.1,((dU (iL e (dL d) ((fU e d).1,((fU e d).2.1,((bY .i64 (bY .i64 (fU e d).2.1 1) g.1),((fU e d).2.2.2.1,((fU e d).2.2.2.2.1,())))))) (0,(0,(0,(0,(false,()))))) (dL d)).2.2.1,((dU (iL e (dL d) ((fU e d).1,((fU e d).2.1,((bY .i64 (bY .i64 (fU e d).2.1 1) g.1),((fU e d).2.2.2.1,((fU e d).2.2.2.2.1,())))))) (0,(0,(0,(0,(false,()))))) (dL d)).2.2.2.1,(false,()))))))) a7) a7) a7) a7) a7) a7) a7)<|l f h (bY .i64 d 1) i e) a7) a7) a7)<|m i e
def Jg:Nat->bU->Int->Int->iD->(List iI)->Option (aek.den⊕aeT.den)
 |0,_,_,_,_,_=>a7
 |n+1,d,e,f,g,h=>Vq (Jg n) (fun i j=>a6 (.inl ((),(i,j,(),())))) (fun l=>a6 (.inr ((l,()),()))) d e f g h
def aEo (n:Nat) (v:adK.den):=Jg n v.1.1 v.1.2.1 v.1.2.2.1 v.2.1 v.2.2.1
noncomputable def aot:dG:=fK aya adK aek aeT (.exit 2) (aEo bV) 12
def arX (e:bU):Option ((List iI)×Unit):=bK (Xj bV e (bM e) 0 true 0 [(0,(0,()))] [] []) fun f=>dO f (fun d=>bK (Jg bV d.1.1 (bM d.2.2.1) 0 d.2.1 d.2.2.1) fun g=>dO g (fun h=>a6 (h.2.2.1,())) (fun i=>a6 (i.1.1,()))) (fun j=>a6 (j.1.1,()))
def aBM:Sum:=⟨[.str],[(.list J5,false)],fun x=>arX x.1⟩
noncomputable def amR:Env:=gZ prog tt [(103,Bq),(108,aAG)] [(67,4,aGQ),(67,10,aya),(67,600002,ayf),(67,600007,aI8)] [(67,4,ayT),(67,10,aot)] [] [(61,aqy),(107,aAF)]
def az6 {d:Type} (a:ao0.den->Option d) (b:alb.den->Option d) (c:alL.den->Option d) (v:ao0.den):Option d:=afB (fun e f g h i j l m=>a ((e,f,g,()),((h,i,()),j,l,m,(),()))) (fun o p q=>b ((o,()),(p,q,(),()))) (aE c) v.1.1 v.1.2.1 v.1.2.2.1 v.2.1.1 v.2.1.2.1 v.2.2.1 v.2.2.2.1 v.2.2.2.2.1
theorem aKW:dY amR 67 aGc ayT:=uz (az6) (h2:=by intros;simp only[az6,aE,afB,dw,dA,bJ,dh,dB])
def ap2 {d:Type} (a:adK.den->Option d) (b:aek.den->Option d) (c:aeT.den->Option d) (v:adK.den):Option d:=Vq (fun e f g h i=>a ((e,f,g,()),(h,i,(),()))) (fun j l=>b ((),(j,l,(),()))) (aE c) v.1.1 v.1.2.1 v.1.2.2.1 v.2.1 v.2.2.1
theorem aE9:dY amR 67 auW aot:=uz (ap2) (h2:=by intros;simp only[ap2,aE,Vq,dw,dA,bJ,dh,dB,fU,kG,gz])
theorem aND:dR amR 67 b67:=oq [aGc,auW] (aD (fM (aKW)) (aD (fM (aE9)) aN))
theorem av1:fH amR:=eB (aD zL (aD asO aN)) [67] (aD ⟨f67,b67,by kernel_rfl,by kernel_rfl,aND⟩ aN) (hx:=(aD YB (aD asN aN)))
theorem YC:dX prog 67 aBM:=sA av1
def axf (d:List lD) (e:Bool) (f:Int):Option (taN×oJ):=cond e (a6 ((d,(e,(f,()))),(true,())))<|some ((d,(e,(f,()))),((bZ (bM d) 0),()))
def aHz:gK:=⟨155,tzD,[],[.bool],fun x y=>axf x.1 x.2.1 x.2.2.1⟩
theorem aBK:eP prog 63 aHz:=qB [] aN
noncomputable def b36:Code:=(f36.body).getD .skip
noncomputable def aF2:Code:=cA (cA (cB (cA (cB (cB (b36))))))
def aGG:eY:=⟨[0,4,8,9,100003],[],[4],[],[2,3],[(2,J4)]⟩
def EE:eY:=⟨[0],[],[],[],[],[]⟩
def aki:eY:=⟨[4],[],[],[],[],[]⟩
def aoP:SP:=⟨us [ci,.u,.u,.u,fS,.u,.u,.u,cg,cg] 12,[db,eI]⟩
def ak0:SP:=⟨us [.u,.u,.u,.u,fS] 17,[db,eI]⟩
def alA:SP:=⟨us [.u,.u,eh,co] 18,[]⟩
def afs {d:Type} (m:bU->Int->Int->Bool->Int->(List lD)->Option d) (o:Bool->Int->(List lD)->Option d) (p:(List lD)->Bool->Option d) (f:bU) (h e:Int) (i:Bool) (j:Int) (l:List lD):Option d:=cond (gU e h) (cond (fO f e) (bK (arW l i j (cO f e)) fun g=>m f h (bY .i64 e 1) g.1.2.1 g.1.2.2.1 g.1.1) a7)<|o i j l
def Xi:Nat->bU->Int->Int->Bool->Int->(List lD)->Option (ak0.den⊕alA.den)
 |0,_,_,_,_,_,_=>a7
 |n+1,d,e,f,g,h,i=>afs (Xi n) (fun j l m=>a6 (.inl ((),((j,l,()),m,())))) (fun o p=>a6 (.inr ((o,p,()),()))) d e f g h i
def aJ4 (n:Nat) (v:aoP.den):=Xi n v.1.1 v.1.2.1 v.1.2.2.1 v.2.1.1 v.2.1.2.1 v.2.2.1
noncomputable def ayJ:dG:=fK aGG aoP ak0 alA (.exit 0) (aJ4 bV) 6
def axb (f:bU):Option ((List lD)×Bool×Unit):=bK (Xi bV f (bM f) 0 true 0 [(0,(0,()))]) fun h=>dO h (fun d=>cond (bZ (bM d.2.2.1) 0) (bK (axf d.2.2.1 d.2.1.1 d.2.1.2.1) fun e=>a6 ([(0,(0,()))],(e.2.1,())))<|bK (pY d.2.2.1) fun e=>bK (axf d.2.2.1 d.2.1.1 d.2.1.2.1) fun i=>a6 (e.1,(i.2.1,()))) (fun g=>a6 (g.1.1,(g.1.2.1,())))
def aBs:Sum:=⟨[.str],[(.list J4,false),(.bool,false)],fun x=>axb x.1⟩
noncomputable def avE:Env:=gZ prog tt [(103,Bq)] [(36,3,aGG),(36,600001,EE),(36,600007,aki)] [(36,3,ayJ)] [] [(61,aqy),(63,aHz)]
def azV {d:Type} (a:aoP.den->Option d) (b:ak0.den->Option d) (c:alA.den->Option d) (v:aoP.den):Option d:=afs (fun e f g h i j=>a ((e,f,g,()),((h,i,()),j,()))) (fun l m o=>b ((),((l,m,()),o,()))) (aL c) v.1.1 v.1.2.1 v.1.2.2.1 v.2.1.1 v.2.1.2.1 v.2.2.1
theorem aKL:dY avE 36 aF2 ayJ:=uz (azV) (h2:=by intros;simp only[azV,aL,afs,dw,dA,bJ,dh,dB])
theorem aNp:dR avE 36 b36:=oq [aF2] (aD (fM (aKL)) aN)
theorem avF:fH avE:=eB (aD zL aN) [36] (aD ⟨f36,b36,by kernel_rfl,by kernel_rfl,aNp⟩ aN) (hx:=(aD YB (aD aBK aN)))
theorem aiG:dX prog 36 aBs:=sA avF
def anh (d:List lD) (e:Bool) (f g:Int):Option (taN×oJ):=bK (Ko g) fun h=>cond (!h.1) (a6 ((d,(e,(f,()))),(false,())))<|cond (bZ (bM d) 1) (a6 ((d,(e,(f,()))),(true,())))<|cond (bZ (bM d) 2) (cond (fO d 1) (cond (pW (dL 1) d) (cond (bZ (dU d (0,(0,())) (dL 1)).1 12) (a6 ((d,(e,(f,()))),((!(bZ g 40)),())))<|some ((d,(e,(f,()))),(false,()))) a7) a7)<|some ((d,(e,(f,()))),(false,()))
def aBc:gK:=⟨155,tzD,[.int .u8],[.bool],fun x y=>anh x.1 x.2.1 x.2.2.1 y.1⟩
theorem atq:eP prog 198 aBc:=qB [] (sE aa9 aN)
noncomputable def aIm:Code:=(f181.body).getD .skip
noncomputable def auG:Code:=cA (cA (cA (cB (cB (cB (aIm))))))
def axU:eY:=⟨[0,1,5,100004],[],[1],[],[4],[]⟩
def adt:SP:=⟨us [ci,cg,.u,.u,.u,fS] 27,[db,eI]⟩
def ad5:SP:=⟨us [.u,cg] 31,[]⟩
def aeE:SP:=⟨us dg 28,[]⟩
def Va {g:Type} (i:bU->Int->Bool->Int->(List lD)->Option g) (j l:Int->Option g) (e:bU) (d:Int) (m:Bool) (o:Int) (p:List lD):Option g:=cond (gU d (bM e)) (cond (fO e d) (bK (anh p m o (cO e d)) fun f=>cond f.2.1 (l d)<|cond (fO e d) (bK (arW f.1.1 f.1.2.1 f.1.2.2.1 (cO e d)) fun h=>i e (bY .i64 d 1) h.1.2.1 h.1.2.2.1 h.1.1) a7) a7)<|j d
def Ov:Nat->bU->Int->Bool->Int->(List lD)->Option (ad5.den⊕aeE.den)
 |0,_,_,_,_,_=>a7
 |n+1,d,e,f,g,h=>Va (Ov n) (fun i=>a6 (.inl ((i,()),()))) (fun j=>a6 (.inr ((j,()),()))) d e f g h
def aD8 (n:Nat) (v:adt.den):=Ov n v.1.1 v.1.2.1 v.2.1.1 v.2.1.2.1 v.2.2.1
noncomputable def aod:dG:=fK axU adt ad5 aeE (.exit 0) (aD8 bV) 6
def agZ (e:bU) (d:Int):Option zN:=cond (gU d 0) (a6 ((-1),()))<|cond (gU (bM e) d) (a6 ((-1),()))<|bK (Ov bV e d true 0 [(0,(0,()))]) fun f=>dO f (fun g=>a6 (g.1.1,())) (fun h=>a6 (h.1.1,()))
def aLQ:Sum:=⟨[.str,cZ],TL,fun x=>agZ x.1 x.2.1⟩
noncomputable def ajA:Env:=gZ prog tt [] [(181,4,axU),(181,600003,zt)] [(181,4,aod)] [] [(198,aBc),(61,aqy)]
def apM {d:Type} (a:adt.den->Option d) (b:ad5.den->Option d) (c:aeE.den->Option d) (v:adt.den):Option d:=Va (fun e f g h i=>a ((e,f,()),((g,h,()),i,()))) (aE b) (aE c) v.1.1 v.1.2.1 v.2.1.1 v.2.1.2.1 v.2.2.1
theorem aET:dY ajA 181 auG aod:=uz (apM) (h2:=by intros;simp only[apM,aE,Va,dw,dA,bJ,dh,dB])
theorem aJC:dR ajA 181 aIm:=oq [auG] (aD (fM (aET)) aN)
theorem ari:fH ajA:=eB aN [181] (aD ⟨f181,aIm,by kernel_rfl,by kernel_rfl,aJC⟩ aN) (hx:=(aD atq (aD YB aN)))
theorem atm:dX prog 181 aLQ:=sA ari
def NR (d:Int):Option YG:=cond (bZ d 9) (a6 ([41,41],()))<|cond (bZ d 13) (cond (bZ d 13) (a6 ([10],()))<|some ([],()))<|cond (bZ d 14) (a6 ([10],()))<|some ([],())
def anj (d:Int):Option YG:=cond (bZ d 1) (cond (bZ d 1) (a6 ([41],()))<|NR d)<|cond (bZ d 3) (cond (bZ d 3) (a6 ([41],()))<|NR d)<|cond (bZ d 2) (cond (bZ d 2) (a6 ([41],()))<|NR d)<|cond (bZ d 10) (cond (bZ d 10) (a6 ([41],()))<|NR d)<|cond (bZ d 11) (a6 ([41],()))<|NR d
def ani (d:Int):Option YG:=cond (bZ d 4) (a6 ([39],()))<|cond (bZ d 5) (a6 ([34],()))<|cond (bZ d 6) (a6 ([96],()))<|cond (bZ d 7) (cond (bZ d 7) (a6 ([125],()))<|anj d)<|cond (bZ d 8) (a6 ([125],()))<|anj d
def aBe:Sum:=⟨[cZ],tzG,fun x=>ani x.1⟩
theorem atr:dX prog 200 aBe:=qA f200 [] aN
noncomputable def abA:Code:=(f182.body).getD .skip
noncomputable def VJ:Code:=(Tryz.f218.body).getD .skip
noncomputable def VT:Code:=cA (cA (cB (VJ)))
def WU:eY:=⟨[0,1,3,168000001],[],[],[],[],[]⟩
def aDG:eY:=⟨[2,5],[],[],[],[],[]⟩
def aDz:eY:=⟨[2,3,5],[],[],[],[],[]⟩
def Sl:eY:=⟨[0,1,3],[],[],[],[],[]⟩
def ET:SQ:=⟨us [.yld 1700014,em,.u,cg] 15,eg,cW⟩
def Ho:SQ:=⟨us [] 19,eg,cW⟩
def Hy:SQ:=⟨us [] 19,eg,[]⟩
def xk {f:Type} (l:Int->bU->bU->(List lD)->iD->Option f) (m:bU->bU->(List lD)->iD->Option f) (o:bU->Option f) (d:Int) (h i:bU) (e:List lD) (g:iD):Option f:=cond (leI 0 d) (cond (fO e d) (bK (ani (dQ e (0,(0,())) d).1) fun j=>cond (eH (cu g (dm j.1)) 1) (cond (bZ (dQ e (0,(0,())) d).1 (dQ e (0,(0,())) d).1) (l (dV .i64 d 1) h i e (cu g (dm j.1))) a7) a7) a7)<|m h i e g
def sK:Nat->Int->bU->bU->(List lD)->iD->Option (Ho.den⊕Hy.den)
 |0,_,_,_,_,_=>a7
 |n+1,d,e,f,g,h=>xk (sK n) (fun i j l m=>a6 (.inl ((),((i,()),(),(),()),((j,()),(l,()),(),m,())))) (fun o=>a6 (.inr ((),((o,()),(),(),()),()))) d e f g h
def ahG (n:Nat) (v:ET.den):=sK n v.1.1 v.2.1.1.1 v.2.2.1.1 v.2.2.2.1.1 v.2.2.2.2.2.1
noncomputable def SH:dG:=fQ WU ET Ho Hy (.exit 0) (ahG bV) 6
def anf (e:bU):Option YG:=bK (axb e) fun d=>bK (sK bV (dV .i64 (bM d.1) 1) [] [] d.1 []) fun f=>dO f (fun g=>a6 ((ofBytes g.2.2.2.2.2.1),())) (fun h=>a7)
def aLR:Sum:=⟨[.str],tzG,fun x=>anf x.1⟩
noncomputable def abY:Env:=gZ prog tt [(36,aBs),(200,aBe)] [(218,1,WU),(182,500005,aDG),(182,600003,aDz),(218,600003,Sl)] [(218,1,SH)] [182]
def Tu {d:Type} (a:ET.den->Option d) (b:Ho.den->Option d) (c:Hy.den->Option d) (v:ET.den):Option d:=xk (fun e f g h i=>a ((e,()),((f,()),(),(),()),((g,()),(h,()),(),i,()))) (fun j l m o=>b ((),((j,()),(),(),()),((l,()),(m,()),(),o,()))) (fun p=>c ((),((p,()),(),(),()),())) v.1.1 v.2.1.1.1 v.2.2.1.1 v.2.2.2.1.1 v.2.2.2.2.2.1
theorem ahY:dY abY 218 VT SH:=lT (Tu) (h2:=by intros;simp only[Tu,xk,dw,dA,bJ,dh,dB])
theorem aJe:jk abA=[]:=by kernel_rfl
theorem aLg:jY abA=[(cA (cA (cB (cA (cB (cB (cB (abA))))))),cB (cA (cB (cA (cB (cB (cB (abA))))))))]:=by kernel_rfl
theorem aJD:dR abY 182 abA:=sG abA (by rw[aLg];exact(aD (fun _=>(show uq 182 5=a6 (cA (cA (cB (cA (cB (cB (cB (abA))))))),cB (cA (cB (cA (cB (cB (cB (abA)))))))) by kernel_rfl)) aN)) (by rw[aJe];exact aN)
theorem akq:dR abY 218 VJ:=oq [VT] (aD (fM (ahY)) aN)
theorem arj:fH abY:=eB (aD aiG (aD atr aN)) [182,218] (aD ⟨f182,abA,by kernel_rfl,by kernel_rfl,aJD⟩ (aD ⟨Tryz.f218,VJ,by kernel_rfl,by kernel_rfl,akq⟩ aN))
theorem atn:dX prog 182 aLR:=sA arj
def aGt (d:Int):Option YG:=cond (bZ d 10) (a6 ([62,124],()))<|cond (bZ d 11) (a6 ([60],()))<|cond (bZ d 12) (a6 ([62],()))<|cond (bZ d 13) (a6 ([38],()))<|cond (bZ d 14) (a6 ([59],()))<|cond (bZ d 15) (a6 ([124],()))<|cond (bZ d 16) (a6 ([40],()))<|cond (bZ d 17) (a6 ([41],()))<|some ([],())
def aLT:Sum:=⟨[cZ],tzG,fun x=>aGt x.1⟩
theorem atp:dX prog 190 aLT:=qA f190 [] aN
def am9 (d:Int):Option YG:=cond (bZ d 1) (a6 ([38,38],()))<|cond (bZ d 2) (a6 ([124,124],()))<|cond (bZ d 3) (a6 ([59,59],()))<|cond (bZ d 4) (a6 ([60,60],()))<|cond (bZ d 5) (a6 ([60,60,45],()))<|cond (bZ d 6) (a6 ([62,62],()))<|cond (bZ d 7) (a6 ([60,38],()))<|cond (bZ d 8) (a6 ([62,38],()))<|cond (bZ d 9) (a6 ([60,62],()))<|bK (aGt d) fun e=>a6 (e.1,())
def aA3:Sum:=⟨[cZ],tzG,fun x=>am9 x.1⟩
theorem atf:dX prog 163 aA3:=qA f163 [] (sE atp aN)
noncomputable def aMv:Code:=(f121.body).getD .skip
noncomputable def auq:Code:=cA (cA (cB (cA (cB (cB (aMv))))))
def acF:eY:=⟨[0,3,100004],[],[],[],[2],[]⟩
def adb:SP:=⟨us [ci,.u,.u,cg] 11,[]⟩
def adS:SP:=⟨us [] 15,[]⟩
def aes:SP:=⟨us eT 12,[]⟩
def Pm {d:Type} (g:bU->Int->Option d) (h:Option d) (i:Int->Option d) (f:bU) (e:Int):Option d:=cond (leI e 17) (bK (am9 e) fun j=>cond (gm j.1 f) (i e)<|g f (bY .i64 e 1)) h
def EF:Nat->bU->Int->Option (adS.den⊕aes.den)
 |0,_,_=>a7
 |n+1,d,e=>Pm (EF n) (a6 (.inl ((),()))) (fun f=>a6 (.inr ((f,()),()))) d e
def aDS (n:Nat) (v:adb.den):=EF n v.1.1 v.1.2.1
noncomputable def anX:dG:=fK acF adb adS aes (.exit 0) (aDS bV) 6
def NK (d:bU):Option zN:=cond (gm d []) (a6 (0,()))<|bK (EF bV d 1) fun e=>dO e (fun g=>a6 (0,())) (fun f=>a6 (f.1.1,()))
def amf:Sum:=⟨[.str],TL,fun x=>NK x.1⟩
noncomputable def ajn:Env:=iW prog tt 121 [(163,aA3)] [(4,acF)] [(4,anX)]
def apv {d:Type} (a:adb.den->Option d) (b:adS.den->Option d) (c:aes.den->Option d) (v:adb.den):Option d:=Pm (aL a) (b ((),())) (aE c) v.1.1 v.1.2.1
theorem aED:dY ajn 121 auq anX:=uz (apv) (h2:=by intros;simp only[apv,aL,aE,Pm,dw,dA,bJ,dh,dB])
theorem aJn:dR ajn 121 aMv:=oq [auq] (aD (fM (aED)) aN)
theorem aq0:fH ajn:=eA f121 (aD atf aN) (aJn)
theorem JH:dX prog 121 amf:=sA aq0
noncomputable def aMA:Code:=(f176.body).getD .skip
noncomputable def auE:Code:=cA (cA (cA (cB (cB (cB (cA (cB (aMA))))))))
def axT:eY:=⟨[0,1,4,5,100004],[],[4,5],[],[4,5],[]⟩
def adr:SP:=⟨us [ci,cg,.u,.u,cg,cg] 35,[]⟩
def ad3:SP:=⟨us [.u,.u,.u,.u,cg,cg] 35,[]⟩
def aeC:SP:=⟨us [.u,.u,.u,.u,cg,cg] 35,[]⟩
def U8 {f:Type} (j:bU->Int->Int->Int->Option f) (i m:Int->Int->Option f) (g:bU) (e l d:Int):Option f:=cond (gU 0 d) (cond (dZ (bM g) e (bY .i64 e d)) (bK (NK (sub g e (bY .i64 e d))) fun h=>cond (!(bZ h.1 0)) (i h.1 d)<|j g e h.1 (dV .i64 d 1)) a7)<|i l d
def Ot:Nat->bU->Int->Int->Int->Option (ad3.den⊕aeC.den)
 |0,_,_,_,_=>a7
 |n+1,d,e,f,g=>U8 (Ot n) (fun h i=>a6 (.inl ((h,i,()),()))) (fun j l=>a6 (.inr ((j,l,()),()))) d e f g
def aD6 (n:Nat) (v:adr.den):=aR (Ot n) v
noncomputable def aob:dG:=fK axT adr ad3 aeC (.exit 0) (aD6 bV) 6
def ane (e:bU) (d:Int):Option lD:=cond (gU d 0) (a6 (0,(0,())))<|cond (leI (bM e) d) (a6 (0,(0,())))<|cond (fO e d) (bK (J9 (cO e d)) fun h=>cond (!(bZ h.1 3)) (a6 (0,(0,())))<|bK (Ot bV e d 0 (LM 3 (dV .i64 (bM e) d))) fun i=>dO i (fun f=>a6 (f.1.1,(f.1.2.1,()))) (fun g=>a6 (g.1.1,(g.1.2.1,())))) a7
def aLN:Sum:=⟨[.str,cZ],tzJ,fun x=>ane x.1 x.2.1⟩
noncomputable def ajy:Env:=iW prog tt 176 [(164,ami),(121,amf)] [(4,axT)] [(4,aob)]
def apK {d:Type} (a:adr.den->Option d) (b:ad3.den->Option d) (c:aeC.den->Option d) (v:adr.den):Option d:=aR (U8 (aM a) (aL b) (aL c)) v
theorem aER:dY ajy 176 auE aob:=uz (apK) (h2:=by intros;simp only[apK,aM,aL,aR,U8,dw,dA,bJ,dh,dB])
theorem aJA:dR ajy 176 aMA:=oq [auE] (aD (fM (aER)) aN)
theorem arf:fH ajy:=eA f176 (aD vF (aD JH aN)) (aJA)
theorem ati:dX prog 176 aLN:=sA arf
def aDj (e d:bU):Option oJ:=cond (leI (bM d) (bM e)) (cond (dZ (bM e) 0 (bM d)) (a6 ((gm (sub e 0 (bM d)) d),())) a7)<|some (false,())
def aOq:Sum:=⟨[.str,.str],KO,fun x=>aDj x.1 x.2.1⟩
theorem aBU:dX prog 80 aOq:=qA f80 [] aN
def ajY (d e:bU):Option oJ:=bK (aDj d e) fun f=>a6 (f.1,())
def aOl:Sum:=⟨[.str,.str],KO,fun x=>ajY x.1 x.2.1⟩
theorem aiJ:dX prog 48 aOl:=qA f48 [] (sE aBU aN)
def agV (d:bU) (e:Int):Option oJ:=cond (dZ (bM d) e (bM d)) (bK (ajY (sub d e (bM d)) [92,10]) fun f=>a6 (f.1,())) a7
def aA6:Sum:=⟨[.str,cZ],KO,fun x=>agV x.1 x.2.1⟩
theorem aba:dX prog 177 aA6:=qA f177 [] (sE aiJ aN)
noncomputable def aMB:Code:=(f178.body).getD .skip
noncomputable def auF:Code:=cA (cA (cA (cB (aMB))))
def acG:eY:=⟨[0,1,100001],[],[1],[],[4],[]⟩
def ads:SP:=⟨us [ci,cg] 23,[]⟩
def ad4:SP:=⟨us [.u,cg] 23,[]⟩
def aeD:SP:=⟨us dg 20,[]⟩
def U9 {f:Type} (g:bU->Int->Option f) (h i:Int->Option f) (e:bU) (d:Int):Option f:=cond (gU d (bM e)) (cond (fO e d) (bK (J9 (cO e d)) fun j=>cond (bZ j.1 1) (g e (bY .i64 d 1))<|bK (agV e d) fun l=>cond l.1 (g e (bY .i64 d 2))<|i d) a7)<|h d
def Ou:Nat->bU->Int->Option (ad4.den⊕aeD.den)
 |0,_,_=>a7
 |n+1,d,e=>U9 (Ou n) (fun f=>a6 (.inl ((f,()),()))) (fun g=>a6 (.inr ((g,()),()))) d e
def aD7 (n:Nat) (v:ads.den):=Ou n v.1.1 v.1.2.1
noncomputable def aoc:dG:=fK acG ads ad4 aeD (.exit 0) (aD7 bV) 6
def agW (d:bU) (e:Int):Option zN:=bK (Ou bV d e) fun f=>dO f (fun g=>a6 (g.1.1,())) (fun h=>a6 (h.1.1,()))
def aLO:Sum:=⟨[.str,cZ],TL,fun x=>agW x.1 x.2.1⟩
noncomputable def ajz:Env:=iW prog tt 178 [(164,ami),(177,aA6)] [(1,acG)] [(1,aoc)]
def apL {d:Type} (a:ads.den->Option d) (b:ad4.den->Option d) (c:aeD.den->Option d) (v:ads.den):Option d:=U9 (aL a) (aE b) (aE c) v.1.1 v.1.2.1
theorem aES:dY ajz 178 auF aoc:=uz (apL) (h2:=by intros;simp only[apL,aL,aE,U9,dw,dA,bJ,dh,dB])
theorem aJB:dR ajz 178 aMB:=oq [auF] (aD (fM (aES)) aN)
theorem arh:fH ajz:=eA f178 (aD vF (aD aba aN)) (aJB)
theorem atj:dX prog 178 aLO:=sA arh
def anl (d:bU) (e:Int):Option zN:=a6 ((ibW d e),())
def aLX:Sum:=⟨[.str,.int .u8],TL,fun x=>anl x.1 x.2.1⟩
theorem atv:dX prog 217 aLX:=qA Tryz.f217 [] (sE (aiQ func235 (by kernel_rfl) (by kernel_rfl) (by kernel_rfl) (by kernel_rfl)) aN)
def ag1 (d:bU) (e:Int):Option zN:=bK (anl d e) fun f=>a6 (f.1,())
def aLU:Sum:=⟨[.str,.int .u8],TL,fun x=>ag1 x.1 x.2.1⟩
theorem abe:dX prog 197 aLU:=qA Tryz.f197 [] (sE atv aN)
def agX (d:bU) (e:Int):Option (Int×Bool×Unit):=cond (dZ (bM d) e (bM d)) (bK (ag1 (sub d e (bM d)) 10) fun f=>cond (leI 0 f.1) (a6 ((bY .i64 e f.1),(true,())))<|some ((bM d),(false,()))) a7
def aA7:Sum:=⟨[.str,cZ],[(.int .i64,false),(.bool,false)],fun x=>agX x.1 x.2.1⟩
theorem abb:dX prog 179 aA7:=qA f179 [] (sE abe aN)
def agY (f:bU) (d:Int):Option zN:=bK (Dk f d) fun e=>cond (gU d (bY .i64 d e.1)) (cond (gU (bY .i64 d e.1) (bM f)) (cond (fO f (bY .i64 d e.1)) (cond (bZ (cO f (bY .i64 d e.1)) 60) (a6 ((bY .i64 d e.1),()))<|cond (fO f (bY .i64 d e.1)) (cond (bZ (cO f (bY .i64 d e.1)) 62) (a6 ((bY .i64 d e.1),()))<|some (d,())) a7) a7)<|some (d,()))<|some (d,())
def aLP:Sum:=⟨[.str,cZ],TL,fun x=>agY x.1 x.2.1⟩
theorem atl:dX prog 180 aLP:=qA f180 [] (sE Rj aN)
def acg (e:bU) (d:Int) (h:lD):Option (oG×Unit):=cond (fO e d) (cond (bZ (cO e d) 10) (a6 ((2,(d,((bY .i64 d 1),(false,())))),()))<|cond (fO e d) (cond (bZ (cO e d) 35) (bK (agX e d) fun g=>a6 ((3,(d,(g.1,(false,())))),()))<|cond (gU 0 h.2.1) (a6 ((4,(d,((bY .i64 d h.2.1),(false,())))),()))<|bK (agY e d) fun g=>cond (gU d g.1) (bK (agY e d) fun f=>a6 ((5,(d,(f.1,(false,())))),()))<|bK (agZ e d) fun f=>cond (dZ (bM e) d f.1) (bK (anf (sub e d f.1)) fun i=>a6 ((6,(d,(f.1,((!(gm i.1 [])),())))),())) a7) a7) a7
def am3 (e:bU) (d:Int):Option (oG×Unit):=bK (ane e d) fun g=>cond (fO e d) (bK (J9 (cO e d)) fun h=>cond (bZ h.1 1) (cond (bZ h.1 1) (bK (agW e d) fun f=>a6 ((1,(d,(f.1,(false,())))),()))<|acg e d g)<|bK (agV e d) fun f=>cond f.1 (bK (agW e d) fun i=>a6 ((1,(d,(i.1,(false,())))),()))<|acg e d g) a7
def aLG:Sum:=⟨[.str,cZ],[(.pair cZ (.pair cZ (.pair cZ tyF)),false)],fun x=>am3 x.1 x.2.1⟩
theorem as8:dX prog 146 aLG:=qA f146 [] (sE ati (sE vF (sE aba (sE atj (sE abb (sE atl (sE atm (sE atn aN))))))))
noncomputable def aMC:Code:=(f213.body).getD .skip
noncomputable def auK:Code:=cA (cA (cA (cB (aMC))))
def axX:eY:=⟨[0,1,100001],[],[0],[],[4],[]⟩
def ady:SP:=⟨us [ci,dv] 15,[]⟩
def ad9:SP:=⟨us [ci] 16,[]⟩
def aeI:SP:=⟨us [.u,.u,.u,.u,ci] 12,[]⟩
def Ve {e:Type} (h:bU->Int->Option e) (f i:bU->Option e) (d:bU) (g:Int):Option e:=cond (gU 0 (bM d)) (cond (fO d 0) (cond (bZ (cO d 0) g) (cond (dZ (bM d) 1 (bM d)) (h (sub d 1 (bM d)) g) a7)<|f d) a7)<|f d
def Oz:Nat->bU->Int->Option (ad9.den⊕aeI.den)
 |0,_,_=>a7
 |n+1,d,e=>Ve (Oz n) (fun f=>a6 (.inl ((f,()),()))) (fun g=>a6 (.inr ((g,()),()))) d e
def aEc (n:Nat) (v:ady.den):=Oz n v.1.1 v.1.2.1
noncomputable def aoh:dG:=fK axX ady ad9 aeI (.exit 0) (aEc bV) 6
def ank (d:bU) (e:Int):Option YG:=bK (Oz bV d e) fun f=>dO f (fun g=>a6 (g.1.1,())) (fun h=>a6 (h.1.1,()))
def aBg:Sum:=⟨[.str,.int .u8],tzG,fun x=>ank x.1 x.2.1⟩
noncomputable def ajE:Env:=iW prog tt 213 [] [(1,axX)] [(1,aoh)]
def apQ {d:Type} (a:ady.den->Option d) (b:ad9.den->Option d) (c:aeI.den->Option d) (v:ady.den):Option d:=Ve (aL a) (aE b) (aE c) v.1.1 v.1.2.1
theorem aEX:dY ajE 213 auK aoh:=uz (apQ) (h2:=by intros;simp only[apQ,aL,aE,Ve,dw,dA,bJ,dh,dB])
theorem aJJ:dR ajE 213 aMC:=oq [auK] (aD (fM (aEX)) aN)
theorem ars:fH ajE:=eA f213 aN (aJJ)
theorem atu:dX prog 213 aBg:=sA ars
noncomputable def aIl:Code:=(f174.body).getD .skip
noncomputable def auD:Code:=cA (cA (cA (cB (cA (cB (aIl))))))
def axS:eY:=⟨[0,1,5,100001],[],[1],[],[6,7],[]⟩
def aDy:eY:=⟨[0,5,8,9,10],[],[],[],[],[]⟩
def adq:SP:=⟨us [ci,cg,.u,.u,.u,cK] 33,eo⟩
def Uz:SP:=⟨us [.u,cg] 37,[]⟩
def UG:SP:=⟨us [.u,.u,.u,.u,.u,.u,cg,co] 31,[]⟩
def DN {g:Type} (d:(Int×Bool×Unit)) (e:bU) (h:Int) (f:bU) (i:Int->Bool->Option g) (j:bU->Int->bU->Bool->Option g) (l:Bool):Option g:=cond d.2.1 (cond (gm (sub e h d.1) f) (i (bY .i64 d.1 1) true)<|j e (bY .i64 d.1 1) f l)<|cond (gm (sub e h d.1) f) (i d.1 true)<|j e d.1 f l
def U7 {l:Type} (i:bU->Int->bU->Bool->Option l) (o:Int->Option l) (j:Int->Bool->Option l) (e:bU) (f:Int) (g:bU) (h:Bool):Option l:=cond (gU f (bM e)) (bK (agX e f) fun d=>cond (dZ (bM e) f d.1) (cond h (cond (gm (sub e f d.1) []) (DN d e f g j i h)<|cond (gm [9] []) (DN d e f g j i h)<|cond (bZ (bM [9]) 1) (cond (fO [9] 0) (cond (gU (cO [9] 0) 128) (cond (fO [9] 0) (bK (ank (sub e f d.1) (cO [9] 0)) fun m=>cond d.2.1 (cond (gm m.1 g) (j (bY .i64 d.1 1) true)<|i e (bY .i64 d.1 1) g h)<|cond (gm m.1 g) (j d.1 true)<|i e d.1 g h) a7) a7) a7) a7)<|DN d e f g j i h) a7)<|o f
def EI:Nat->bU->Int->bU->Bool->Option (Uz.den⊕UG.den)
 |0,_,_,_,_=>a7
 |n+1,d,e,f,g=>U7 (EI n) (fun h=>a6 (.inl ((h,()),()))) (fun i j=>a6 (.inr ((i,j,()),()))) d e f g
def aD5 (n:Nat) (v:adq.den):=EI n v.1.1 v.1.2.1 v.2.1.1 v.2.1.2.1
noncomputable def aoa:dG:=fK axS adq Uz UG (.exit 0) (aD5 bV) 6
def anc (f:bU) (g:Int) (d:bU×oJ):Option (Int×Bool×Unit):=bK (EI bV f g d.1 d.2.1) fun h=>dO h (fun i=>a6 (i.1.1,(false,()))) (fun e=>a6 (e.1.1,(e.1.2.1,())))
def aLM:Sum:=⟨[.str,cZ,Iy],[(.int .i64,false),(.bool,false)],fun x=>anc x.1 x.2.1 x.2.2.1⟩
noncomputable def ajx:Env:=gZ prog tt [(179,aA7),(213,aBg)] [(174,1,axS),(174,600005,aDy)] [(174,1,aoa)] []
def apJ {d:Type} (a:adq.den->Option d) (b:Uz.den->Option d) (c:UG.den->Option d) (v:adq.den):Option d:=U7 (fun e f g h=>a ((e,f,()),((g,h,()),()))) (aE b) (aL c) v.1.1 v.1.2.1 v.2.1.1 v.2.1.2.1
theorem aEQ:dY ajx 174 auD aoa:=uz (apJ) (h2:=by intros;simp only[apJ,aE,aL,U7,dw,dA,bJ,dh,dB,DN])
theorem aJz:dR ajx 174 aIl:=oq [auD] (aD (fM (aEQ)) aN)
theorem ard:fH ajx:=eB (aD abb (aD atu aN)) [174] (aD ⟨f174,aIl,by kernel_rfl,by kernel_rfl,aJz⟩ aN)
theorem ath:dX prog 174 aLM:=sA ard
def ajZ:Option taZ:=a6 (([84],([0],(true,()))),())
def aqv:Sum:=⟨[],tzH,fun x=>ajZ⟩
theorem Yz:dX prog 50 aqv:=qA f50 [] aN
def NS (d:KN) (e:Bool):Option taZ:=a6 ((d.1,(d.2.1,(e,()))),())
def aOr:Sum:=⟨[.pair .str tyL,.bool],tzH,fun x=>NS x.1 x.2.1⟩
theorem YD:dX prog 83 aOr:=qA f83 [] aN
def WI (d:KN) (e:bU):Option taZ:=cond (dZ (bM d.1) 0 (dV .i64 (bM d.1) 1)) (cond (gG (sub d.1 0 (dV .i64 (bM d.1) 1)) e) (a6 (((cu (sub d.1 0 (dV .i64 (bM d.1) 1)) e),(d.2.1,(d.2.2.1,()))),())) a7) a7
def aOs:Sum:=⟨[.pair .str tyL,.str],tzH,fun x=>WI x.1 x.2.1⟩
theorem aiN:dX prog 84 aOs:=qA f84 [] aN
def acp (d:KN):Option taZ:=cond (dZ (bM d.1) 0 (dV .i64 (bM d.1) 1)) (cond (dZ (bM d.2.1) 0 (dV .i64 (bM d.1) 1)) (a6 (((sub d.1 0 (dV .i64 (bM d.1) 1)),((sub d.2.1 0 (dV .i64 (bM d.1) 1)),(d.2.2.1,()))),())) a7) a7
def aOt:Sum:=⟨[.pair .str tyL],tzH,fun x=>acp x.1⟩
theorem YE:dX prog 85 aOt:=qA f85 [] aN
def lC (d:KN) (e:bU):=gm (cu d.1 e) (cu d.1 e)
def nS (d:KN):=oV cZ d.2.1 d.2.1
def zg (d:KN) (e:bU) (f:Int):Option taZ:=cond (gG d.1 e) (cond (gm d.1 d.1) (cond (gm e e) (cond (gG d.1 e) (cond (lC d e) (cond (nS d) (cond (bZ f f) (cond (jP d.2.2.1 d.2.2.1) (cond (eH (cu [] d.2.1) 8) (cond (gm d.1 d.1) (cond (gm e e) (cond (gG d.1 e) (cond (lC d e) (cond (bZ f f) (cond (jP d.2.2.1 d.2.2.1) (cond (gm d.1 d.1) (cond (gm e e) (cond (gG d.1 e) (cond (lC d e) (cond (nS d) (cond (jP d.2.2.1 d.2.2.1) (cond (eH (cu (cu [] d.2.1) [f]) 8) (cond (gm d.1 d.1) (cond (gm e e) (cond (gG d.1 e) (cond (lC d e) (cond (nS d) (cond (bZ f f) (cond (jP d.2.2.1 d.2.2.1) (bK (cond (gm d.1 d.1) (cond (gm e e) (cond (gG d.1 e) (cond (lC d e) (cond (nS d) (cond (jP d.2.2.1 d.2.2.1) (cond (eH (cu [] d.2.1) 8) (cond (gm d.1 d.1) (cond (gm e e) (cond (gG d.1 e) (cond (lC d e) (cond (bZ f f) (cond (jP d.2.2.1 d.2.2.1) (cond (eH (cu (cu [] d.2.1) [f]) 8) (cond (gm d.1 d.1) (cond (gm e e) (cond (gG d.1 e) (cond (lC d e) (cond (nS d) (cond (bZ f f) (cond (jP d.2.2.1 d.2.2.1) (cond (((((gm d.1 d.1)&&((nS d)&&((jP d.2.2.1 d.2.2.1)&&true)))&&((gm e e)&&((bZ f f)&&((gm d.1 d.1)&&((gm e e)&&((lC d e)&&((nS d)&&((bZ f f)&&((jP d.2.2.1 d.2.2.1)&&(((lC d e)&&((jP d.2.2.1 d.2.2.1)&&true))&&true))))))))))&&(((oV cZ [f] [f])&&((oV cZ (cu (cu [] d.2.1) [f]) (cu (cu [] d.2.1) [f]))&&(((lC d e)&&((jP d.2.2.1 d.2.2.1)&&true))&&(((gm d.1 d.1)&&((nS d)&&((jP d.2.2.1 d.2.2.1)&&true)))&&true))))&&true))&&true) (a6 ()) (a7)) (a7)) (a7)) (a7)) (a7)) (a7)) (a7)) (a7)) (a7)) (a7)) (a7)) (a7)) (a7)) (a7)) (a7)) (a7)) (a7)) (a7)) (a7)) (a7)) (a7)) (a7)) fun g=>bK (cond (gm d.1 d.1) (cond (gm e e) (cond (gG d.1 e) (cond (lC d e) (cond (nS d) (cond (jP d.2.2.1 d.2.2.1) (cond (gm d.1 d.1) (cond (gm e e) (cond (gG d.1 e) (cond (lC d e) (cond (nS d) (cond (bZ f f) (cond (jP d.2.2.1 d.2.2.1) (cond (eH (cu [] d.2.1) 8) (cond (gm d.1 d.1) (cond (gm e e) (cond (gG d.1 e) (cond (lC d e) (cond (bZ f f) (cond (jP d.2.2.1 d.2.2.1) (cond (eH (cu (cu [] d.2.1) [f]) 8) (cond (gm d.1 d.1) (cond (gm e e) (cond (gG d.1 e) (cond (lC d e) (cond (nS d) (cond (bZ f f) (cond (jP d.2.2.1 d.2.2.1) (cond (((((gm d.1 d.1)&&((nS d)&&((jP d.2.2.1 d.2.2.1)&&true)))&&((gm e e)&&((bZ f f)&&((gm d.1 d.1)&&((gm e e)&&((lC d e)&&((nS d)&&((bZ f f)&&((jP d.2.2.1 d.2.2.1)&&(((lC d e)&&((jP d.2.2.1 d.2.2.1)&&true))&&true))))))))))&&(((oV cZ [f] [f])&&((oV cZ (cu (cu [] d.2.1) [f]) (cu (cu [] d.2.1) [f]))&&(((lC d e)&&((jP d.2.2.1 d.2.2.1)&&true))&&(((gm d.1 d.1)&&((nS d)&&((jP d.2.2.1 d.2.2.1)&&true)))&&true))))&&true))&&true) (a6 ()) (a7)) (a7)) (a7)) (a7)) (a7)) (a7)) (a7)) (a7)) (a7)) (a7)) (a7)) (a7)) (a7)) (a7)) (a7)) (a7)) (a7)) (a7)) (a7)) (a7)) (a7)) (a7)) (a7)) (a7)) (a7)) (a7)) (a7)) (a7)) (a7)) fun h=>a6 (((cu d.1 e),((cu (cu [] d.2.1) [f]),(d.2.2.1,()))),())) a7) a7) a7) a7) a7) a7) a7) a7) a7) a7) a7) a7) a7) a7) a7) a7) a7) a7) a7) a7) a7) a7) a7) a7) a7) a7) a7) a7) a7
def aLx:Sum:=⟨[.pair .str tyL,.str,cZ],tzH,fun x=>zg x.1 x.2.1 x.2.2.1⟩
theorem aa1:dX prog 133 aLx:=qA f133 [] aN
def aac (d:Int):Option YG:=cond (bZ d 92) (a6 ([88],()))<|cond (bZ d 36) (a6 ([76],()))<|cond (bZ d 96) (a6 ([66],()))<|some ([],())
def aLy:Sum:=⟨[.int .u8],tzG,fun x=>aac x.1⟩
theorem aa2:dX prog 134 aLy:=qA f134 [] aN
noncomputable def b23:Code:=(f23.body).getD .skip
noncomputable def aFU:Code:=cA (cA (cB (cA (cB (b23)))))
def aan:eY:=⟨[0,1,5,100002],[],[],[],[4],[]⟩
def aoH:SP:=⟨us [dv,ci,.u,.u,.u,cg] 11,[]⟩
def akT:SP:=⟨us [] 17,[]⟩
def alr:SP:=⟨us [.u,.u,.u,.u,co] 12,[]⟩
def Yl {d:Type} (h:Int->bU->Int->Option d) (i:Option d) (j:Bool->Option d) (g:Int) (e:bU) (f:Int):Option d:=cond (gU f (bM e)) (cond (fO e f) (cond (bZ (cO e f) g) (j true)<|h g e (bY .i64 f 1)) a7) i
def EJ:Nat->Int->bU->Int->Option (akT.den⊕alr.den)
 |0,_,_,_=>a7
 |n+1,d,e,f=>Yl (EJ n) (a6 (.inl ((),()))) (fun g=>a6 (.inr ((g,()),()))) d e f
def aJW (n:Nat) (v:aoH.den):=ba (EJ n) v
noncomputable def ayB:dG:=fK aan aoH akT alr (.exit 0) (aJW bV) 6
def Dl (d:Int) (e:bU):Option oJ:=bK (EJ bV d e 0) fun f=>dO f (fun h=>a6 (false,())) (fun g=>a6 (g.1.1,()))
def aqi:Sum:=⟨[.int .u8,.str],KO,fun x=>Dl x.1 x.2.1⟩
noncomputable def avr:Env:=iW prog tt 23 [] [(2,aan)] [(2,ayB)]
def azN {d:Type} (a:aoH.den->Option d) (b:akT.den->Option d) (c:alr.den->Option d) (v:aoH.den):Option d:=ba (Yl (a8 a) (b ((),())) (aE c)) v
theorem aKD:dY avr 23 aFU ayB:=uz (azN) (h2:=by intros;simp only[azN,a8,aE,ba,Yl,dw,dA,bJ,dh,dB])
theorem aNi:dR avr 23 b23:=oq [aFU] (aD (fM (aKD)) aN)
theorem avs:fH avr:=eA f23 aN (aNi)
theorem zJ:dX prog 23 aqi:=sA avs
def Qg (d:Int):Option zN:=cond (bZ d 32) (a6 (1,()))<|cond (bZ d 9) (a6 (1,()))<|cond (bZ d 10) (a6 (2,()))<|bK (Dl d [124,38,59,60,62,40,41]) fun e=>cond e.1 (a6 (3,()))<|bK (Dl d [92,39,34,96,36]) fun f=>cond f.1 (a6 (4,()))<|bK (Dl d [65,66,67,68,69,70,71,72,73,74,75,76,77,78,79,80,81,82,83,84,85,86,87,88,89,90,97,98,99,100,101,102,103,104,105,106,107,108,109,110,111,112,113,114,115,116,117,118,119,120,121,122,95]) fun g=>cond g.1 (a6 (5,()))<|bK (Dl d [48,49,50,51,52,53,54,55,56,57]) fun h=>cond h.1 (a6 (6,()))<|some (0,())
def aiE:Sum:=⟨[.int .u8],TL,fun x=>Qg x.1⟩
theorem zK:dX prog 30 aiE:=qA f30 [] (sE zJ aN)
def agU (e:Int):Option oJ:=bK (Qg e) fun d=>cond (bZ d.1 1) (a6 (true,()))<|cond (bZ d.1 2) (a6 (true,()))<|some ((bZ d.1 3),())
def aA4:Sum:=⟨[.int .u8],KO,fun x=>agU x.1⟩
theorem aa7:dX prog 167 aA4:=qA f167 [] (sE zK aN)
def acb (e:Int) (d:KN) (f:Int):Option taZ:=bK (aac e) fun g=>bK (zg (d.1,(d.2.1,(d.2.2.1,()))) g.1 f) fun i=>cond (bZ e e) (bK (NS i.1 false) fun h=>cond ((gm d.1 d.1)&&((oV cZ d.2.1 d.2.1)&&((jP d.2.2.1 d.2.2.1)&&true))) (cond (bZ e e) (cond (bZ f f) (cond (((bZ e e)&&true)&&((gm g.1 g.1)&&true)) (a6 ((h.1.1,(h.1.2.1,(h.1.2.2.1,()))),())) a7) a7) a7) a7) a7
def acd (g h:Int) (d:KN) (i:Int):Option taZ:=cond (bZ g 40) (cond (bZ h 84) (bK (NS (d.1,(d.2.1,(d.2.2.1,()))) true) fun e=>a6 ((e.1.1,(e.1.2.1,(e.1.2.2.1,()))),()))<|bK (zg (d.1,(d.2.1,(d.2.2.1,()))) [80] i) fun e=>bK (NS e.1 true) fun f=>a6 ((f.1.1,(f.1.2.1,(f.1.2.2.1,()))),()))<|cond (bZ g 41) (cond (bZ h 84) (bK (NS (d.1,(d.2.1,(d.2.2.1,()))) true) fun e=>a6 ((e.1.1,(e.1.2.1,(e.1.2.2.1,()))),()))<|bK (acp (d.1,(d.2.1,(d.2.2.1,())))) fun e=>bK (NS e.1 (bZ h 80)) fun f=>a6 ((f.1.1,(f.1.2.1,(f.1.2.2.1,()))),()))<|bK (agU g) fun e=>bK (NS (d.1,(d.2.1,(d.2.2.1,()))) e.1) fun f=>cond (bZ g g) (a6 ((f.1.1,(f.1.2.1,(f.1.2.2.1,()))),())) a7
def amZ (d:KN) (i f g:Int):Option taZ:=cond (bZ f 92) (bK (zg (d.1,(d.2.1,(d.2.2.1,()))) [88] g) fun e=>a6 ((e.1.1,(e.1.2.1,(e.1.2.2.1,()))),()))<|cond (bZ f 39) (bK (zg (d.1,(d.2.1,(d.2.2.1,()))) [83] g) fun e=>bK (NS e.1 false) fun h=>a6 ((h.1.1,(h.1.2.1,(h.1.2.2.1,()))),()))<|cond (bZ f 34) (bK (zg (d.1,(d.2.1,(d.2.2.1,()))) [68] g) fun e=>bK (NS e.1 false) fun h=>a6 ((h.1.1,(h.1.2.1,(h.1.2.2.1,()))),()))<|cond (bZ f 96) (acb f d g)<|cond (bZ f 36) (acb f d g)<|cond (bZ f 35) (cond d.2.2.1 (bK (zg (d.1,(d.2.1,(d.2.2.1,()))) [35] g) fun e=>a6 ((e.1.1,(e.1.2.1,(e.1.2.2.1,()))),()))<|acd f i d g)<|acd f i d g
def aLw:Sum:=⟨[.pair .str tyL,.int .u8,.int .u8,cZ],tzH,fun x=>amZ x.1 x.2.1 x.2.2.1 x.2.2.2.1⟩
theorem as2:dX prog 132 aLw:=qA f132 [] (sE aa7 (sE YD (sE YE (sE aa1 (sE aa2 aN)))))
def Lr (d:KN) (f g h:Int):Option taZ:=bK (amZ (d.1,(d.2.1,(d.2.2.1,()))) f g h) fun e=>a6 ((e.1.1,(e.1.2.1,(e.1.2.2.1,()))),())
def Es (d:KN):Option taZ:=bK (acp (d.1,(d.2.1,(d.2.2.1,())))) fun e=>a6 ((e.1.1,(e.1.2.1,(e.1.2.2.1,()))),())
def Qh (f:Int) (d:KN):Option taZ:=cond (bZ f 41) (bK (WI (d.1,(d.2.1,(d.2.2.1,()))) [69]) fun e=>a6 ((e.1.1,(e.1.2.1,(e.1.2.2.1,()))),()))<|some ((d.1,(d.2.1,(d.2.2.1,()))),())
def Qi (e:Int) (d:KN) (g h:Int):Option taZ:=cond (bZ e 40) (bK (zg (d.1,(d.2.1,(d.2.2.1,()))) [82] g) fun f=>a6 ((f.1.1,(f.1.2.1,(f.1.2.2.1,()))),()))<|cond (bZ e 41) (cond (bZ h 82) (Es d)<|Qh e d)<|Qh e d
def Y4 (d:KN) (g e i:Int):Option taZ:=cond (bZ g 84) (Lr d g e i)<|cond (bZ g 67) (Lr d g e i)<|cond (bZ g 80) (Lr d g e i)<|cond (bZ g 88) (bK (acp (d.1,(d.2.1,(d.2.2.1,())))) fun h=>cond (!(bZ e 10)) (bK (NS (h.1.1,(h.1.2.1,(h.1.2.2.1,()))) false) fun f=>a6 ((f.1.1,(f.1.2.1,(f.1.2.2.1,()))),()))<|some ((h.1.1,(h.1.2.1,(h.1.2.2.1,()))),()))<|cond (bZ g 83) (cond (bZ e 39) (Es d)<|some ((d.1,(d.2.1,(d.2.2.1,()))),()))<|cond (bZ g 35) (cond (bZ e 10) (bK (acp (d.1,(d.2.1,(d.2.2.1,())))) fun h=>bK (NS h.1 true) fun f=>a6 ((f.1.1,(f.1.2.1,(f.1.2.2.1,()))),()))<|some ((d.1,(d.2.1,(d.2.2.1,()))),()))<|cond (bZ g 66) (cond (bZ e 96) (Es d)<|cond (bZ e 92) (bK (zg (d.1,(d.2.1,(d.2.2.1,()))) [88] i) fun h=>a6 ((h.1.1,(h.1.2.1,(h.1.2.2.1,()))),()))<|some ((d.1,(d.2.1,(d.2.2.1,()))),()))<|bK (aac e) fun h=>cond (!(gm h.1 [])) (bK (aac e) fun f=>bK (zg (d.1,(d.2.1,(d.2.2.1,()))) f.1 i) fun j=>cond (bZ e e) (a6 ((j.1.1,(j.1.2.1,(j.1.2.2.1,()))),())) a7)<|cond (bZ g 65) (Qi e d i g)<|cond (bZ g 82) (Qi e d i g)<|cond (bZ g 68) (cond (bZ e 34) (Es d)<|some ((d.1,(d.2.1,(d.2.2.1,()))),()))<|cond (bZ e 34) (bK (zg (d.1,(d.2.1,(d.2.2.1,()))) [68] i) fun f=>a6 ((f.1.1,(f.1.2.1,(f.1.2.2.1,()))),()))<|cond (bZ e 125) (Es d)<|cond (bZ e 39) (cond (bZ g 86) (bK (zg (d.1,(d.2.1,(d.2.2.1,()))) [83] i) fun f=>a6 ((f.1.1,(f.1.2.1,(f.1.2.2.1,()))),()))<|some ((d.1,(d.2.1,(d.2.2.1,()))),()))<|some ((d.1,(d.2.1,(d.2.2.1,()))),())
def aOu:Sum:=⟨[.pair .str tyL,.int .u8,.int .u8,cZ],tzH,fun x=>Y4 x.1 x.2.1 x.2.2.1 x.2.2.2.1⟩
theorem aBX:dX prog 86 aOu:=qA f86 [] (sE YD (sE aiN (sE YE (sE as2 (sE aa1 (sE aa2 aN))))))
def aj0 (d:KN) (g h:Int):Option taZ:=cond (fO d.1 (dV .i64 (bM d.1) 1)) (cond (bZ (cO d.1 (dV .i64 (bM d.1) 1)) 76) (cond (bZ g 40) (bK (WI (d.1,(d.2.1,(d.2.2.1,()))) [79]) fun e=>bK (NS e.1 true) fun f=>a6 ((f.1.1,(f.1.2.1,(f.1.2.2.1,()))),()))<|cond (bZ g 123) (cond (fO d.1 (dV .i64 (bM d.1) 2)) (cond (bZ (cO d.1 (dV .i64 (bM d.1) 2)) 68) (bK (WI (d.1,(d.2.1,(d.2.2.1,()))) [73]) fun e=>a6 ((e.1.1,(e.1.2.1,(e.1.2.2.1,()))),()))<|cond (fO d.1 (dV .i64 (bM d.1) 2)) (cond (bZ (cO d.1 (dV .i64 (bM d.1) 2)) 73) (bK (WI (d.1,(d.2.1,(d.2.2.1,()))) [73]) fun e=>a6 ((e.1.1,(e.1.2.1,(e.1.2.2.1,()))),()))<|bK (WI (d.1,(d.2.1,(d.2.2.1,()))) [86]) fun e=>a6 ((e.1.1,(e.1.2.1,(e.1.2.2.1,()))),())) a7) a7)<|bK (acp (d.1,(d.2.1,(d.2.2.1,())))) fun e=>cond (bZ g 36) (a6 ((e.1.1,(e.1.2.1,(e.1.2.2.1,()))),()))<|cond (fO e.1.1 (dV .i64 (bM e.1.1) 1)) (bK (Y4 (e.1.1,(e.1.2.1,(e.1.2.2.1,()))) (cO e.1.1 (dV .i64 (bM e.1.1) 1)) g h) fun f=>a6 ((f.1.1,(f.1.2.1,(f.1.2.2.1,()))),())) a7)<|cond (bZ (cO d.1 (dV .i64 (bM d.1) 1)) 79) (cond (bZ g 40) (bK (WI (d.1,(d.2.1,(d.2.2.1,()))) [65]) fun e=>bK (NS e.1 false) fun f=>a6 ((f.1.1,(f.1.2.1,(f.1.2.2.1,()))),()))<|bK (WI (d.1,(d.2.1,(d.2.2.1,()))) [67]) fun e=>bK (Y4 (e.1.1,(e.1.2.1,(e.1.2.2.1,()))) 67 g h) fun f=>a6 ((f.1.1,(f.1.2.1,(f.1.2.2.1,()))),()))<|cond (bZ (cO d.1 (dV .i64 (bM d.1) 1)) 69) (cond (bZ g 41) (bK (acp (d.1,(d.2.1,(d.2.2.1,())))) fun e=>a6 ((e.1.1,(e.1.2.1,(e.1.2.2.1,()))),()))<|bK (WI (d.1,(d.2.1,(d.2.2.1,()))) [65]) fun e=>bK (Y4 (e.1.1,(e.1.2.1,(e.1.2.2.1,()))) 65 g h) fun f=>a6 ((f.1.1,(f.1.2.1,(f.1.2.2.1,()))),()))<|bK (Y4 (d.1,(d.2.1,(d.2.2.1,()))) (cO d.1 (dV .i64 (bM d.1) 1)) g h) fun e=>a6 ((e.1.1,(e.1.2.1,(e.1.2.2.1,()))),())) a7
def aqw:Sum:=⟨[.pair .str tyL,.int .u8,cZ],tzH,fun x=>aj0 x.1 x.2.1 x.2.2.1⟩
theorem YA:dX prog 51 aqw:=qA f51 [] (sE YD (sE aiN (sE YE (sE aBX aN))))
noncomputable def b52:Code:=(f52.body).getD .skip
noncomputable def aF5:Code:=cA (cA (cB (cA (cB (b52)))))
def aGJ:eY:=⟨[1,2,5,100002],[],[],[],[4],[]⟩
def aoS:SP:=⟨us [.u,cg,cS,.u,.u,cg] 15,[.box 1000002 49 ek]⟩
def ak3:SP:=⟨us [] 21,[]⟩
def alD:SP:=⟨us dg 16,[]⟩
def afv {e:Type} (h:Int->Int->bU->iD->Bool->Option e) (i:Option e) (j:Int->Option e) (g d:Int) (l:bU) (f:iD) (m:Bool):Option e:=cond (gU d (bM f)) (cond (fO f d) (cond (bZ (dQ f 0 d) g) (j d)<|h g (bY .i64 d 1) l f m) a7) i
def QA:Nat->Int->Int->bU->iD->Bool->Option (ak3.den⊕alD.den)
 |0,_,_,_,_,_=>a7
 |n+1,d,e,f,g,h=>afv (QA n) (a6 (.inl ((),()))) (fun i=>a6 (.inr ((i,()),()))) d e f g h
def aJ7 (n:Nat) (v:aoS.den):=QA n v.1.1 v.1.2.1 v.2.1.1 v.2.1.2.1 v.2.1.2.2.1
noncomputable def ayM:dG:=fK aGJ aoS ak3 alD (.exit 0) (aJ7 bV) 6
def axd (d:KN) (e:Int):Option zN:=bK (QA bV e 1 d.1 d.2.1 d.2.2.1) fun f=>dO f (fun h=>a6 (0,())) (fun g=>a6 (g.1.1,()))
def aHt:Sum:=⟨[.pair .str tyL,cZ],TL,fun x=>axd x.1 x.2.1⟩
noncomputable def avN:Env:=iW prog tt 52 [] [(2,aGJ)] [(2,ayM)]
def azY {d:Type} (a:aoS.den->Option d) (b:ak3.den->Option d) (c:alD.den->Option d) (v:aoS.den):Option d:=afv (fun e f g h i=>a ((e,f,()),((g,h,i,()),()))) (b ((),())) (aE c) v.1.1 v.1.2.1 v.2.1.1 v.2.1.2.1 v.2.1.2.2.1
theorem aKO:dY avN 52 aF5 ayM:=uz (azY) (h2:=by intros;simp only[azY,aE,afv,dw,dA,bJ,dh,dB])
theorem aNv:dR avN 52 b52:=oq [aF5] (aD (fM (aKO)) aN)
theorem avO:fH avN:=eA f52 aN (aNv)
theorem aBC:dX prog 52 aHt:=sA avO
noncomputable def b53:Code:=(f53.body).getD .skip
noncomputable def aF6:Code:=cA (cA (cB (cA (cB (cB (cB (b53)))))))
def aGK:eY:=⟨[0,3,100006],[],[],[],[2],[]⟩
def aoT:SP:=⟨us [dv,.u,.u,cg] 13,[]⟩
def ak4:SP:=⟨us [] 17,[]⟩
def alE:SP:=⟨us eT 14,[]⟩
def al9 {e:Type} (g:Int->Int->Option e) (h:Option e) (i:Int->Option e) (f d:Int):Option e:=cond (gU d 15) (cond (fO [84,67,80,79,83,68,66,86,73,65,82,69,76,88,35] d) (cond (bZ (cO [84,67,80,79,83,68,66,86,73,65,82,69,76,88,35] d) f) (i d)<|g f (bY .i64 d 1)) a7) h
def aky:Nat->Int->Int->Option (ak4.den⊕alE.den)
 |0,_,_=>a7
 |n+1,d,e=>al9 (aky n) (a6 (.inl ((),()))) (fun f=>a6 (.inr ((f,()),()))) d e
def aJ8 (n:Nat) (v:aoT.den):=aky n v.1.1 v.1.2.1
noncomputable def ayN:dG:=fK aGK aoT ak4 alE (.exit 0) (aJ8 bV) 6
def aC9 (d:Int):Option zN:=cond (bZ d 79) (a6 (1,()))<|cond (bZ d 69) (a6 (9,()))<|bK (aky bV d 0) fun e=>dO e (fun g=>a6 (0,())) (fun f=>a6 (f.1.1,()))
def aHu:Sum:=⟨[.int .u8],TL,fun x=>aC9 x.1⟩
noncomputable def avP:Env:=iW prog tt 53 [] [(6,aGK)] [(6,ayN)]
def azZ {d:Type} (a:aoT.den->Option d) (b:ak4.den->Option d) (c:alE.den->Option d) (v:aoT.den):Option d:=al9 (aL a) (b ((),())) (aE c) v.1.1 v.1.2.1
theorem aKP:dY avP 53 aF6 ayN:=uz (azZ) (h2:=by intros;simp only[azZ,aL,aE,al9,dw,dA,bJ,dh,dB])
theorem aNw:dR avP 53 b53:=oq [aF6] (aD (fM (aKP)) aN)
theorem avQ:fH avP:=eA f53 aN (aNw)
theorem aBD:dX prog 53 aHu:=sA avQ
noncomputable def b22:Code:=(f22.body).getD .skip
noncomputable def aFT:Code:=cA (cA (cB (cA (cB (cB (b22))))))
def aoG:SP:=⟨us [ci,.u,.u,cg] 27,[]⟩
def akS:SP:=⟨us [] 31,[]⟩
def alq:SP:=⟨us [.u,.u,co] 28,[]⟩
def afk {f:Type} (g:bU->Int->Option f) (h:Option f) (i:Bool->Option f) (d:bU) (e:Int):Option f:=cond (gU e (bM d)) (cond (fO d e) (bK (Qg (cO d e)) fun j=>cond (!(bZ j.1 5)) (cond (fO d e) (bK (Qg (cO d e)) fun l=>cond (!(bZ l.1 6)) (i false)<|g d (bY .i64 e 1)) a7)<|g d (bY .i64 e 1)) a7) h
def Qu:Nat->bU->Int->Option (akS.den⊕alq.den)
 |0,_,_=>a7
 |n+1,d,e=>afk (Qu n) (a6 (.inl ((),()))) (fun f=>a6 (.inr ((f,()),()))) d e
def aJV (n:Nat) (v:aoG.den):=Qu n v.1.1 v.1.2.1
noncomputable def ayA:dG:=fK acF aoG akS alq (.exit 0) (aJV bV) 6
def acj (d:bU):Option oJ:=cond (bZ (bM d) 0) (a6 (false,()))<|cond (fO d 0) (bK (Qg (cO d 0)) fun e=>cond (!(bZ e.1 5)) (a6 (false,()))<|bK (Qu bV d 1) fun f=>dO f (fun h=>a6 (true,())) (fun g=>a6 (g.1.1,()))) a7
def abh:Sum:=⟨[.str],KO,fun x=>acj x.1⟩
noncomputable def avp:Env:=iW prog tt 22 [(30,aiE)] [(4,acF)] [(4,ayA)]
def azM {d:Type} (a:aoG.den->Option d) (b:akS.den->Option d) (c:alq.den->Option d) (v:aoG.den):Option d:=afk (aL a) (b ((),())) (aE c) v.1.1 v.1.2.1
theorem aKC:dY avp 22 aFT ayA:=uz (azM) (h2:=by intros;simp only[azM,aL,aE,afk,dw,dA,bJ,dh,dB])
theorem aNh:dR avp 22 b22:=oq [aFT] (aD (fM (aKC)) aN)
theorem avq:fH avp:=eA f22 (aD zK aN) (aNh)
theorem Il:dX prog 22 abh:=sA avq
noncomputable def b87:Code:=(f87.body).getD .skip
noncomputable def aGj:Code:=cA (cA (cB (cA (cB (cB (b87))))))
def anE:eY:=⟨[0,1,5,6,100003],[],[5],[],[4],[]⟩
def ao7:SP:=⟨us [ci,cg,.u,.u,.u,cg,cg] 17,[]⟩
def ali:SP:=⟨us [.u,.u,.u,.u,.u,cg] 18,[]⟩
def alS:SP:=⟨us dg 19,[]⟩
def afH {g:Type} (h:bU->Int->Int->Int->Option g) (j m:Int->Option g) (f:bU) (d i e:Int):Option g:=cond (leI e (dV .i64 (bM f) d)) (cond (dZ (bM f) d (bY .i64 d e)) (bK (acj (sub f d (bY .i64 d e))) fun l=>cond l.1 (h f d e (bY .i64 e 1))<|h f d i (bY .i64 e 1)) a7)<|j i
def QF:Nat->bU->Int->Int->Int->Option (ali.den⊕alS.den)
 |0,_,_,_,_=>a7
 |n+1,d,e,f,g=>afH (QF n) (fun h=>a6 (.inl ((h,()),()))) (fun i=>a6 (.inr ((i,()),()))) d e f g
def aKm (n:Nat) (v:ao7.den):=aR (QF n) v
noncomputable def ay0:dG:=fK anE ao7 ali alS (.exit 0) (aKm bV) 6
def aDl (d:bU) (e:Int):Option zN:=bK (QF bV d e 0 1) fun f=>dO f (fun g=>a6 (g.1.1,())) (fun h=>a6 (h.1.1,()))
def aOv:Sum:=⟨[.str,cZ],TL,fun x=>aDl x.1 x.2.1⟩
noncomputable def awh:Env:=iW prog tt 87 [(22,abh)] [(3,anE)] [(3,ay0)]
def aAd {d:Type} (a:ao7.den->Option d) (b:ali.den->Option d) (c:alS.den->Option d) (v:ao7.den):Option d:=aR (afH (aM a) (aE b) (aE c)) v
theorem aK4:dY awh 87 aGj ay0:=uz (aAd) (h2:=by intros;simp only[aAd,aM,aE,aR,afH,dw,dA,bJ,dh,dB])
theorem aNL:dR awh 87 b87:=oq [aGj] (aD (fM (aK4)) aN)
theorem awi:fH awh:=eA f87 (aD Il aN) (aNL)
theorem aBY:dX prog 87 aOv:=sA awi
def aDa (d:bU) (e:Int):Option zN:=bK (aDl d e) fun f=>cond (bZ f.1 0) (cond (gU e (bM d)) (cond (fO d e) (bK (Qg (cO d e)) fun g=>cond (bZ g.1 6) (a6 (1,()))<|cond (fO d e) (bK (Dl (cO d e) [64,42,35,63,45,36,33]) fun h=>cond h.1 (a6 (1,()))<|some (f.1,())) a7) a7)<|some (f.1,()))<|some (f.1,())
def aHv:Sum:=⟨[.str,cZ],TL,fun x=>aDa x.1 x.2.1⟩
theorem aBE:dX prog 54 aHv:=qA f54 [] (sE zK (sE zJ (sE aBY aN)))
noncomputable def b24:Code:=(f24.body).getD .skip
noncomputable def aFV:Code:=cA (cA (cB (cA (cB (cB (b24))))))
noncomputable def auQ:Code:=cA (cA (cB (cA (cB (cB (cB (cA (cA (cB (cA (cA (cB (cA (cB (cB (cB (cB (b24))))))))))))))))))
noncomputable def auR:Code:=cA (cA (cB (cA (cB (cB (cB (cB (cA (cA (cB (cA (cA (cB (cA (cB (cB (cB (cB (b24)))))))))))))))))))
noncomputable def aFW:Code:=cA (cA (cB (cA (cB (cB (cB (cB (b24))))))))
def aGA:eY:=⟨[0,3,4,100003],[],[0,3],[],[2],[(2,J5)]⟩
def ax3:eY:=⟨[0,3,5,6,7,8,9,100014],[],[0,3,5,6,7,8],[],[2],[(2,J5)]⟩
def ax4:eY:=⟨[0,3,5,6,7,8,10,100019],[],[0,3,5,6,8],[],[2],[(2,J5)]⟩
def aGB:eY:=⟨[0,3,5,6,100008],[(5,J5)],[5],[],[2],[(2,J5)]⟩
def aoI:SP:=⟨us [ci,.u,.u,eR,cg] 117,[eb]⟩
def akU:SP:=⟨us [ci,.u,.u,eR] 118,[eb]⟩
def als:SP:=⟨fa,[]⟩
def afl {g:Type} (i:bU->Int->(List KN)->Option g) (j:bU->(List KN)->Option g) (l:(List iI)->Option g) (f:bU) (d:Int) (e:List KN):Option g:=cond (gU d (bM f)) (cond (fO e d) (cond (fO f d) (cond (pW (dL d) e) (bK (aj0 ((dU e ([],([],(false,()))) (dL d)).1,((dU e ([],([],(false,()))) (dL d)).2.1,((dU e ([],([],(false,()))) (dL d)).2.2.1,()))) (cO f d) d) fun h=>cond (eH (cu e [h.1]) 48) (i f (bY .i64 d 1) (cu e [h.1])) a7) a7) a7) a7)<|j f e
def Qv:Nat->bU->Int->(List KN)->Option (akU.den⊕als.den)
 |0,_,_,_=>a7
 |n+1,d,e,f=>afl (Qv n) (fun g h=>a6 (.inl ((g,()),(h,())))) (fun i=>a6 (.inr ((i,()),()))) d e f
def aJX (n:Nat) (v:aoI.den):=Qv n v.1.1 v.1.2.1 v.2.1
noncomputable def ayC:dG:=fK aGA aoI akU als (.exit 0) (aJX bV) 6
def adE:SP:=⟨us [ci,.u,.u,eR,.u,fc,cg,cg,cT,cg] 112,cF⟩
def aef:SP:=⟨us [ci,.u,.u,eR,.u,fc,cg,cg,cT] 113,cF⟩
def aeO:SP:=⟨fa,[]⟩
def Vk {i:Type} (q:bU->Int->Int->Int->Int->Int->Int->Int->Bool->(List iI)->(List KN)->Option i) (u:bU->Int->Int->Int->Int->Int->Int->Bool->(List iI)->(List KN)->Option i) (v:(List iI)->Option i) (j:bU) (d h e l m o s:Int) (p:Bool) (f:List iI) (g:List KN):Option i:=cond (gU e (bM f)) (cond (gU 1 h) (cond (fO f e) (cond (pW (dL e) f) (cond (fO g (bY .i64 d 1)) (cond (pW (dL (bY .i64 d 1)) g) (cond (fO (dU g ([],([],(false,()))) (dL (bY .i64 d 1))).2.1 (dV .i64 h 1)) (cond (bZ (dU f (0,(0,(0,(0,(false,()))))) (dL e)).2.1 (dQ (dU g ([],([],(false,()))) (dL (bY .i64 d 1))).2.1 0 (dV .i64 h 1))) (q j d h (bY .i64 e 1) l m o e p f g)<|q j d h (bY .i64 e 1) l m o s p f g) a7) a7) a7) a7) a7)<|q j d h (bY .i64 e 1) l m o s p f g)<|u j d h l m o s p f g
def Jd:Nat->bU->Int->Int->Int->Int->Int->Int->Int->Bool->(List iI)->(List KN)->Option (aef.den⊕aeO.den)
 |0,_,_,_,_,_,_,_,_,_,_,_=>a7
 |n+1,d,e,f,g,h,i,j,l,m,o,p=>Vk (Jd n) (fun q s u v x y z A B D=>a6 (.inl ((q,s,u,()),((v,x,y,z,A,()),B,D,())))) (fun E=>a6 (.inr ((E,()),()))) d e f g h i j l m o p
def aEi (n:Nat) (v:adE.den):=bb (Jd n) v
noncomputable def aon:dG:=fK ax3 adE aef aeO (.exit 4) (aEi bV) 12
def adF:SP:=⟨us [ci,.u,.u,eR,.u,fc,cg,cg,cT,.u,cg] 111,cF⟩
def aeg:SP:=⟨us [ci,.u,.u,eR,.u,fc,cg,.u,cT] 113,cF⟩
def aeP:SP:=⟨fa,[]⟩
def JA {f:Type} (u:bU->Int->Int->Int->Int->Int->Int->Int->Bool->(List iI)->(List KN)->Option f) (o:bU->Int->Int->Int->Int->Int->Bool->(List iI)->(List KN)->Option f) (y:(List iI)->Option f) (g:bU) (h i d p j q l:Int) (s:Bool) (m:List iI) (e:List KN):Option f:=cond (leI d (bM g)) (cond (fO e d) (cond (pW (dL d) e) (bK (axd ((dU e ([],([],(false,()))) (dL d)).1,((dU e ([],([],(false,()))) (dL d)).2.1,((dU e ([],([],(false,()))) (dL d)).2.2.1,()))) h) fun v=>cond (bZ v.1 0) (o g h p j d l false m e)<|cond (fO e d) (cond (pW (dL d) e) (cond (fO (dU e ([],([],(false,()))) (dL d)).1 i) (bK (aC9 (cO (dU e ([],([],(false,()))) (dL d)).1 i)) fun x=>u g h i (bY .i64 d 1) x.1 j q l s m e) a7) a7) a7) a7) a7)<|o g h p j q l s m e
def EK:Nat->bU->Int->Int->Int->Int->Int->Int->Int->Bool->(List iI)->(List KN)->Option (aeg.den⊕aeP.den)
 |0,_,_,_,_,_,_,_,_,_,_,_=>a7
 |n+1,d,e,f,g,h,i,j,l,m,o,p=>JA (EK n) (fun q s u v x y z A B=>a6 (.inl ((q,s,()),((u,v,x,y,z,()),A,B,())))) (fun D=>a6 (.inr ((D,()),()))) d e f g h i j l m o p
def aEj (n:Nat) (v:adF.den):=bb (EK n) v
noncomputable def aoo:dG:=fK ax4 adF aeg aeP (.exit 6) (aEj bV) 18
def aoJ:SP:=⟨us [ci,.u,.u,eR,.u,fc,cg] 115,[.arr 1800005 J5,eb]⟩
def akV:SP:=⟨us [.u,.u,.u,.u,.u,fc] 116,[.arr 1800005 J5]⟩
def alu:SP:=⟨fa,[]⟩
def afm {i:Type} (j:bU->Int->(List iI)->(List KN)->Option i) (q m:(List iI)->Option i) (h:bU) (f:Int) (l:List iI) (g:List KN):Option i:=cond (gU f (bM h)) (cond (fO g (bY .i64 f 1)) (cond (pW (dL (bY .i64 f 1)) g) (bK (axd ((dU g ([],([],(false,()))) (dL (bY .i64 f 1))).1,((dU g ([],([],(false,()))) (dL (bY .i64 f 1))).2.1,((dU g ([],([],(false,()))) (dL (bY .i64 f 1))).2.2.1,()))) f) fun o=>cond (bZ o.1 0) (j h (bY .i64 f 1) l g)<|bK (Jd bV h f o.1 0 0 f (bM h) (-1) true l g) fun s=>dO s (fun e=>bK (EK bV e.1.1 e.1.2.1 e.1.2.2.1 (bY .i64 e.1.2.1 1) e.2.1.1 e.2.1.2.1 e.2.1.2.2.1 e.2.1.2.2.2.1 e.2.1.2.2.2.2.1 e.2.2.1 e.2.2.2.1) fun u=>dO u (fun d=>cond (bZ d.2.1.1 12) (bK (aDa d.1.1 (bY .i64 d.1.2.1 1)) fun p=>cond (eH (cu d.2.2.1 [(d.2.1.1,(d.2.1.2.1,((bY .i64 (bY .i64 d.1.2.1 1) p.1),(d.2.1.2.2.2.1,(false,())))))]) 40) (j d.1.1 (bY .i64 d.1.2.1 1) (cu d.2.2.1 [(d.2.1.1,(d.2.1.2.1,((bY .i64 (bY .i64 d.1.2.1 1) p.1),(d.2.1.2.2.2.1,(false,())))))]) d.2.2.2.1) a7)<|cond (eH (cu d.2.2.1 [(d.2.1.1,(d.2.1.2.1,(d.2.1.2.2.1,(d.2.1.2.2.2.1,(d.2.1.2.2.2.2.1,())))))]) 40) (j d.1.1 (bY .i64 d.1.2.1 1) (cu d.2.2.1 [(d.2.1.1,(d.2.1.2.1,(d.2.1.2.2.1,(d.2.1.2.2.2.1,(d.2.1.2.2.2.2.1,())))))]) d.2.2.2.1) a7) (fun v=>m v.1.1)) (fun x=>m x.1.1)) a7) a7)<|q l
def LD:Nat->bU->Int->(List iI)->(List KN)->Option (akV.den⊕alu.den)
 |0,_,_,_,_=>a7
 |n+1,d,e,f,g=>afm (LD n) (fun h=>a6 (.inl ((),(h,())))) (fun i=>a6 (.inr ((i,()),()))) d e f g
def aJY (n:Nat) (v:aoJ.den):=LD n v.1.1 v.1.2.1 v.2.1 v.2.2.1
noncomputable def ayD:dG:=fK aGB aoJ akV alu (.exit 2) (aJY bV) 24
def aw8 (e:bU):Option ((List iI)×Unit):=bK ajZ fun f=>bK (Qv bV e 0 [f.1]) fun g=>dO g (fun d=>bK (LD bV d.1.1 0 [] d.2.1) fun h=>dO h (fun i=>a6 (i.2.1,())) (fun j=>a6 (j.1.1,()))) (fun l=>a6 (l.1.1,()))
def aBj:Sum:=⟨[.str],[(.list J5,false)],fun x=>aw8 x.1⟩
noncomputable def ZY:Env:=iW prog tt 24 [(50,aqv),(51,aqw),(52,aHt),(53,aHu),(54,aHv)] [(3,aGA),(14,ax3),(19,ax4),(8,aGB)] [(3,ayC),(14,aon),(19,aoo),(8,ayD)]
def azO {d:Type} (a:aoI.den->Option d) (b:akU.den->Option d) (c:als.den->Option d) (v:aoI.den):Option d:=afl (fun e f g=>a ((e,f,()),(g,()))) (fun h i=>b ((h,()),(i,()))) (aE c) v.1.1 v.1.2.1 v.2.1
theorem aKE:dY ZY 24 aFV ayC:=uz (azO) (h2:=by intros;simp only[azO,aE,afl,dw,dA,bJ,dh,dB])
def apW {d:Type} (a:adE.den->Option d) (b:aef.den->Option d) (c:aeO.den->Option d) (v:adE.den):Option d:=bb (Vk (fun e f g h i j l m o p q=>a ((e,f,g,h,()),((i,j,l,m,o,()),p,q,()))) (fun s u x y z A B D E G=>b ((s,u,x,()),((y,z,A,B,D,()),E,G,()))) (aE c)) v
theorem aE3:dY ZY 24 auQ aon:=uz (apW) (h2:=by intros;simp only[apW,aE,bb,Vk,dw,dA,bJ,dh,dB])
def apX {d:Type} (a:adF.den->Option d) (b:aeg.den->Option d) (c:aeP.den->Option d) (v:adF.den):Option d:=bb (JA (fun e f g h i j l m o p q=>a ((e,f,g,h,()),((i,j,l,m,o,()),p,q,()))) (fun s u x y z A B D E=>b ((s,u,()),((x,y,z,A,B,()),D,E,()))) (aE c)) v
theorem aE4:dY ZY 24 auR aoo:=uz (apX) (h2:=by intros;simp only[apX,aE,bb,JA,dw,dA,bJ,dh,dB])
def azP {d:Type} (a:aoJ.den->Option d) (b:akV.den->Option d) (c:alu.den->Option d) (v:aoJ.den):Option d:=afm (fun e f g h=>a ((e,f,()),(g,h,()))) (fun i=>b ((),(i,()))) (aE c) v.1.1 v.1.2.1 v.2.1 v.2.2.1
theorem aKF:dY ZY 24 aFW ayD:=uz (azP) (h2:=by intros;simp only[azP,aE,afm,dw,dA,bJ,dh,dB])
theorem aNj:dR ZY 24 b24:=oq [aFV,auQ,auR,aFW] (aD (fM (aKE)) (aD (fM (aE3)) (aD (fM (aE4)) (aD (fM (aKF)) aN))))
theorem avt:fH ZY:=eA f24 (aD Yz (aD YA (aD aBC (aD aBD (aD aBE aN))))) (aNj)
theorem aiB:dX prog 24 aBj:=sA avt
noncomputable def b21:Code:=(f21.body).getD .skip
noncomputable def aFS:Code:=cA (cA (cB (cA (cB (cB (b21))))))
def aGz:eY:=⟨[0,2,3,4,100003],[],[2,3],[],[2],[]⟩
def aoF:SP:=⟨us [ci,.u,cS,cw,cg] 14,ff⟩
def akR:SP:=⟨us [.u,.u,cS,cw] 15,ff⟩
def alp:SP:=⟨us [] 19,[]⟩
def afj {e:Type} (o:bU->Int->bU->iD->Bool->bU->Bool->Option e) (p:bU->iD->Bool->bU->Bool->Option e) (q:Option e) (f:bU) (d:Int) (h:bU) (i:iD) (j:Bool) (l:bU) (m:Bool):Option e:=cond (gU d (bM f)) (cond (fO f d) (bK (aj0 (h,(i,(j,()))) (cO f d) d) fun g=>o f (bY .i64 d 1) g.1.1 g.1.2.1 g.1.2.2.1 l m) a7)<|p h i j l m
def Xf:Nat->bU->Int->bU->iD->Bool->bU->Bool->Option (akR.den⊕alp.den)
 |0,_,_,_,_,_,_,_=>a7
 |n+1,d,e,f,g,h,i,j=>afj (Xf n) (fun l m o p q=>a6 (.inl ((),((l,m,o,()),(p,q,()),())))) (a6 (.inr ((),()))) d e f g h i j
def aJU (n:Nat) (v:aoF.den):=Xf n v.1.1 v.1.2.1 v.2.1.1 v.2.1.2.1 v.2.1.2.2.1 v.2.2.1.1 v.2.2.1.2.1
noncomputable def ayz:dG:=fK aGz aoF akR alp (.exit 0) (aJU bV) 6
def aw7 (f:bU):Option taZ:=bK ajZ fun d=>bK (Xf bV f 0 d.1.1 d.1.2.1 d.1.2.2.1 [] false) fun g=>dO g (fun e=>a6 ((e.2.1.1,(e.2.1.2.1,(e.2.1.2.2.1,()))),())) (fun h=>a7)
def aHe:Sum:=⟨[.str],tzH,fun x=>aw7 x.1⟩
noncomputable def avn:Env:=iW prog tt 21 [(50,aqv),(51,aqw)] [(3,aGz)] [(3,ayz)]
def azL {d:Type} (a:aoF.den->Option d) (b:akR.den->Option d) (c:alp.den->Option d) (v:aoF.den):Option d:=afj (fun e f g h i j l=>a ((e,f,()),((g,h,i,()),(j,l,()),()))) (fun m o p q s=>b ((),((m,o,p,()),(q,s,()),()))) (c ((),())) v.1.1 v.1.2.1 v.2.1.1 v.2.1.2.1 v.2.1.2.2.1 v.2.2.1.1 v.2.2.1.2.1
theorem aKB:dY avn 21 aFS ayz:=uz (azL) (h2:=by intros;simp only[azL,afj,dw,dA,bJ,dh,dB])
theorem aNg:dR avn 21 b21:=oq [aFS] (aD (fM (aKB)) aN)
theorem avo:fH avn:=eA f21 (aD Yz (aD YA aN)) (aNg)
theorem aiA:dX prog 21 aHe:=sA avo
noncomputable def aMz:Code:=(f130.body).getD .skip
noncomputable def auy:Code:=cA (cA (cB (cA (cB (cB (aMz))))))
def axP:eY:=⟨[0,5,6,100003],[],[0],[],[4],[]⟩
def adl:SP:=⟨us [ci,.u,.u,.u,.u,cK,cg] 37,[.box 1000005 49 ek]⟩
def Uy:SP:=⟨us [ci] 43,[]⟩
def UF:SP:=⟨us dg 39,[]⟩
def DL {g:Type} (e:bU) (d:Int) (h:bU) (i:iD) (j:Bool) (l:bU->Int->bU->iD->Bool->Option g):Option g:=cond (fO e d) (bK (aj0 (h,(i,(j,()))) (cO e d) d) fun f=>l e (bY .i64 d 1) f.1.1 f.1.2.1 f.1.2.2.1) a7
def U2 {g:Type} (h:bU->Int->bU->iD->Bool->Option g) (m:bU->Option g) (l:Int->Option g) (e:bU) (d:Int) (f:bU) (i:iD) (j:Bool):Option g:=cond (gU d (bM e)) (cond (fO e d) (bK (agU (cO e d)) fun o=>cond o.1 (cond (gm f [84]) (l d)<|cond (gm f [84,76]) (cond (fO e d) (cond (!(bZ (cO e d) 40)) (l d)<|DL e d f i j h) a7)<|DL e d f i j h)<|DL e d f i j h) a7)<|m e
def I9:Nat->bU->Int->bU->iD->Bool->Option (Uy.den⊕UF.den)
 |0,_,_,_,_,_=>a7
 |n+1,d,e,f,g,h=>U2 (I9 n) (fun i=>a6 (.inl ((i,()),()))) (fun j=>a6 (.inr ((j,()),()))) d e f g h
def aD0 (n:Nat) (v:adl.den):=I9 n v.1.1 v.1.2.1 v.2.1.1 v.2.1.2.1 v.2.1.2.2.1
noncomputable def an5:dG:=fK axP adl Uy UF (.exit 0) (aD0 bV) 6
def aab (e:bU) (f:Int):Option zN:=bK ajZ fun d=>bK (I9 bV e f d.1.1 d.1.2.1 d.1.2.2.1) fun g=>dO g (fun h=>a6 ((bM h.1.1),())) (fun i=>a6 (i.1.1,()))
def aAS:Sum:=⟨[.str,cZ],TL,fun x=>aab x.1 x.2.1⟩
noncomputable def ajr:Env:=iW prog tt 130 [(50,aqv),(51,aqw),(167,aA4)] [(3,axP)] [(3,an5)]
def apE {d:Type} (a:adl.den->Option d) (b:Uy.den->Option d) (c:UF.den->Option d) (v:adl.den):Option d:=U2 (fun e f g h i=>a ((e,f,()),((g,h,i,()),()))) (aE b) (aE c) v.1.1 v.1.2.1 v.2.1.1 v.2.1.2.1 v.2.1.2.2.1
theorem aEL:dY ajr 130 auy an5:=uz (apE) (h2:=by intros;simp only[apE,aE,U2,dw,dA,bJ,dh,dB,DL])
theorem aJs:dR ajr 130 aMz:=oq [auy] (aD (fM (aEL)) aN)
theorem aq5:fH ajr:=eA f130 (aD Yz (aD YA (aD aa7 aN))) (aJs)
theorem asZ:dX prog 130 aAS:=sA aq5
end
section
open List renaming length_drop → aU, length_take → aZ
open Go.RowKit
theorem dC {a b:Int} (d: -9223372036854775808<=a+b:=by omega) (h2:a+b<=9223372036854775807:=by omega):bY .i64 a b=a+b:=by
 unfold bY;rw[IntKind.wrap_i64];omega
theorem fV {a b:Int} (d: -9223372036854775808<=a-b:=by omega) (h2:a-b<=9223372036854775807:=by omega):dV .i64 a b=a-b:=by
 unfold dV;rw[IntKind.wrap_i64];omega
theorem aDK {a b:Int}:leI a b=true↔a<=b:=by simp[leI]
theorem aEr {a b:Int}:gU a b=true↔a<b:=by simp[gU]
theorem aCL {a b:Int}:bZ a b=true↔a=b:=by simp[bZ]
theorem aDt {d:Type} {l:List d} {i:Int}:fO l i=true↔0<=i/\i<l.length:=by simp[fO]
theorem aEs {d:Type} {l:List d} {i:Nat}:pW i l=true↔i<l.length:=by simp[pW,TS]
theorem asB {n lo hi:Int}:dZ n lo hi=true↔0<=lo/\lo<=hi/\hi<=n:=by simp[dZ]
theorem bW {d:Type} {b:Bool} {x y:d} (h:b=true):(bif b then x else y)=x:=by rw[h];rfl
theorem dD {d:Type} {b:Bool} {x y:d} (h:b=false):(bif b then x else y)=y:=by rw[h];rfl
theorem lL {a b:Int} (h:a<=b:=by omega):leI a b=true:=aDK.2 h
theorem SB {a b:Int} (h:b<a:=by omega):leI a b=false:=by simp[leI];omega
theorem eX {a b:Int} (h:a<b:=by omega):gU a b=true:=aEr.2 h
theorem jq {a b:Int} (h:b<=a:=by omega):gU a b=false:=by simp[gU];omega
theorem xB {a b:Int} (h: ¬a<=b:=by omega):leI a b=false:=SB
theorem gB {a b:Int} (h: ¬a<b:=by omega):gU a b=false:=jq
theorem dW {a b:Int} (h:a=b:=by omega):bZ a b=true:=aCL.2 h
theorem dJ {a b:Int} (h:a≠b:=by omega):bZ a b=false:=by simp[bZ];exact h
theorem ed {d:Type} {l:List d} {i:Int} (h:0<=i:=by omega) (h2:i<l.length:=by omega):fO l i=true:=aDt.2 ⟨h,h2⟩
theorem sN {d:Type} {l:List d} {i:Nat} (h:i<l.length):pW i l=true:=aEs.2 h
theorem eU {n lo hi:Int} (h:0<=lo:=by omega) (d:lo<=hi:=by omega) (h2:hi<=n:=by omega):dZ n lo hi=true:=asB.2 ⟨h,d,h2⟩
theorem bP {d:Type} {l:List d}:bM l=(l.length:Int):=rfl
theorem dI {n:Nat} (h:n<1000000000000000000000000:=by omega):n<bV:=by unfold bV;omega
theorem mQ {d:Type} {s:List d} {a b:Int} (e:0<=a:=by omega) (f:a<=b:=by omega) (h:b<=s.length:=by omega):(((sub s a b).length:Nat):Int)=b-a:=by
 unfold sub;simp only[aU,aZ];omega
theorem ny {e:Type} {l:List e} {d x:e} {i:Int} (h:i=l.length):dQ (l++[x]) d i=x:=by
 unfold dQ;subst h;simp[List.getD]
end
section
open Option renaming some → a6, none → a7
open List renaming length_append → ai, length_singleton → aI
open Go.RowKit
abbrev gy:=List lI
def lo (s:gy):List lD:=(s.map fun f=>(f.1,f.2,())).reverse
def letter (m:Int):UInt8:=([84,67,80,79,83,68,66,86,73,65,82,69,76,88,35]:bU).getD m.toNat 0
def so (s:gy):bU:=(s.map fun f=>letter f.1).reverse
def po (s:gy):List Int:=(s.map (·.2)).reverse
theorem vM (f:lI) (s:gy):lo (f::s)=lo s++[(f.1,f.2,())]:=by simp[lo]
theorem qx (f:lI) (s:gy):so (f::s)=so s++[letter f.1]:=by simp[so]
theorem vV (f:lI) (s:gy):po (f::s)=po s++[f.2]:=by simp[po]
theorem nC (s:gy):(lo s).length=s.length:=by simp[lo]
theorem Fp (s:gy):(so s).length=s.length:=by simp[so]
theorem XW (s:gy):(po s).length=s.length:=by simp[po]
def FV (b:Int):Bool:=decide (b=32)||decide (b=9)||decide (b=10)||decide (b=124)||decide (b=38)||decide (b=59)||decide (b=60)||decide (b=62)||decide (b=40)||decide (b=41)
def isByte (b:Int):Prop:=0<=b/\b<256
theorem VR {b:Int} (h:isByte b): ∃n:Fin 256,b=((n.val:Nat):Int):=⟨⟨b.toNat,by have:=h.2;have:=h.1;omega⟩,by have:=h.1;simp;omega⟩
theorem nz (s:bU) (i:Int):isByte (cO s i):=by
 grind [cO,isByte,UInt8.toNat_lt]
theorem aMN: ∀n:Fin 256,Ko ((n.val:Nat):Int)=a6 (FV ((n.val:Nat):Int),()):=by decide+kernel
theorem aMO: ∀n:Fin 256,agU ((n.val:Nat):Int)=a6 (FV ((n.val:Nat):Int),()):=by decide+kernel
theorem avg {b:Int} (h:isByte b):Ko b=a6 (FV b,()):=by
 obtain⟨n,rfl⟩:=VR h;exact aMN n
theorem avh {b:Int} (h:isByte b):agU b=a6 (FV b,()):=by
 obtain⟨n,rfl⟩:=VR h;exact aMO n
theorem aaB {d:Type} {l:List d} (x:d) (h:l.length<1000000):dL (dV .i64 (bM (l++[x])) 1)=l.length:=by
 grind [bP,fV,dL]
theorem aaX {d:Type} {l:List d} (x:d) (h:l.length<1000000):sub (l++[x]) 0 (dV .i64 (bM (l++[x])) 1)=l:=by
 have e:(((l++[x]).length:Nat):Int)=l.length+1:=by simp
 rw[bP,e,fV];simp_all [sub]
theorem yM {d:Type} {l:List d} (x:d) (h:l.length<1000000):dV .i64 (bM (l++[x])) 1=l.length:=by
 grind [bP,fV]
theorem apc {s:gy} (hb:s.length<1000000) (fr:Bool) (at_ m:Int):zh (lo s) fr at_ m=a6 ((lo ((m,at_)::s),(fr,(at_,()))),()):=by
 have h:eH (cu (lo s) [(m,(at_,()))]) 16=true:=by
  simp only[eH,cu,ai,nC,aI,decide_eq_true_eq,mD];omega
 unfold zh;rw[h];simp[bZ,cu,vM]
theorem UJ {f g:Int×Int} {r:gy} (hb:(f::g::r).length<1000000) (fr:Bool) (at_:Int):zf (lo (f::g::r)) fr at_=a6 ((lo (g::r),(fr,(at_,()))),()):=by
 have d:(lo (g::r)).length=r.length+1:=by rw[nC];rfl
 have e:r.length+2<1000000:=by simpa using hb
 unfold zf;rw[vM f,yM _ (by omega),bW (eX (by grind [bP])),bW (eU (by omega) (by omega) (by rw[bP];simp;omega))];simp[takeN,dL]
theorem uY {f:Int×Int} {r:gy} (hb:(f::r).length<1000000) (fr:Bool) (at_ m:Int):xA (lo (f::r)) fr at_ m=a6 ((lo ((m,f.2)::r),(fr,(at_,()))),()):=by
 have d:(lo r).length=r.length:=nC r;have e:r.length+1<1000000:=by simpa using hb
 unfold xA;rw[vM f,yM _ (by omega),bW (ed (by omega) (by simp;omega)),bW (sN (by simp[dL]))];simp[dL,dU,iL,vM]
theorem aid {f g:Int×Int} {r:gy} (hb:(f::g::r).length<1000000) (fr:Bool) (at_:Int):am0 (lo (f::g::r)) fr at_=a6 ((lo (f::g::r),(fr,(at_,()))),(g.1,())):=by
 have d:(lo r).length=r.length:=nC r;have h:r.length+2<1000000:=by simpa using hb
 have e:EN (dV .i64 (bM (lo (f::g::r))) 2) 0=r.length:=by
  grind [bP,fV,nC,EN]
 unfold am0;rw[e,vM f,vM g,bW (ed (by omega) (by simp[d];omega)),bW (sN (by simp[dL,d]))];simp_all [dL,dU]
theorem Js {f:Int×Int} {r:gy} (hb:(f::r).length<1000000) (fr:Bool) (c:UInt8):WI (so (f::r),(po (f::r),(fr,()))) [c]=a6 ((so r++[c],(po (f::r),(fr,()))),()):=by
 have d:(so r).length=r.length:=Fp r;have e:r.length+1<1000000:=by simpa using hb
 unfold WI;simp only;rw[qx,aaX _ (by omega),yM _ (by omega),bW (eU (by omega) (by omega) (by rw[bP];simp;omega)),bW (by simp[gG,mD,d];omega)];rfl
theorem ae4 {f:Int×Int} {r:gy} (hb:(f::r).length<1000000) (fr:Bool):acp (so (f::r),(po (f::r),(fr,())))=a6 ((so r,(po r,(fr,()))),()):=by
 have d:(so r).length=r.length:=Fp r;have e:(po r).length=r.length:=XW r;have g:r.length+1<1000000:=by simpa using hb
 unfold acp;simp only;rw[qx,vV,aaX _ (by omega),yM _ (by omega),bW (eU (by omega) (by omega) (by rw[bP];simp;omega)),bW (eU (by omega) (by omega) (by rw[bP];simp;omega))];simp[sub,d,e]
theorem Gw {d:Type} {f:d->d->Bool} (h: ∀x,f x x=true): ∀l:List d,yY f l l=true
 |[]=>rfl
 |x::l=>by simp[yY,h,Gw h l]
theorem Wi: ∀(t:Ty) (x:t.den),eqD t x x=true
 |.unit,_=>rfl
 |.bool,x=>by simp[eqD]
 |.int _,x=>by simp[eqD,bZ]
 |.str,x=>by simp[eqD,gm]
 |.list t,x=>Gw (Wi t) x
 |.pair a b,x=>by simp[eqD,Wi]
theorem iy (t:Ty) (x:List t.den):oV t x x=true:=Gw (Wi t) x
theorem fD (x:Int):bZ x x=true:=by simp[bZ]
theorem kZ (x:bU):gm x x=true:=by simp[gm]
theorem iM (x:Bool):jP x x=true:=by simp[jP]
theorem aFk {s:gy} (hb:s.length<1000000) (fr:Bool) (c:UInt8) (at_:Int):zg (so s,(po s,(fr,()))) [c] at_=a6 ((so s++[c],(po s++[at_],(fr,()))),()):=by
 have e:(so s).length=s.length:=Fp s;have d:(po s).length=s.length:=XW s;have f:gG (so s) [c]=true:=by simp[gG,mD,e];omega
 have g:eH (cu [] (po s)) 8=true:=by simp[eH,cu,mD,d];omega
 have h:eH (cu (cu [] (po s)) [at_]) 8=true:=by simp[eH,cu,mD,d];omega
 (unfold zg;delta nS lC)
 simp_all [fD,kZ,iM,iy,bJ,cu]
theorem UN (a:bU) (b:List Int) (fr d:Bool):NS (a,(b,(fr,()))) d=a6 ((a,(b,(d,()))),()):=rfl
end
section
open Go.RowKit
def BF (s:gy) (b at_:Int):Option gy:=if b=92 then some ((13,at_)::s)else if b=36 then some ((12,at_)::s)else if b=96 then some ((6,at_)::s)else none
def H8 (m:Int) (s:gy) (fr:Bool) (b at_:Int):gy×Bool:=if b=92 then((13,at_)::s,fr)else if b=35/\fr=true then((14,at_)::s,fr)else if b=40 then(if m=0 then s else(2,at_)::s,true)else if b=41 then(if m=0 then s else s.tail, !decide (m=1))else if b=39 then((4,at_)::s,false)else if b=34 then((5,at_)::s,false)else if b=36 then((12,at_)::s,false)else if b=96 then((6,at_)::s,false)else(s,FV b)
def jm (m:Int) (s:gy) (fr:Bool) (b at_:Int):gy×Bool:=
 if m=0\/m=1\/m=2 then H8 m s fr b at_
 else if m=13 then(s.tail,fr&&decide (b=10))
 else if m=4 then(if b=39 then s.tail else s,fr)
 else if m=14 then(if b=10 then(s.tail,true)else(s,fr))
 else if m=6 then(if b=96 then s.tail else if b=92 then(13,at_)::s else s,fr)
 else match BF s b at_ with
  |some d=>(d,fr)
  |none=>
   if m=9\/m=10 then(if b=40 then(10,at_)::s else if b=41 then(if m=10 then s.tail else(11,(s.headD (0,0)).2)::s.tail)else s,fr)
   else(if b=34 then(if m=5 then s.tail else(5,at_)::s)else if b=125/\m≠5 then s.tail else if b=39/\m=7 then(4,at_)::s else s,fr)
def gJ (s:gy) (fr:Bool) (b at_:Int):gy×Bool:=
 match s with
 |[]=>([],fr)
 |f::r=>
  if f.1=12 then
   (if b=40 then((3,f.2)::r,true)
   else if b=123 then((if(r.headD (0,0)).1=5\/(r.headD (0,0)).1=8 then 8 else 7,f.2)::r,fr)
   else if b=36 then(r,fr)
   else jm (r.headD (0,0)).1 r fr b at_)
  else if f.1=3 then(if b=40 then((9,f.2)::r,false)else jm 1 ((1,f.2)::r) fr b at_)
  else if f.1=11 then(if b=41 then(r,fr)else jm 9 ((9,f.2)::r) fr b at_)
  else jm f.1 (f::r) fr b at_
theorem o8 (b:Int):b=10\/b=34\/b=35\/b=36\/b=39\/b=40\/b=41\/b=92\/b=96\/b=123\/b=125\/
  (b≠10/\b≠34/\b≠35/\b≠36/\b≠39/\b≠40/\b≠41/\b≠92/\b≠96/\b≠123/\b≠125):=by omega
theorem iJ (a b:Int):bZ a b=decide (a=b):=by
 rfl
def pst (x:gy×Bool) (at_:Int):(List lD×Bool×Int×Unit):=(lo x.1,(x.2,(at_,())))
def JX (x:gy×Bool):bU×(List Int×oJ):=(so x.1,(po x.1,(x.2,())))
theorem alZ {m:Int} {f:Int×Int} {r:gy} (d:m=0\/((m=1\/m=2)/\ ∃g h,r=g::h)) (hb:(f::r).length<1000000) (fr:Bool) {b:Int} (i:isByte b) (at_:Int):
  aad (lo (f::r)) fr at_ m b=some (pst (H8 m (f::r) fr b at_) at_,()):=by
 have e:=avg i;rcases d with rfl|⟨rfl|rfl,g,r,rfl⟩<;>rcases o8 b with rfl|rfl|rfl|rfl|rfl|rfl|rfl|rfl|rfl|rfl|rfl|⟨j,l,o,p,q,s,u,v,x,y,z⟩<;>cases fr<;>
  simp_all [aad,WF,H8,pst,iJ,apc,UJ,FV,bJ,NM]
theorem aFe {m:Int} {f:Int×Int} {r:gy} (d:m=0\/((m=1\/m=2\/m=4\/m=5\/m=6\/m=7\/m=8\/m=9\/m=10\/m=13\/m=14)/\ ∃g h,r=g::h)) (hb:(f::r).length<1000000) (fr:Bool) {b:Int} (e:isByte b) (at_:Int):
  RP (lo (f::r)) fr at_ m b=some (pst (jm m (f::r) fr b at_) at_,()):=by
 rcases d with rfl|⟨rfl|rfl|d,g,r,rfl⟩
 .simp[RP,jm,iJ,alZ (.inl rfl) hb fr e at_,pst,bJ,Eo]
 .simp[RP,jm,iJ,alZ (.inr ⟨.inl rfl,g,r,rfl⟩) hb fr e at_,pst,bJ,Eo]
 .simp[RP,jm,iJ,alZ (.inr ⟨.inr rfl,g,r,rfl⟩) hb fr e at_,pst,bJ,Eo]
 .rcases d with rfl|rfl|rfl|rfl|rfl|rfl|rfl|rfl|rfl<;>rcases o8 b with rfl|rfl|rfl|rfl|rfl|rfl|rfl|rfl|rfl|rfl|rfl|⟨i,j,l,o,p,q,s,u,v,x,y⟩<;>cases fr<;>
  simp_all [RP,am1,am2,WF,jm,BF,pst,iJ,apc,UJ,uY,bJ,Eo,ace,acf]
def Xe (m:Int):Prop:=m=0\/m=1\/m=2\/m=5\/m=6\/m=7\/m=8\/m=9\/m=10
def iQ:gy->Prop
 |[]=>False
 |[f]=>f.1=0
 |f::g::r=>1<=f.1/\f.1<=14/\Xe g.1/\iQ (g::r)
theorem aMU: ∃k,bV=k+2:=by
 simp_all [bV]
theorem ahT {l:List lD} {x:Int×Int×Unit} (h:l.length<1000000):dU (l++[x]) (0,(0,())) (dL (dV .i64 (bM (l++[x])) 1))=x:=by
 rw[aaB x h];simp[dU]
theorem acu {d:Type} {l:List d} {x:d} (h:l.length<1000000):fO (l++[x]) (dV .i64 (bM (l++[x])) 1)=true:=by
 grind [yM,ed]
theorem aox {d:Type} {l:List d} {x:d} (h:l.length<1000000):pW (dL (dV .i64 (bM (l++[x])) 1)) (l++[x])=true:=by
 simp_all [aaB,sN]
theorem Ba {f:Int×Int} {r:gy} (n:Nat) (e:f.1=0\/((f.1=1\/f.1=2\/f.1=4\/f.1=5\/f.1=6\/f.1=7\/f.1=8\/f.1=9\/f.1=10\/f.1=13\/f.1=14)/\ ∃g h,r=g::h)) (hb:(f::r).length<1000000) (fr:Bool) {b:Int} (i:isByte b) (at_:Int):
  Dy (n+1) b fr at_ (lo (f::r))=some (.inl ((),((),()),(((jm f.1 (f::r) fr b at_).2,at_,()),lo (jm f.1 (f::r) fr b at_).1,()))):=by
 have d:(lo r).length<1000000:=by grind [nC]
 have j:f.1≠12:=by omega
 have l:f.1≠3:=by omega
 have m:f.1≠11:=by omega
 have o:=aFe e hb fr i at_;rw[Dy,Ig];rw[show lo (f::r)=lo r++[(f.1,f.2,())] from vM f r,acu d,aox d,ahT d];simp only[aa,iJ,j,l,m,decide_false,ac];rw[<-vM,o,bJ];rfl
theorem asl {f:Int×Int} {r:gy} (d:iQ (f::r)) (hl:Xe f.1):f.1=0\/((f.1=1\/f.1=2\/f.1=4\/f.1=5\/f.1=6\/f.1=7\/f.1=8\/f.1=9\/f.1=10\/f.1=13\/f.1=14)/\ ∃g e,r=g::e):=by
 cases r with
 |nil=>exact .inl d
 |cons g r=>
  unfold Xe at hl
  grind
theorem ajR {s:gy} (d:iQ s) (hb:s.length<1000000) (fr:Bool) {b:Int} (l:isByte b) {at_:Int} (q:0<=at_) (m:at_<1000000000):arW (lo s) fr at_ b=some (pst (gJ s fr b at_) (at_+1),()):=by
 obtain⟨k,hk⟩:=aMU;cases s with
 |nil=>cases d
 |cons f r=>
 have i:(lo r).length<1000000:=by grind [nC]
 have o:bZ (bM (lo (f::r))) 0=false:=dJ (by rw[bP,nC];simp;omega);have h:bY .i64 at_ 1=at_+1:=dC;unfold arW;rw[o,ac,hk];by_cases hp:f.1=12\/f.1=3\/f.1=11
 .cases r with
  |nil=>have:f.1=0:=d;omega
  |cons g r=>
  have u:=asl d.2.2.2 d.2.2.1;have v:(g::r).length<1000000:=by grind
  rw[show k+2=(k+1)+1 from rfl,Dy,Ig,show lo (f::g::r)=lo (g::r)++[(f.1,f.2,())] from vM f _,acu i,aox i,ahT i,<-vM];rcases hp with e|e|e
  .have hd:ag7 (lo (f::g::r)) fr at_ b=some ((if b=40 then(lo ((3,f.2)::g::r),(true,(at_,())))else if b=123 then(lo ((if g.1=5\/g.1=8 then 8 else 7,f.2)::g::r),(fr,(at_,())))else(lo (g::r),(fr,(at_,())))),(decide (b=40\/b=123\/b=36),())):=by
    by_cases e1:b=40
    .subst e1;simp[ag7,iJ,uY hb,bJ]
    .by_cases e2:b=123
     .subst e2;by_cases e5:g.1=5
      .simp[ag7,iJ,uY hb,aid hb,bJ,e5]
      .by_cases e8:g.1=8<;>simp[ag7,iJ,uY hb,aid hb,bJ,e5,e8]
     .by_cases e3:b=36<;>simp[ag7,iJ,UJ hb,bJ,e1,e2,e3]
   simp only[aa,iJ,e,decide_true];rw[hd,bJ];by_cases e1:b=40\/b=123\/b=36
   .simp only[e1,decide_true,aa,bJ,dO,h];rcases e1 with rfl|rfl|rfl<;>simp[gJ,e,pst,h]
   .have j:b≠40/\b≠123/\b≠36:=by omega
    simp only[j.1,j.2.1,j.2.2,or_self,decide_false,ac,if_false];simp_all [Ba,bJ,dO,gJ,pst]
  .simp only[aa,iJ,e,decide_true,show decide ((3:Int)=12)=false from rfl,ac];by_cases e1:b=40
   .simp_all [uY,bJ,dO,gJ,pst]
   .simp only[e1,decide_false,ac,uY hb,bJ];rw[Ba k (f:=(1,f.2)) (.inr ⟨.inl rfl,g,r,rfl⟩) (by simpa using hb) fr l at_,bJ];simp[dO,gJ,e,e1,pst,h]
  .simp only[aa,iJ,e,decide_true,show decide ((11:Int)=12)=false from rfl,show decide ((11:Int)=3)=false from rfl,ac];by_cases e1:b=41
   .simp_all [UJ,bJ,dO,gJ,pst]
   .simp only[e1,decide_false,ac,uY hb,bJ];rw[Ba k (f:=(9,f.2)) (.inr ⟨by simp,g,r,rfl⟩) (by simpa using hb) fr l at_,bJ];simp[dO,gJ,e,e1,pst,h]
 .have x:f.1=0\/((f.1=1\/f.1=2\/f.1=4\/f.1=5\/f.1=6\/f.1=7\/f.1=8\/f.1=9\/f.1=10\/f.1=13\/f.1=14)/\ ∃g p,r=g::p):=by
   cases r with
   |nil=>exact .inl d
   |cons g r=>have m:=d.1;have y:=d.2.1;grind
  simp_all [Ba,bJ,dO,gJ,pst]
end
section
open Go.RowKit
theorem ap8 (f:lI) (r:gy) (h:r.length<1000000):cO (so (f::r)) (dV .i64 (bM (so (f::r))) 1)=((letter f.1).toNat:Int):=by
 rw[qx,yM _ (by rw[Fp];exact h)];simp[cO,List.getD]
theorem aG7 (f:lI) (r:gy) (h:r.length<1000000):fO (so (f::r)) (dV .i64 (bM (so (f::r))) 1)=true:=by
 rw[qx];exact acu (by rw[Fp];exact h)
theorem aAx (f g:lI) (r:gy) (h:r.length<900000):fO (so (f::g::r)) (dV .i64 (bM (so (f::g::r))) 2)=true/\cO (so (f::g::r)) (dV .i64 (bM (so (f::g::r))) 2)=((letter g.1).toNat:Int):=by
 have d:(((so (f::g::r)).length:Nat):Int)=r.length+2:=by rw[Fp];simp;omega
 rw[bP,d,fV,show((r.length:Int)+2-2)=r.length by omega];refine⟨ed (by omega) (by rw[d];omega), ?_⟩;rw[qx,qx];simp[cO,List.getD,Fp]
theorem lets:letter 0=84/\letter 1=67/\letter 2=80/\letter 3=79/\letter 4=83/\letter 5=68/\letter 6=66/\letter 7=86/\letter 8=73/\letter 9=65/\letter 10=82/\letter 11=69/\letter 12=76/\letter 13=88/\letter 14=35:=by decide
theorem DK {s:gy} (hb:s.length<1000000) (fr:Bool) (m:Int) (c:UInt8) (d:c=letter m) (at_:Int):zg (so s,(po s,(fr,()))) [c] at_=some ((so ((m,at_)::s),(po ((m,at_)::s),(fr,()))),()):=by
 subst d;rw[aFk hb,qx,vV]
theorem al0 {m:Int} {f:Int×Int} {r:gy} (d:m=0\/m=1\/m=2) (hb:(f::r).length<1000000) (fr:Bool) {b:Int} (g:isByte b) (at_:Int):
  amZ (so (f::r),(po (f::r),(fr,()))) ((letter m).toNat:Int) b at_=some (JX (H8 m (f::r) fr b at_),()):=by
 have e:=avh g;have h:=DK hb fr 13 88 rfl at_;have i:=DK hb fr 4 83 rfl at_;have j:=DK hb fr 5 68 rfl at_;have l:=DK hb fr 12 76 rfl at_;have o:=DK hb fr 6 66 rfl at_;have p:=DK hb fr 14 35 rfl at_;have q:=DK hb fr 2 80 rfl at_;have s:=ae4 hb fr;have u:=lets;rcases d with rfl|rfl|rfl<;>rcases o8 b with rfl|rfl|rfl|rfl|rfl|rfl|rfl|rfl|rfl|rfl|rfl|⟨v,x,y,z,A,B,D,E,G,I,J⟩<;>cases fr<;>
  simp_all [amZ,aac,H8,JX,iJ,UN,FV,bJ,kZ,iy,iM,acb,acd]
theorem UL {m:Int} {f:Int×Int} {r:gy} (hf:f.1=m) (e:m=0\/m=1\/m=2\/m=4\/m=5\/m=6\/m=7\/m=8\/m=9\/m=10\/m=13\/m=14) (hb:(f::r).length<1000000) (fr:Bool) {b:Int} (g:isByte b) (at_:Int):
  Y4 (so (f::r),(po (f::r),(fr,()))) ((letter m).toNat:Int) b at_=some (JX (jm m (f::r) fr b at_),()):=by
 have h:=lets;have i:=DK hb fr 13 88 rfl at_;have j:=DK hb fr 12 76 rfl at_;have l:=DK hb fr 6 66 rfl at_;have o:=DK hb fr 10 82 rfl at_;have p:=DK hb fr 5 68 rfl at_;have q:=DK hb fr 4 83 rfl at_;have s:=ae4 hb fr;have tt:=Js hb fr 69;have u:so r++[69]=so ((11,f.2)::r):=by rw[qx];rfl
 have v:po (f::r)=po ((11,f.2)::r):=by simp[vV]
 rcases e with rfl|rfl|rfl|e
 .have d:=al0 (.inl rfl) hb fr g at_;simp[Y4,jm,iJ,bJ,JX,Lr,Es,Qh,Qi]at d ⊢;rw[d];simp[bJ,h]
 .have d:=al0 (.inr (.inl rfl)) hb fr g at_;simp[Y4,jm,iJ,bJ,JX,Lr,Es,Qh,Qi]at d ⊢;rw[d];simp[bJ,h]
 .have d:=al0 (.inr (.inr rfl)) hb fr g at_;simp[Y4,jm,iJ,bJ,JX,Lr,Es,Qh,Qi]at d ⊢;rw[d];simp[bJ,h]
 .rcases e with rfl|rfl|rfl|rfl|rfl|rfl|rfl|rfl|rfl<;>rcases o8 b with rfl|rfl|rfl|rfl|rfl|rfl|rfl|rfl|rfl|rfl|rfl|⟨x,y,z,A,B,D,E,G,I,J,K⟩<;>cases fr<;>
  simp_all [Y4,aac,jm,BF,JX,iJ,UN,bJ,kZ,iy,iM,gm,Lr,Es,Qh,Qi]
end
section
open Go.RowKit
theorem IV {f:Int×Int} {r:gy} (h:iQ (f::r)):0<=f.1/\f.1<=14:=by
 cases r with
 |nil=>have:f.1=0:=h;omega
 |cons g r=>have:=h.1;have:=h.2.1;omega
theorem letter_eq {m:Int} (d:0<=m) (e:m<=14):decide (((letter m).toNat:Int)=76)=decide (m=12)/\decide (((letter m).toNat:Int)=79)=decide (m=3)/\decide (((letter m).toNat:Int)=69)=decide (m=11)/\
  decide (((letter m).toNat:Int)=68)=decide (m=5)/\decide (((letter m).toNat:Int)=73)=decide (m=8):=by
 have:m=0\/m=1\/m=2\/m=3\/m=4\/m=5\/m=6\/m=7\/m=8\/m=9\/m=10\/m=11\/m=12\/m=13\/m=14:=by omega
 rcases this with rfl|rfl|rfl|rfl|rfl|rfl|rfl|rfl|rfl|rfl|rfl|rfl|rfl|rfl|rfl<;>decide
theorem ajS {s:gy} (i:iQ s) (hb:s.length<900000) (fr:Bool) {b:Int} (j:isByte b) (at_:Int):aj0 (so s,(po s,(fr,()))) b at_=some (JX (gJ s fr b at_),()):=by
 cases s with
 |nil=>cases i
 |cons f r=>
 have d:(f::r).length<1000000:=by omega
 have l:r.length<1000000:=by simp at hb;omega
 obtain⟨o,g1⟩:=IV i;obtain⟨p,q,u,-,-⟩:=letter_eq o g1;unfold aj0;simp only;rw[aG7 f r l,ap8 f r l];simp only[aa,iJ,p,q,u];by_cases e:f.1=12
 .cases r with
  |nil=>have:f.1=0:=i;omega
  |cons g r=>
  have E:=i.2.2.1;have v:(g::r).length<1000000:=by omega
  obtain⟨x,y⟩:=IV i.2.2.2;obtain⟨-,-,-,z,A⟩:=letter_eq x y;obtain⟨B,D⟩:=aAx f g r (by simp at hb;omega);simp only[e,decide_true,aa];by_cases e1:b=40
  .subst e1;simp only[decide_true,aa,Js d,bJ,UN];simp[gJ,e,JX,qx,vV,lets]
  .by_cases e2:b=123
   .subst e2;simp only[e1,decide_true,decide_false,aa,ac,B,D,z,A,Js d,bJ]
    grind [gJ,JX,qx,vV,lets]
   .simp only[e1,e2,decide_false,ac,ae4 d,bJ];by_cases e3:b=36
    .simp_all [gJ,JX]
    .simp only[e3,decide_false,ac];rw[aG7 g r (by simp at l;omega),ap8 g r (by simp at l;omega)];have m:g.1=0\/g.1=1\/g.1=2\/g.1=4\/g.1=5\/g.1=6\/g.1=7\/g.1=8\/g.1=9\/g.1=10\/g.1=13\/g.1=14:=by grind [Xe]
     rw[aa,UL rfl m v fr j at_,bJ];simp_all [gJ]
 .simp only[e,decide_false,ac];by_cases e3:f.1=3
  .simp only[e3,decide_true,aa];by_cases e1:b=40
   .subst e1;simp only[decide_true,aa,Js d,bJ,UN];simp[gJ,e3,JX,qx,vV,lets]
   .simp only[e1,decide_false,ac,Js d,bJ];have h:=UL (f:=(1,f.2)) (r:=r) rfl (.inr (.inl rfl)) (by simpa using d) fr j at_;rw[qx,vV]at h;simp only[lets]at h;rw[show((67:Int))=(((67:UInt8).toNat:Nat):Int) from rfl,vV f r,h,bJ]
    grind [gJ]
  .simp only[e3,decide_false,ac];by_cases e11:f.1=11
   .simp only[e11,decide_true,aa];by_cases e1:b=41
    .simp_all [ae4,bJ,gJ,JX]
    .simp only[e1,decide_false,ac,Js d,bJ];have h:=UL (f:=(9,f.2)) (r:=r) rfl (by simp) (by simpa using d) fr j at_;rw[qx,vV]at h;simp only[lets]at h;rw[show((65:Int))=(((65:UInt8).toNat:Nat):Int) from rfl,vV f r,h,bJ]
     grind [gJ]
   .simp only[e11,decide_false,ac];have m:f.1=0\/f.1=1\/f.1=2\/f.1=4\/f.1=5\/f.1=6\/f.1=7\/f.1=8\/f.1=9\/f.1=10\/f.1=13\/f.1=14:=by omega
    rw[UL rfl m d fr j at_,bJ];simp_all [gJ]
theorem ar4 {s:gy} (d:iQ s) (hl: ∃f r,s=f::r/\Xe f.1) {m at_:Int} (e:1<=m) (h2:m<=14):iQ ((m,at_)::s):=by
 obtain⟨f,r,rfl,g⟩:=hl;exact⟨e,h2,g,d⟩
theorem GI {f:Int×Int} {r:gy} (d:iQ (f::r)) (e:r≠[]) {m at_:Int} (h:1<=m) (h2:m<=14):iQ ((m,at_)::r):=by
 cases r with
 |nil=>exact absurd rfl e
 |cons g r=>exact⟨h,h2,d.2.2.1,d.2.2.2⟩
theorem IW {f:Int×Int} {r:gy} (d:iQ (f::r)) (e:r≠[]):iQ r:=by
 cases r with
 |nil=>exact absurd rfl e
 |cons g r=>exact d.2.2.2
theorem qh {f:Int×Int} {r:gy} (d:iQ (f::r)) (h:f.1≠0):r≠[]:=by
 rintro rfl;exact h d
theorem Ew {m:Int} {f:Int×Int} {r:gy} (hf:f.1=m) (d:iQ (f::r)) (p:m≠12/\m≠3/\m≠11) (fr:Bool) (b at_:Int):
  iQ (jm m (f::r) fr b at_).1/\(jm m (f::r) fr b at_).1.length<=(f::r).length+1:=by
 obtain⟨q,g1⟩:=IV d;have j:f.1≠0->r≠[]:=qh d;have l:m=0\/m=1\/m=2\/m=4\/m=5\/m=6\/m=7\/m=8\/m=9\/m=10\/m=13\/m=14:=by omega
 have push: ∀k,Xe f.1->1<=k->k<=14->iQ ((k,at_)::f::r):=fun k o g i=>ar4 d ⟨f,r,rfl,o⟩ g i;have s:m=0\/m=1\/m=2\/m=5\/m=6\/m=7\/m=8\/m=9\/m=10->Xe f.1:=fun h=>by simp_all [Xe]
 have u:m≠0->iQ r:=fun h=>IW d (j (by rw[hf];exact h));have st: ∀k,m≠0->1<=k->k<=14->iQ ((k,f.2)::r):=fun k h g i=>GI d (j (by rw[hf];exact h)) g i;rcases l with e|e|e|e|e|e|e|e|e|e|e|e<;>subst e<;>rcases o8 b with rfl|rfl|rfl|rfl|rfl|rfl|rfl|rfl|rfl|rfl|rfl|⟨g,i,v,x,y,z,A,B,D,E,G⟩<;>cases fr<;>
  simp_all [jm,H8,BF]<;>first|omega|(refine⟨?_,by omega⟩;assumption)
end
section
open List renaming drop_eq_getElem_cons → ay, drop_of_length_le → aB, drop_zero → aJ, eq_nil_of_length_eq_zero → bD
open Go.RowKit
theorem good_step {s:gy} (d:iQ s) (fr:Bool) (b at_:Int):iQ (gJ s fr b at_).1/\(gJ s fr b at_).1.length<=s.length+1:=by
 cases s with
 |nil=>cases d
 |cons f r=>
 simp only[gJ];split
 .rename_i e
  have i:r≠[]:=qh d (by omega);have p: ∀k,1<=k->k<=14->iQ ((k,f.2)::r):=fun k j l=>GI d i j l;have m:=IW d i;split
  .simp_all
  .split
   .grind
   .split
    .grind
    .cases r with
     |nil=>exact absurd rfl i
     |cons g r=>
      have o:=d.2.2.1;have h:=Ew rfl m (by unfold Xe at o;omega) fr b at_
      grind
 .split
  .rename_i e
   have i:r≠[]:=qh d (by omega);split
   .grind [GI]
   .have h:=Ew (f:=(1,f.2)) rfl (GI d i (by omega) (by omega)) (by omega) fr b at_
    assumption
  .split
   .rename_i e
    have i:r≠[]:=qh d (by omega);split
    .grind [IW]
    .have h:=Ew (f:=(9,f.2)) rfl (GI d i (by omega) (by omega)) (by omega) fr b at_
     assumption
   .exact Ew rfl d (by omega) fr b at_
def md (s:gy):List Int:=s.map (·.1)
theorem OO (m:Int) {s d:gy} (h:md s=md d) (fr:Bool) (b a e:Int):md (jm m s fr b a).1=md (jm m d fr b e).1/\(jm m s fr b a).2=(jm m d fr b e).2:=by
 have f:md s.tail=md d.tail:=by
  have:=congrArg List.tail h;simpa [md] using this
 have g:m=0\/m=1\/m=2\/m=4\/m=5\/m=6\/m=7\/m=9\/m=10\/m=13\/m=14\/(m≠0/\m≠1/\m≠2/\m≠4/\m≠5/\m≠6/\m≠7/\m≠9/\m≠10/\m≠13/\m≠14):=by omega
 have i: ∀k (p q:Int),md ((k,p)::s)=md ((k,q)::d):=fun k p q=>by simp_all [md]
 have hd: ∀k (p q:Int),md ((k,p)::s.tail)=md ((k,q)::d.tail):=fun k p q=>by simp_all [md]
 rcases g with rfl|rfl|rfl|rfl|rfl|rfl|rfl|rfl|rfl|rfl|rfl|⟨j,l,o,u,v,x,y,z,A,B,D⟩<;>rcases o8 b with rfl|rfl|rfl|rfl|rfl|rfl|rfl|rfl|rfl|rfl|rfl|⟨E,G,I,J,K,L,M,N,O,S,U⟩<;>cases fr<;>
  simp_all [jm,H8,BF]<;>first|exact h|exact f|exact i _ _ _|exact hd _ _ _
theorem aEt {s d:gy} (h:md s=md d) (fr:Bool) (b a i:Int):md (gJ s fr b a).1=md (gJ d fr b i).1/\(gJ s fr b a).2=(gJ d fr b i).2:=by
 cases s with
 |nil=>cases d with
  |nil=>exact⟨rfl,rfl⟩
  |cons _ _=>simp[md]at h
 |cons f r=>cases d with
  |nil=>simp[md]at h
  |cons f' e=>
   have j:f.1=f'.1:=by simp_all [md]
   have g:md r=md e:=by simp_all [md]
   have l:(r.headD (0,0)).1=(e.headD (0,0)).1:=by
    cases r<;>cases e<;>simp[md]at g ⊢;exact g.1
   have m: ∀k (p q:Int),md ((k,p)::r)=md ((k,q)::e):=fun k p q=>by simp_all [md]
   simp only[gJ,<-j,<-l];split
   .split
    .grind
    .split
     .grind
     .split
      .exact⟨g,rfl⟩
      grind [OO]
   .split
    .split
     .grind
     grind [OO]
    .split
     .split
      .exact⟨g,rfl⟩
      grind [OO]
     grind [OO]
def jI (b:UInt8):Int:=(b.toNat:Int)
def ja:bU->Int->gy×Bool->gy×Bool
 |[],_,x=>x
 |b::l,a,x=>ja l (a+1) (gJ x.1 x.2 (jI b) a)
def eQ:gy×Bool:=([(0,0)],true)
theorem jQ:iQ eQ.1:=rfl
theorem drop_at {s:List UInt8} {i:Int} (d:0<=i) (h:i<s.length): ∃b,s.drop i.toNat=b::s.drop (i+1).toNat/\cO s i=jI b:=by
 have e:i.toNat<s.length:=by omega
 refine⟨s[i.toNat], ?_, ?_⟩
 .grind [ay]
 simp_all [cO,jI]
theorem Nq {s:List UInt8} {i:Int} (h:s.length<=i:=by omega):s.drop i.toNat=[]:=aB (by omega)
theorem aG2 (s:bU) (j:s.length<=100000): ∀(N:Nat) (i:Int) (x:gy×Bool),(s.length:Int)-i<N->0<=i->i<=s.length->iQ x.1->(x.1.length:Int)<=i+1->
  Xi N s (bM s) i x.2 i (lo x.1)=some (.inl ((),(((ja (s.drop i.toNat) i x).2,(s.length:Int),()),lo (ja (s.drop i.toNat) i x).1,())))
 |0,i,x,h,_,_,_,_=>by omega
 |N+1,i,x,h,d,m,f,o=>by
  rw[Xi,afs];by_cases e:i<s.length
  .obtain⟨b,hd,l⟩:=drop_at d e;rw[bW (eX (b:=bM s) e),bW (ed d e),ajR f (by omega) x.2 (nz s i) d (by omega),bJ,hd,ja,<-l];simp only[pst];rw[dC];have g:=good_step f x.2 (cO s i) i;exact aG2 s j N (i+1) (gJ x.1 x.2 (cO s i) i) (by omega) (by omega) (by omega) g.1 (by have:=g.2;omega)
  .have p:i=s.length:=by omega
   simp_all [jq,bP,ja]
theorem aG3 (s:bU) (m:s.length<=100000) (d:bU) (f:Bool): ∀(N:Nat) (i:Int) (x:gy×Bool),(s.length:Int)-i<N->0<=i->i<=s.length->iQ x.1->(x.1.length:Int)<=i+1->
  Xf N s i (so x.1) (po x.1) x.2 d f=some (.inl ((),((so (ja (s.drop i.toNat) i x).1,po (ja (s.drop i.toNat) i x).1,(ja (s.drop i.toNat) i x).2,()),(d,f,()),())))
 |0,i,x,h,_,_,_,_=>by omega
 |N+1,i,x,h,g,p,j,q=>by
  rw[Xf,afj];by_cases e:i<s.length
  .obtain⟨b,hd,o⟩:=drop_at g e;rw[bW (eX (b:=bM s) e),bW (ed g e),ajS j (by omega) x.2 (nz s i) i,bJ,hd,ja,<-o];simp only[JX];rw[dC];have l:=good_step j x.2 (cO s i) i;exact aG3 s m d f N (i+1) (gJ x.1 x.2 (cO s i) i) (by omega) (by omega) (by omega) l.1 (by have:=l.2;omega)
  simp_all [jq,bP,Nq,ja]
theorem zl: ∀(l:bU) (a:Int) (x:gy×Bool),iQ x.1->iQ (ja l a x).1/\(ja l a x).1.length<=x.1.length+l.length
 |[],a,x,h=>⟨h,by simp[ja]⟩
 |b::l,a,x,h=>by
  have d:=good_step h x.2 (jI b) a;have e:=zl l (a+1) (gJ x.1 x.2 (jI b) a) d.1
  grind [ja]
theorem RH {n:Nat} (h:n<=1000000000:=by omega):n<bV:=by unfold bV;omega
theorem aFL (s:bU) (f:s.length<=100000):axb s=some (lo (ja s 0 eQ).1,((ja s 0 eQ).2,())):=by
 have h:=aG2 s f bV 0 eQ (by have:=RH (n:=s.length) (by omega);omega) (by omega) (by omega) jQ (by simp[eQ]);have d:=zl s 0 eQ jQ;unfold axb;rw[show([(0,(0,()))]:List lD)=lo eQ.1 from rfl,show(true:Bool)=eQ.2 from rfl,h,bJ];simp only[dO,Int.toNat_zero,aJ];have g:(lo (ja s 0 eQ).1).length≠0:=by
  rw[nC];intro e;rw[bD e]at d;exact d.1
 rw[dD (dJ (by rw[bP];omega))];have i:pY (lo (ja s 0 eQ).1)=some (lo (ja s 0 eQ).1,()):=by
  unfold pY uF;have:eH (lo (ja s 0 eQ).1) 16=true:=by
   have:=d.2;have j:eQ.1.length=1:=rfl;simp only[eH,nC,decide_eq_true_eq,mD];omega
  rw[this];rfl
 rw[i,bJ];cases hf:(ja s 0 eQ).2 with
 |true=>simp[axf,bJ]
 |false=>simp[axf,bJ,iJ,bP,g]
theorem aFM (s:bU) (d:s.length<=100000):aw7 s=some (JX (ja s 0 eQ),()):=by
 have h:=aG3 s d [] false bV 0 eQ (by have:=RH (n:=s.length) (by omega);omega) (by omega) (by omega) jQ (by simp[eQ]);unfold aw7;rw[show ajZ=some ((so eQ.1,(po eQ.1,(eQ.2,()))),()) from rfl,bJ];simp_all [bJ,dO,JX]<;>rfl
end
section
open Option renaming some → a6, none → a7
open Bool renaming false_eq_true → ag, not_true → ak, not_false → az, and_true → aA
open List renaming length_cons → aS
open Nat renaming le_refl → ae
open Go.RowKit
def uB (s:gy) (b:Int):Bool:=FV b&&(match s with
 |[_]=>true
 |[f,_]=>decide (f.1=12)&& !decide (b=40)
 |_=>false)
def Gh:bU->Int->gy×Bool->Nat
 |[],_,_=>0
 |b::l,a,x=>if uB x.1 (jI b)then 0 else Gh l (a+1) (gJ x.1 x.2 (jI b) a)+1
theorem amL: ∀(l:bU) (a:Int) (x:gy×Bool),Gh l a x<=l.length
 |[],_,_=>ae _
 |b::l,a,x=>by
  simp only[Gh,aS];split
  .omega
  .have:=amL l (a+1) (gJ x.1 x.2 (jI b) a);omega
theorem avf {s d:gy} (h:md s=md d) (b:Int):uB s b=uB d b:=by
 match s,d with
 |[],[]=>rfl
 |[_],[_]=>rfl
 |[f,_],[e,_]=>simp_all [md,uB]
 |_::_::_::_,_::_::_::_=>rfl
 |[],_::_=>simp[md]at h
 |_::_,[]=>simp[md]at h
 |[_],_::_::_=>simp[md]at h
 |_::_::_,[_]=>simp[md]at h
 |[_,_],_::_::_::_=>simp[md]at h
 |_::_::_::_,[_,_]=>simp[md]at h
theorem amM: ∀(l:bU) (a d:Int) (x e:gy×Bool),md x.1=md e.1->x.2=e.2->Gh l a x=Gh l d e
 |[],_,_,_,_,_,_=>rfl
 |b::l,a,d,x,e,f,h=>by
  have g:=aEt f x.2 (jI b) a d;simp only[Gh,avf f,<-h];rw[amM l (a+1) (d+1) _ _ g.1 g.2]
theorem aCI {s:gy} (d:iQ s) (hb:s.length<1000000) (fr:Bool) (at_:Int) {b:Int} (e:isByte b):anh (lo s) fr at_ b=a6 ((lo s,(fr,(at_,()))),(uB s b,())):=by
 unfold anh;rw[avg e,bJ];cases he:FV b with
 |false=>simp[uB,he]
 |true=>
  match s with
  |[]=>cases d
  |[f]=>simp[uB,he,iJ,bP,lo]
  |[f,g]=>
   have i:fO (lo [f,g]) 1=true:=ed (by omega) (by simp[lo]);have j:pW (dL 1) (lo [f,g])=true:=sN (by simp[lo,dL]);have l:dU (lo [f,g]) (0,(0,())) (dL 1)=(f.1,f.2,()):=by rfl
   have m:(lo [f,g]).length=2:=by simp[lo]
   simp only[iJ,bP,i,j,l,m,aa]
   grind [uB]
  |f::g::h::r=>
   grind [nC,iJ,bP,uB]
theorem avc (s:bU) (j:s.length<=100000): ∀(N:Nat) (i a:Int) (x:gy×Bool),(s.length:Int)-i<N->0<=i->i<=s.length->0<=a->a<=i->iQ x.1->(x.1.length:Int)<=a+1->
  ∃o,Ov N s i x.2 a (lo x.1)=a6 o/\dO o (fun l=>a6 (l.1.1,())) (fun m=>a6 (m.1.1,()))=a6 (i+Gh (s.drop i.toNat) a x,())
 |0,i,a,x,h,_,_,_,_,_,_=>by omega
 |N+1,i,a,x,h,d,q,u,v,f,y=>by
  rw[Ov,Va];by_cases e:i<s.length
  .obtain⟨b,hd,p⟩:=drop_at d e;rw[bW (eX (b:=bM s) e),bW (ed d e),aCI f (by omega) x.2 a (nz s i),bJ,hd,Gh,<-p];cases hw:uB x.1 (cO s i)with
   |true=>exact⟨_,rfl,by simp[dO]⟩
   |false=>
    simp only[ac,ag,if_false];rw[bW (ed d e),ajR f (by omega) x.2 (nz s i) (by omega) (by omega),bJ];simp only[pst];rw[dC];have g:=good_step f x.2 (cO s i) a;obtain⟨o,z,A⟩:=avc s j N (i+1) (a+1) (gJ x.1 x.2 (cO s i) a) (by omega) (by omega) (by omega) (by omega) (by omega) g.1 (by have:=g.2;omega)
    grind
  .rw[dD (jq (b:=bM s) (by rw[bP];omega)),Nq];exact⟨_,rfl,by simp[dO,Gh]⟩
theorem aMl (s:bU) (e:s.length<=100000) {i:Int} (d:0<=i) (hi:i<=s.length):agZ s i=a6 (i+Gh (s.drop i.toNat) i eQ,()):=by
 obtain⟨o,f,g⟩:=avc s e bV i 0 eQ (by have:=RH (n:=s.length) (by omega);omega) d hi (by omega) d jQ (by simp[eQ]);unfold agZ;rw[dD (jq d),dD (jq (a:=bM s) hi),show([(0,(0,()))]:List lD)=lo eQ.1 from rfl,show(true:Bool)=eQ.2 from rfl,f,bJ,g,amM _ i 0 eQ eQ rfl rfl]
theorem aAy {s:gy} (d:iQ s):gm (so s) [84]=(match s with|[_]=>true|_=>false):=by
 match s with
 |[]=>cases d
 |[f]=>have h:f.1=0:=d;simp[so,gm,h,lets]
 |f::g::r=>
  grind [Fp,gm]
theorem ap9 {s:gy} (d:iQ s):gm (so s) [84,76]=(match s with|[f,_]=>decide (f.1=12)|_=>false):=by
 match s with
 |[]=>cases d
 |[f]=>
  simp_all [so,gm]
 |[f,g]=>
  have h:g.1=0:=d.2.2.2;obtain⟨j,g1⟩:=IV d;have i:f.1=0\/f.1=1\/f.1=2\/f.1=3\/f.1=4\/f.1=5\/f.1=6\/f.1=7\/f.1=8\/f.1=9\/f.1=10\/f.1=11\/f.1=12\/f.1=13\/f.1=14:=by omega
  rcases i with e|e|e|e|e|e|e|e|e|e|e|e|e|e|e<;>simp[so,gm,h,e,lets]
 |f::g::h::r=>
  grind [Fp,gm]
theorem avd (s:bU) (u:s.length<=100000): ∀(N:Nat) (i:Int) (x:gy×Bool),(s.length:Int)-i<N->0<=i->i<=s.length->iQ x.1->(x.1.length:Int)<=i+1->
  ∃o,I9 N s i (so x.1) (po x.1) x.2=a6 o/\dO o (fun d=>a6 ((bM d.1.1),())) (fun j=>a6 (j.1.1,()))=a6 (i+Gh (s.drop i.toNat) i x,())
 |0,i,x,h,_,_,_,_=>by omega
 |N+1,i,x,h,m,B,l,D=>by
  (rewrite [I9,U2];delta DL)
  by_cases e:i<s.length
  .obtain⟨b,hd,v⟩:=drop_at m e;have p:=good_step l x.2 (cO s i) i;obtain⟨o,y,z⟩:=avd s u N (i+1) (gJ x.1 x.2 (cO s i) i) (by omega) (by omega) (by omega) p.1 (by have:=p.2;omega);rw[bW (eX (b:=bM s) e),bW (ed m e),avh (nz s i),bJ,hd,Gh,<-v,aAy l,ap9 l,ed m e,ajS l (by omega) x.2 (nz s i) i,bJ];simp only[JX,aa];rw[dC];have q: ∃o,I9 N s (i+1) (so (gJ x.1 x.2 (cO s i) i).1) (po (gJ x.1 x.2 (cO s i) i).1) (gJ x.1 x.2 (cO s i) i).2=a6 o/\dO o (fun d=>a6 ((bM d.1.1),())) (fun j=>a6 (j.1.1,()))=a6 (i+((Gh (s.drop (i+1).toNat) (i+1) (gJ x.1 x.2 (cO s i) i)+1:Nat):Int),()):=
    ⟨o,y,z.trans (by grind)⟩
   have A: ∃o,(a6 (Sum.inr ((i,()),())):Option (Uy.den⊕UF.den))=a6 o/\dO o (fun d=>a6 ((bM d.1.1),())) (fun j=>a6 (j.1.1,()))=a6 (i+((0:Nat):Int),()):=⟨_,rfl,by simp[dO]⟩;cases he:FV (cO s i)with
   |false=>simp_all [uB]
   |true=>
    generalize E:x.1=st at*
    match st with
    |[]=>cases l
    |[f]=>simp_all [uB]
    |[f,g]=>
     by_cases e12:f.1=12
     .by_cases e40:cO s i=40
      .simp only[uB,he,aa,ac,iJ,e12,e40,decide_true,ak,Bool.and_false,ag,if_false]at q ⊢;exact q
      .simp only[uB,he,aa,ac,iJ,e12,e40,decide_true,decide_false,az,aA,if_true];exact A
     simp_all [uB]
    |f::g::h::r=>simp_all [uB]
  .rw[dD (jq (b:=bM s) (by rw[bP];omega)),Nq];exact⟨_,rfl,by simp[dO,Gh,bP];omega⟩
theorem aMm (s:bU) (d:s.length<=100000) {i:Int} (e:0<=i) (hi:i<=s.length):aab s i=a6 (i+Gh (s.drop i.toNat) i eQ,()):=by
 obtain⟨o,f,g⟩:=avd s d bV i eQ (by have:=RH (n:=s.length) (by omega);omega) e hi jQ (by simp[eQ];omega);unfold aab;rw[show ajZ=a6 ((so eQ.1,(po eQ.1,(eQ.2,()))),()) from rfl,bJ];simp_all [bJ]
end
section
open Option renaming some → a6, none → a7
open Bool renaming and_eq_true → af, not_true → ak
open List renaming drop_eq_getElem_cons → ay, drop_of_length_le → aB, length_cons → aS, length_drop → aU, takeWhile_cons → bG
open Go.RowKit
def isL (c:UInt8):Bool:=(97<=c&&c<=122)||(65<=c&&c<=90)||c==95
def TR (c:UInt8):Bool:=48<=c&&c<=57
def WS (c:UInt8):Bool:=isL c||TR c
def isP (c:UInt8):Bool:=c==64||c==42||c==35||c==63||c==45||c==36||c==33
def aCC:Bool:=(List.range 256).all fun b=>match agR (b:Int),agS (b:Int),Qg (b:Int)with
 |some (x,_),a6 (y,_),a6 (k,_)=>(x==isL (UInt8.ofNat b))&&((y==TR (UInt8.ofNat b))&&((decide (k=5)==isL (UInt8.ofNat b))&&(decide (k=6)==TR (UInt8.ofNat b))))
 |_,_,_=>false
theorem au1:aCC=true:=by kernel_rfl
theorem qN (c:UInt8):agR (c.toNat:Int)=a6 (isL c,())/\agS (c.toNat:Int)=a6 (TR c,())/\ ∃k,Qg (c.toNat:Int)=a6 (k,())/\bZ k 5=isL c/\bZ k 6=TR c:=by
 have h:=List.all_eq_true.1 au1 c.toNat (List.mem_range.2 (by have:=c.toNat_lt;omega));have d:UInt8.ofNat c.toNat=c:=by simp
 rw[d]at h;split at h
 .rename_i x u y v k w e f g
  simp only[af,beq_iff_eq]at h
  grind [bZ]
 .cases h
def aNS:Bool:=(List.range 256).all fun b=>match Dl (b:Int) [64,42,35,63,45,36,33]with
 |some (x,_)=>(x==isP (UInt8.ofNat b))&&(isP (UInt8.ofNat b)==(bZ (b:Int) 64||(bZ (b:Int) 42||(bZ (b:Int) 35||(bZ (b:Int) 63||(bZ (b:Int) 45||(bZ (b:Int) 36||bZ (b:Int) 33)))))))
 |_=>false
theorem aLa:aNS=true:=by kernel_rfl
theorem azp (c:UInt8):Dl (c.toNat:Int) [64,42,35,63,45,36,33]=a6 (isP c,())/\isP c=(bZ (c.toNat:Int) 64||(bZ (c.toNat:Int) 42||(bZ (c.toNat:Int) 35||(bZ (c.toNat:Int) 63||(bZ (c.toNat:Int) 45||(bZ (c.toNat:Int) 36||bZ (c.toNat:Int) 33)))))):=by
 have h:=List.all_eq_true.1 aLa c.toNat (List.mem_range.2 (by have:=c.toNat_lt;omega));have d:UInt8.ofNat c.toNat=c:=by simp
 grind
theorem byte_at {s:List UInt8} {i:Nat} (h:i<s.length):cO s (i:Int)=(s[i].toNat:Int):=by
 simp_all [cO]
def runN (s:bU):Nat:=(s.takeWhile WS).length
def JY (s:bU):Nat:=(s.takeWhile isL).length
def lF (s:bU):Nat:=(s.takeWhile TR).length
theorem F9 (p:UInt8->Bool) (s:bU):(s.takeWhile p).length<=s.length:=by
 induction s with
 |nil=>simp
 |cons c v d=>grind [bG]
theorem Iu (p:UInt8->Bool): ∀(s:bU) (i:Nat) (h:i<s.length),i<(s.takeWhile p).length->p s[i]=true
 |[],i,h,_=>by simp at h
 |c::v,i,h,d=>by
  rw[bG]at d;split at d
  .rename_i e
   match i with
   |0=>exact e
   |i+1=>exact Iu p v i (by simpa using h) (by simpa using d)
  .simp at d
theorem CO (p:UInt8->Bool): ∀(s:bU) (h:(s.takeWhile p).length<s.length),p s[(s.takeWhile p).length]=false
 |[],h=>by simp at h
 |c::v,h=>by
  by_cases hc:p c=true
  .have e:List.takeWhile p (c::v)=c::v.takeWhile p:=by simp_all
   have d:(v.takeWhile p).length<v.length:=by simp_all
   have:=CO p v d;simp_all
  simp_all
theorem aOZ (p:UInt8->Bool) (s:bU) (n:Nat) (d:n<=s.length) (e: ∀i (h:i<s.length),i<n->p s[i]=true) (h2: ∀h:n<s.length,p s[n]=false):(s.takeWhile p).length=n:=by
 have a:=F9 p s;by_cases c:(s.takeWhile p).length<n
 .grind [CO]
 grind [Iu]
def nl (s:bU):Nat:=if JY s=0 then 0 else runN s
theorem azH {s:List UInt8} (h:JY s≠0):runN s≠0:=by
 unfold JY at h;unfold runN
 match s with
 |[]=>simp at h
 |c::v=>
  simp_all [bG,WS]
theorem aG0 (s:bU):nl s<=s.length:=by
 unfold nl;split
 .omega
 .exact F9 _ _
theorem abz {s:List UInt8} (d:s.length<4000000) {a k:Nat} (h:a+k<s.length): ∃hk:k<(s.drop a).length,cO s (bY .i64 (a:Int) (k:Int))=(((s.drop a)[k]).toNat:Int):=by
 have hk:k<(s.drop a).length:=by grind
 refine⟨hk, ?_⟩;rw[dC,show(a:Int)+(k:Int)=((a+k:Nat):Int) by omega,byte_at h,List.getElem_drop]
theorem aG9 {s:List UInt8} (e:s.length<4000000) {at_:Nat} (g:at_<=s.length) (a:bU) (b:Int) (c:bU) (d:Int): ∀(N k:Nat),s.length-k<N->k<=JY (s.drop at_)->
  ou N s (at_:Int) (k:Int) a b c d=a6 (.inl ((((JY (s.drop at_):Nat):Int),()),((a,b,c,d,()),(),()),()))
 |0,k,h,hk=>by
  omega
 |N+1,k,h,hk=>by
  have o:=F9 isL (s.drop at_);have p:=aU (i:=at_) (l:=s);rw[ou,vW];have q:k<=((s.drop at_).takeWhile isL).length:=hk;have f:bY .i64 (at_:Int) (k:Int)=(at_:Int)+k:=dC;by_cases h1:at_+k<s.length
  .obtain⟨j,m⟩:=abz e h1;rw[m,f,bW (eX (by rw[bP];omega)),bW (ed),(qN _).1,bJ];by_cases h2:k<JY (s.drop at_)
   .rw[Iu isL _ k j h2];simp only[ak,ac];rw[dC,show(k:Int)+1=((k+1:Nat):Int) by omega];exact aG9 e g a b c d N (k+1) (by omega) (by omega)
   .obtain rfl:k=JY (s.drop at_):=by omega
    grind [CO,JY]
  .obtain rfl:k=JY (s.drop at_):=by grind [JY]
   rw[f,dD (gB (by rw[bP];omega))]
theorem aHa {s:List UInt8} (e:s.length<4000000) {at_:Nat} (j:at_<=s.length) (a:bU) (b:Int) (c:bU) (d:Int): ∀(N k:Nat),s.length-k<N->k<=runN (s.drop at_)->
  pG N s (at_:Int) (k:Int) a b c d=a6 (.inl ((((runN (s.drop at_):Nat):Int),()),((a,b,c,d,()),(),()),()))
 |0,k,h,hk=>by
  omega
 |N+1,k,h,hk=>by
  have q:=F9 WS (s.drop at_);have u:=aU (i:=at_) (l:=s);rw[pG,Bd];have v:k<=((s.drop at_).takeWhile WS).length:=hk;have f:bY .i64 (at_:Int) (k:Int)=(at_:Int)+k:=dC;by_cases h1:at_+k<s.length
  .obtain⟨g,m⟩:=abz e h1;have o:bY .i64 (k:Int) 1=((k+1:Nat):Int):=by grind [dC]
   rw[m,f,bW (eX (by rw[bP];omega)),bW (ed),(qN _).1,bJ,(qN _).2.1];by_cases h2:k<runN (s.drop at_)
   .have p:=aHa e j a b c d N (k+1) (by omega) (by omega);have x:=Iu WS _ k g h2;rw[o];cases hL:isL (s.drop at_)[k]with
    |true=>exact p
    |false=>
     simp_all [WS,bJ]
   .obtain rfl:k=runN (s.drop at_):=by omega
    have:=CO WS _ g;have y:WS (s.drop at_)[runN (s.drop at_)]=false:=this;simp_all [WS,bJ]
  .obtain rfl:k=runN (s.drop at_):=by grind [runN]
   rw[f,dD (gB (by rw[bP];omega))]
theorem aG8 {s:List UInt8} (e:s.length<4000000) {at_:Nat} (g:at_<=s.length) (a:bU) (b:Int) (c:bU) (d:Int): ∀(N k:Nat),s.length-k<N->k<=lF (s.drop at_)->
  sJ N s (at_:Int) (k:Int) a b c d=a6 (.inl ((((lF (s.drop at_):Nat):Int),()),((a,b,c,d,()),(),()),()))
 |0,k,h,hk=>by
  omega
 |N+1,k,h,hk=>by
  have o:=F9 TR (s.drop at_);have p:=aU (i:=at_) (l:=s);rw[sJ,Bg];have q:k<=((s.drop at_).takeWhile TR).length:=hk;have f:bY .i64 (at_:Int) (k:Int)=(at_:Int)+k:=dC;by_cases h1:at_+k<s.length
  .obtain⟨j,m⟩:=abz e h1;rw[m,f,bW (eX (by rw[bP];omega)),bW (ed),(qN _).2.1,bJ];by_cases h2:k<lF (s.drop at_)
   .rw[Iu TR _ k j h2];simp only[ak,ac];rw[dC,show(k:Int)+1=((k+1:Nat):Int) by omega];exact aG8 e g a b c d N (k+1) (by omega) (by omega)
   .obtain rfl:k=lF (s.drop at_):=by omega
    grind [CO,lF]
  .obtain rfl:k=lF (s.drop at_):=by grind [lF]
   rw[f,dD (gB (by rw[bP];omega))]
theorem Vw {s:List UInt8} (d:s.length<4000000) {a:Nat} (e:a<=s.length):Dk s a=a6 (((lF (s.drop a):Nat):Int),()):=by
 rw[Dk,dD (gB)];by_cases h0:a=s.length
 .subst h0;rw[bW (lL (by rw[bP];omega)),List.drop_length];rfl
 rw[dD (xB (by rw[bP];omega)),show sJ bV s a 0 s a s a=_ from aG8 d e s a s a bV 0 (dI) (by omega),bJ];rfl
theorem atS {s:List UInt8} (d:s.length<4000000) {a:Nat} (e:a<=s.length):Wx s a=a6 (((nl (s.drop a):Nat):Int),()):=by
 (rewrite [Wx];delta ab9;rw[dD (gB)])
 by_cases h0:a=s.length
 .subst h0;rw[bW (lL (by rw[bP];omega)),List.drop_length];rfl
 rw[dD (xB (by rw[bP];omega)),show ou bV s a 0 s a s a=_ from aG9 d e s a s a bV 0 (dI) (by omega),bJ];unfold dO;simp only;unfold nl;by_cases h1:JY (s.drop a)=0
 .rw[am h1,h1];rfl
 .rw[aq h1,dD (dJ),dD (gB),dD (xB (by rw[bP];omega)),show pG bV s a 0 _ _ _ _=_ from aHa d e _ _ _ _ bV 0 (dI) (by omega)];rfl
theorem Si {s:List UInt8} (e:s.length<4000000): ∀(N k:Nat),s.length-k<N->k<=runN s->
  Qu N s (k:Int)=a6 (if runN s=s.length then .inl ((),())else .inr ((false,()),()))
 |0,k,h,hk=>by omega
 |N+1,k,h,hk=>by
  have m:=F9 WS s;have o:k<=(s.takeWhile WS).length:=hk;rw[Qu,afk];by_cases h1:k<s.length
  .obtain⟨c,f,g,p⟩:=(qN s[k]).2.2;have i:fO s (k:Int)=true:=ed;rw[bW (eX (by rw[bP];omega)),i,byte_at h1,f,bJ,g];by_cases h2:k<runN s
   .have j:=Si e N (k+1) (by omega) (by omega);have q:=Iu WS s k h1 h2;have l:bY .i64 (k:Int) 1=((k+1:Nat):Int):=by grind [dC]
    rw[l];cases hL:isL s[k]with
    |true=>exact j
    |false=>
     simp_all [WS,bJ]
   .obtain rfl:k=runN s:=by omega
    have:=CO WS s h1;have d:WS s[runN s]=false:=this;simp only[WS,Bool.or_eq_false_iff]at d;rw[d.1,aq (by omega)];simp_all [bJ]
  .obtain rfl:k=runN s:=by grind [runN]
   rw[dD (gB (by rw[bP];omega)),am (by omega)]
theorem axv {s:List UInt8} (d:s≠[]):JY s=0↔isL (s.headD 0)=false:=by
 match s,d with
 |c::v,_=>
  simp_all [JY,bG]
theorem rP {s:List UInt8} (e:s.length<4000000):acj s=a6 (decide (nl s≠0/\nl s=s.length),()):=by
 rw[acj];by_cases h0:s=[]
 .subst h0;rfl
 have f:0<s.length:=List.length_pos_iff.2 h0;obtain⟨_,_,c,g,j,o⟩:=qN s[0];have l:cO s 0=(s[0].toNat:Int):=byte_at (i:=0) f;have p:s.headD 0=s[0]:=by
  match s,h0 with
  |c::v,_=>rfl
 rw[dD (dJ (by rw[bP];omega)),bW (ed),l,g,bJ];simp only;rw[j];unfold nl;cases hL:isL s[0]with
 |false=>
  simp_all [axv]
 |true=>
  have d:JY s≠0:=fun h=>by simp_all [axv]
  have m:=azH d;simp only[ak,ac];rw[aq d,show Qu bV s 1=_ from Si e bV 1 (dI) (by omega)];by_cases h3:runN s=s.length
  .rw[am h3,decide_eq_true ⟨m,h3⟩];rfl
  .rw[aq h3,decide_eq_false (fun h=>h3 h.2)];rfl
theorem afY (p:UInt8->Bool): ∀(s:bU) (k:Nat),((s.take k).takeWhile p).length=min k (s.takeWhile p).length
 |[],k=>by simp
 |c::v,0=>by simp
 |c::v,k+1=>by
  rw[List.take_succ_cons,bG,bG];split
  .rw[aS,aS,afY p v k];omega
  .simp
theorem aEv (t:bU) {k:Nat} (d:1<=k) (hk:k<=t.length):(nl (t.take k)≠0/\nl (t.take k)=(t.take k).length)↔k<=nl t:=by
 have e:(t.take k).length=k:=by simp_all
 have a:=afY isL t k;have b:=afY WS t k;unfold nl JY runN
 grind
theorem Xz {s:List UInt8} (d:s.length<4000000) {a:Nat} (f:a<=s.length): ∀(N k:Nat),s.length-a+1-k<N->1<=k->k<=s.length-a+1->
  QF N s a ((min (k-1) (nl (s.drop a)):Nat):Int) (k:Int)=a6 (.inl ((((nl (s.drop a):Nat):Int),()),()))
 |0,k,h,_,_=>by omega
 |N+1,k,h,g,l=>by
  have i:=aG0 (s.drop a);rw[aU]at i;rw[QF,afH,bP,fV];by_cases e:k<=s.length-a
  .have j:sub s (a:Int) (bY .i64 (a:Int) (k:Int))=(s.drop a).take k:=by
    grind [dC,sub,List.drop_take]
   have m:=Xz d f N (k+1) (by omega) (by omega) (by omega);rw[bW (lL),bW (eU (by omega) (by grind [dC]) (by grind [dC])),j,
    rP (by grind),bJ,dC,show(k:Int)+1=((k+1:Nat):Int) by omega]
   have o:=aEv (s.drop a) g (by simp_all)
   grind
  .rw[dD (xB),show min (k-1) (nl (s.drop a))=nl (s.drop a) by omega]
theorem aH5 {s:List UInt8} (d:s.length<4000000) {a:Nat} (e:a<=s.length):aDl s a=a6 (((nl (s.drop a):Nat):Int),()):=by
 rw[aDl];have h:=Xz d e bV 1 (dI) (by omega) (by omega);rw[show min (1-1) (nl (s.drop a))=0 by omega]at h;rw[show QF bV s a 0 1=_ from h,bJ];rfl
def prl (s:bU):Nat:=if nl s≠0 then nl s else match s with
 |c::_=>if isP c||TR c then 1 else 0
 |[]=>0
theorem alY (s:bU):prl s<=s.length:=by
 unfold prl
 grind [aG0]
theorem qg {s:List UInt8} {a:Nat} (h:a<s.length):s.drop a=s[a]::s.drop (a+1):=ay h
theorem aCp {s:List UInt8} (d:s.length<4000000) {a:Nat} (f:a<=s.length):aDa s a=a6 (((prl (s.drop a):Nat):Int),()):=by
 rw[aDa,aH5 d f,bJ];unfold prl;by_cases e:nl (s.drop a)=0
 .rw[bW (dW),aq (by omega)];by_cases h:a<s.length
  .obtain⟨k,hk,j,g⟩:=(qN s[a]).2.2;have i:fO s (a:Int)=true:=ed;rw[bW (eX (by rw[bP];omega)),i,byte_at h,hk,bJ,g,(azp _).1,bJ,e,qg h]
   grind
  simp_all [gB,bP,aB]
 simp_all [dJ]
theorem aCo {s:List UInt8} (d:s.length<4000000) {a:Nat} (f:a<=s.length):Z8 s a=a6 (((prl (s.drop a):Nat):Int),()):=by
 rw[Z8,atS d f,bJ];unfold prl;by_cases e:nl (s.drop a)=0
 .rw[dD (gB),aq (by omega),dD (gB)];by_cases h:a<s.length
  .rw[dD (xB (by rw[bP];omega)),bW (ed),byte_at h,Vw d f,bJ];have hd:LM ((lF (s.drop a):Nat):Int) 1=if TR s[a]then 1 else 0:=by
    grind [lF,qg,bG,LM]
   have g:=(azp s[a]).2;rw[hd,qg h]
   grind
  simp_all [lL,bP,aB]
 .rw[bW (eX),am e]
end
section
open Bool renaming and_true → aA
open List renaming length_append → ai, length_cons → aS
open Nat renaming le_refl → ae
open Go.RowKit
abbrev kX:=Int×Int×Int×Int×Bool×Unit
abbrev qL:=Int×Int×Unit
def dP:kX:=(0,(0,(0,(0,(false,())))))
def dF:qL:=(0,(0,()))
def counts (m:Int):Int:=if m=3 then 1 else if m=11 then 9 else m
theorem agt (m:Int):aae m=some (counts m,()):=by
 unfold aae counts;simp only[iJ];by_cases h1:m=3
 .simp[h1]
 .by_cases h2:m=11<;>simp[h1,h2]
theorem Jk {e:Type} {l:List e} {d x:e} {i:Nat} (h:i<l.length):dU (iL l i x) d i=x:=by
 simp_all [dU,iL]
theorem aiw {d:Type} {l:List d} {i:Nat} {x y:d}:iL (iL l i x) i y=iL l i y:=by
 simp_all [iL]
theorem anu {d:Type} {l:List d} {i:Nat} {x:d} {k:Int}:fO (iL l i x) k=fO l k:=by
 simp_all [fO,iL]
theorem aow {d:Type} {l:List d} {i k:Nat} {x:d}:pW k (iL l i x)=pW k l:=by
 simp_all [pW,iL]
theorem yl {d:Type} {l:List d} {i:Nat} {x:d}:(iL l i x).length=l.length:=by
 simp_all [iL]
theorem agD (n:Nat):eqN n n=true:=by simp[eqN]
def TC (L:List kX) (j:Nat) (a:Int):List kX:=iL L j ((dU L dP j).1,(dU L dP j).2.1,a,(dU L dP j).2.2.2.1,false,())
def aaA (L:List kX) (j:Nat) (m:Int):List kX:=iL L j (m,(dU L dP j).2)
theorem Jt (L:List kX) (j:Nat) (a:Int):(TC L j a).length=L.length:=yl
theorem Jh (L:List kX) (j:Nat) (m:Int):(aaA L j m).length=L.length:=yl
def qG (F:List qL) (a:Int):Nat->List kX->List Int->List kX×List Int
 |0,L,H=>(L,H)
 |n+1,L,H=>
  if n+1<=F.length/\(F.getD n dF).2.1=(dU L dP (H.getD n 0).toNat).2.1 then(L,H)
  else qG F a n (TC L (H.getD n 0).toNat (a+1)) (H.take n)
def Dz (F:List qL) (H:List Int):Nat->Nat->List kX->List kX
 |0,_,L=>L
 |k+1,i,L=>Dz F H k (i+1) (aaA L (H.getD i 0).toNat (counts (F.getD i dF).1))
theorem aiv (F:List qL) {a:Int} (d:0<=a) (f:a<1000000) (hF:F.length<1000000): ∀(N n:Nat) (L:List kX) (H:List Int),n<N->n=H.length->n<1000000->L.length<1000000->
  (∀j∈H,0<=j/\j<L.length)->
  Oh N F a (n:Int) L H=some (.inl ((F,()),((),()),((),(qG F a n L H).1,(qG F a n L H).2,())))
 |0,n,L,H,h,_,_,_,_=>by omega
 |N+1,0,L,H,h,_,_,_,_=>by
  rfl
 |N+1,n+1,L,H,h,D,E,g,i=>by
  have G:n<H.length:=by omega
  have l:dV .i64 ((n+1:Nat):Int) 1=(n:Int):=by grind [fV]
  have m:H.getD n 0∈H:=by simp_all
  obtain⟨o,p⟩:=i _ m;have q:dU H 0 (dL (n:Int))=H.getD n 0:=rfl;have s:dQ F (0,(0,())) (n:Int)=F.getD n dF:=rfl;have u:fO L (H.getD n 0)=true:=ed o p;have v:pW (dL (H.getD n 0)) L=true:=sN (by simp only[dL];omega);have y:dZ (bM H) 0 (n:Int)=true:=eU (by omega) (by omega) (by rw[bP];omega);have z:sub H 0 (n:Int)=H.take n:=by simp[sub]
  have A:bY .i64 a 1=a+1:=dC;have B:dL (H.getD n 0)<L.length:=by simp only[dL];omega
  have jB: ∀x,dU (iL L (dL (H.getD n 0)) x) (0,(0,(0,(0,(false,()))))) (dL (H.getD n 0))=x:=fun x=>Jk B;have go:=aiv F d f hF N n (TC L (H.getD n 0).toNat (a+1)) (H.take n) (by omega) (by grind) (by omega) (by rw[Jt];exact g)
   (fun j I=>by grind [Jt])
  (rewrite [Oh,UQ];delta Jv yJ yI jH;rw[qG])
  simp only[l,q,s,u,v,y,z,A,anu,aow,jB,aiw,aa];rw[bW (eX),bW (ed),bW (sN (by assumption))];by_cases e:n+1<=F.length
  .rw[bW (lL (by rw[bP];omega)),bW (ed)];by_cases e2:(F.getD n dF).2.1=(dU L dP (H.getD n 0).toNat).2.1
   .rw[am ⟨e,e2⟩];exact bW (dW e2)
   .rw[aq (fun h=>e2 h.2)];exact(dD (dJ e2)).trans go
  .rw[dD (xB (by rw[bP];omega)),aq (fun h=>e h.1)];exact go
theorem aiu (F:List qL) (H:List Int) (hF:F.length<1000000) (e:H.length<1000000): ∀(k i N:Nat) (L:List kX),i+k=H.length->H.length<=F.length->L.length<1000000->(∀j∈H,0<=j/\j<L.length)->
  vN (N+k) F (bM F) (i:Int) L H=vN N F (bM F) (H.length:Int) (Dz F H k i L) H
 |0,i,N,L,h,_,_,_=>by simp_all [Dz]
 |k+1,i,N,L,h,f,g,l=>by
  have v:i<H.length:=by omega
  have m:H.getD i 0∈H:=by simp_all
  obtain⟨o,p⟩:=l _ m;have q:dU H 0 (dL (i:Int))=H.getD i 0:=rfl;have s:dQ F (0,(0,())) (i:Int)=F.getD i dF:=rfl;have d:fO L (H.getD i 0)=true:=ed o p;have u:pW (dL (H.getD i 0)) L=true:=sN (by simp only[dL];omega);have go:=aiu F H hF e k (i+1) N (aaA L (H.getD i 0).toNat (counts (F.getD i dF).1)) (by omega) f (by rw[Jh];exact g) (fun j x=>by grind [Jh])
  (rewrite [show N+(k+1)=(N+k)+1 by omega,vN,Fq];delta nH nG kW;rw[Dz,<-go])
  rw[bW (eX (by rw[bP];omega)),bW (ed),bW (eX (by rw[bP];omega)),bW (ed),bW (sN (by assumption)),agt,bJ,q,d,u];simp only[anu,d,aa,agD,aA,s];rw[dC,show(i:Int)+1=((i+1:Nat):Int) by omega];rfl
theorem QI (F:List qL) (H:List Int): ∀(k i:Nat) (L:List kX),(Dz F H k i L).length=L.length
 |0,_,_=>rfl
 |k+1,i,L=>by rw[Dz,QI F H k,Jh]
theorem Q5 (F:List qL) (a:Int): ∀(n:Nat) (L:List kX) (H:List Int),(qG F a n L H).1.length=L.length/\(qG F a n L H).2.length<=H.length/\(∀j∈(qG F a n L H).2,j∈H)
 |0,_,H=>⟨rfl,ae _,fun _ h=>h⟩
 |n+1,L,H=>by
  rw[qG];split
  .simp
  .have h:=Q5 F a n (TC L (H.getD n 0).toNat (a+1)) (H.take n)
   grind [Jt]
def ae9 (L:List kX) (H:List Int) (F:List qL) (a:Int):List kX×List Int:=
 let r:=qG F a H.length L H
 let d:=Dz F r.2 r.2.length 0 r.1
 if F.length=r.2.length then(d,r.2)
 else(d++[(counts (F.getD r.2.length dF).1,((F.getD r.2.length dF).2.1,(0,((if r.2.length=0 then-1 else r.2.getD (r.2.length-1) 0),(true,())))))],r.2++[(d.length:Int)])
theorem aN6 {L:List kX} {H:List Int} {F:List qL} {t:qL} {a:Int} (i:0<=a) (m:a<1000000) (hF:F.length<1000000) (o:L.length<1000000) (p:H.length<1000000) (q: ∀j∈H,0<=j/\j<L.length)
  (s:(qG F a H.length L H).2.length<=F.length) (h2:F.length<=(qG F a H.length L H).2.length+1):
  agM L H (t::F) a=some (((ae9 L H F a).1,((ae9 L H F a).2,())),()):=by
 have G:=Q5 F a H.length L H;have u:sub (t::F) 1 (bM (t::F))=F:=by simp[sub,bM]
 have v:=aiv F i m hF bV H.length L H (dI) rfl p o q;unfold agM;rw[bW (eU (by omega) (by rw[bP];simp;omega) (by rw[bP];omega)),u,bP (l:=H),v,bJ];simp only[dO];unfold ae9;generalize I:qG F a H.length L H=r at*;have y: ∀j∈r.2,0<=j/\j<r.1.length:=fun j J=>by simp_all
 have M:=QI F r.2 r.2.length 0 r.1;obtain⟨K,z⟩: ∃K,bV=(K+2)+r.2.length:=⟨bV-2-r.2.length,by have:=dI (n:=r.2.length+2) (by omega);omega⟩;have g:=aiu F r.2 hF (by omega) r.2.length 0 (K+2) r.1 (by omega) s (by omega) y;rw[<-z]at g;rw[show(0:Int)=((0:Nat):Int) from rfl,g];by_cases e:F.length=r.2.length
 ·(rewrite [vN,Fq];delta nH nG kW;rw[dD (gB (by rw[bP];omega)),am e,bJ])
 .rw[aq e];have N:r.2.length<F.length:=by omega
  generalize O:Dz F r.2 r.2.length 0 r.1=L2 at*;have A:dQ F (0,(0,())) (r.2.length:Int)=F.getD r.2.length dF:=rfl;have B: ∀x:kX,eH (cu L2 [x]) 40=true:=fun x=>by simp only[eH,cu,ai,aS,List.length_nil,decide_eq_true_eq,mD];omega
  have D: ∀x:Int,eH (cu r.2 [x]) 8=true:=fun x=>by simp only[eH,cu,ai,aS,List.length_nil,decide_eq_true_eq,mD];omega
  have h: ∀f d,(d.length:Int)=r.2.length+1->vN (K+1) F (bM F) (bY .i64 (r.2.length:Int) 1) f d=some (.inl ((),((),()),((),f,d,()))):=fun f d S=>by
   (rewrite [vN,Fq];delta nH nG kW;rw[dD (gB (by grind [bP,dC]))])
  (rewrite [vN,Fq];delta nH nG kW;rw[bW (eX (by rw[bP];omega)),bW (ed),dD (gB (by rw[bP];omega))])
  simp only[A,agt,bJ,fD,B,D,aA,aa,iM];by_cases e0:r.2.length=0
  .rw[dD (gB),am e0,h _ _ (by simp[cu]),bJ];rfl
  .have E:dV .i64 (r.2.length:Int) 1=((r.2.length-1:Nat):Int):=by grind [fV]
   rw[bW (eX),E,bW (ed),bW (sN (by simp only[dL];omega)),aq e0,h _ _ (by simp[cu]),bJ];rfl
end
section
open Go.RowKit
def rD (s:gy):List qL:=(s.dropLast.map fun f=>(f.1,f.2,())).reverse
def F6 (s:gy):List Int:=(s.dropLast.map (·.2)).reverse
theorem vU (s:gy):(rD s).map (·.2.1)=F6 s:=by
 simp only[rD,F6,List.map_reverse,List.map_map];rfl
theorem aJi {s:gy} (d:iQ s): ∃t:qL,lo s=t::rD s:=by
 have e:s≠[]:=by rintro rfl;exact d
 grind [List.dropLast_concat_getLast,lo,rD]
theorem aie (f:lI) {r:gy} (h:r≠[]):F6 (f::r)=F6 r++[f.2]:=by
 cases r with
 |nil=>exact absurd rfl h
 |cons g r=>simp[F6]
theorem aFf (pre:gy) (f:lI) (r:gy): ∃l,F6 (pre++f::r)=F6 (f::r)++l:=by
 induction pre with
 |nil=>simp
 |cons g pre d=>
  obtain⟨l,h⟩:=d;simp_all [aie]
def Shape (s y:gy) (at_:Int):Prop:= ∃e f r d,s=e++f::r/\(y=(d,f.2)::r\/ ∃g,y=(g,at_)::(d,f.2)::r)
theorem Bc {m:Int} {f:Int×Int} {r:gy} (j:m=0\/r≠[]) (fr:Bool) (b at_:Int):Shape (f::r) (jm m (f::r) fr b at_).1 at_:=by
 have d:Shape (f::r) (f::r) at_:=⟨[],f,r,f.1,rfl,.inl rfl⟩;have push: ∀k,Shape (f::r) ((k,at_)::f::r) at_:=fun k=>⟨[],f,r,f.1,rfl,.inr ⟨k,rfl⟩⟩;have e: ∀k,Shape (f::r) ((k,f.2)::r) at_:=fun k=>⟨[],f,r,k,rfl,.inl rfl⟩;have i:m≠0->Shape (f::r) r at_:=fun h=>by
  cases r with
  |nil=>simp_all
  |cons g r=>exact⟨[f],g,r,g.1,rfl,.inl rfl⟩
 unfold jm H8 BF;rcases o8 b with rfl|rfl|rfl|rfl|rfl|rfl|rfl|rfl|rfl|rfl|rfl|⟨l,o,p,q,s,u,v,x,y,z,A⟩<;>cases fr<;>simp_all<;>
  (repeat' split)<;>first|assumption|exact push _|exact e _|(exact i (by omega))|(simp_all;done)|exact d|skip
theorem asI {pre s y:gy} {at_:Int} (h:Shape s y at_):Shape (pre++s) y at_:=by
 obtain⟨p,f,r,d,g,e⟩:=h;exact⟨pre++p,f,r,d,by simp_all,e⟩
theorem Yg {a:Int} {f:Int×Int} {r y:gy} {at_:Int} (h:Shape ((a,f.2)::r) y at_):Shape (f::r) y at_:=by
 obtain⟨p,g,m,e,i,j⟩:=h;cases p with
 |nil=>
  obtain⟨l,d⟩:=List.cons.inj i;subst l d;exact⟨[],f,r,e,rfl,j⟩
 |cons q p=>
  obtain⟨l,d⟩:=List.cons.inj i;exact⟨f::p,g,m,e,by rw[d];rfl,j⟩
theorem amb {s:gy} (d:iQ s) (fr:Bool) (b at_:Int):Shape s (gJ s fr b at_).1 at_:=by
 cases s with
 |nil=>cases d
 |cons f r=>
 have l: ∀k,Shape (f::r) ((k,f.2)::r) at_:=fun k=>⟨[],f,r,k,rfl,.inl rfl⟩;have m: ∀g j,r=g::j->Shape (f::r) r at_:=fun g j h=>by rw[h];exact⟨[f],g,j,g.1,rfl,.inl rfl⟩
 simp only[gJ];split
 .rename_i e
  have i:r≠[]:=qh d (by omega);cases r with
  |nil=>exact absurd rfl i
  |cons g r=>
  split
  .exact l 3
  .split
   .split<;>exact l _
   .split
    .exact m g r rfl
    .have o:=IW d i;refine asI (pre:=[f]) (Bc ?_ fr b at_)
     grind [qh]
 .split
  .grind [qh,Yg,Bc]
  .split
   .rename_i e
    have i:r≠[]:=qh d (by omega);split
    .cases r with
     |nil=>exact absurd rfl i
     |cons g r=>exact m g r rfl
    grind [Yg,Bc]
   grind [Bc,qh]
theorem O3 {s:gy} (e:iQ s) (fr:Bool) (b at_:Int): ∃c,c<=(F6 s).length/\(F6 (gJ s fr b at_).1=(F6 s).take c\/F6 (gJ s fr b at_).1=(F6 s).take c++[at_]):=by
 obtain⟨i,f,r,j,m,o⟩:=amb e fr b at_;obtain⟨l,d⟩:=aFf i f r;rw[<-m]at d;have p:F6 ((j,f.2)::r)=F6 (f::r):=by
  cases r with
  |nil=>rfl
  |cons g r=>rfl
 refine⟨(F6 (f::r)).length,by rw[d];simp, ?_⟩;rw[d,List.take_left']
 .rcases o with h|⟨q,h⟩
  .simp_all
  .rw[h,aie _ (by simp),p];exact .inr rfl
 .rfl
end
section
open Int renaming toNat_natCast → aX
open List renaming length_append → ai, length_map → aP, length_take → aZ
open Nat renaming le_refl → ae, lt_or_ge → aO
open Go.RowKit
theorem aoA {e:Type} {l:List e} {d:e} {i:Nat} (h:l.length<=i):dU l d i=d:=by
 simp_all [dU]
theorem rF {e:Type} {l:List e} {d:e} {i:Nat} (h:i<l.length):dU l d i=l[i]:=by
 simp_all [dU]
theorem getD_take {e:Type} {l:List e} {d:e} {i n:Nat} (h:i<n):(l.take n).getD i d=l.getD i d:=by
 simp_all
theorem LU {e:Type} {l:List e} {d x:e} {i j:Nat} (h:i≠j):dU (iL l i x) d j=dU l d j:=by
 simp_all [dU,iL]
def Pi (a:Int) (p:kX):kX:=(p.1,p.2.1,a,p.2.2.2.1,false,())
theorem Ju (L:List kX) (j:Nat) (a:Int) (k:Nat) (d:j<L.length):dU (TC L j a) dP k=if j=k then Pi a (dU L dP k)else dU L dP k:=by
 unfold TC;by_cases h:j=k
 .subst h;rw[am rfl,Jk d];rfl
 .rw[aq h,LU h]
theorem QJ (L:List kX) (j:Nat) (m:Int) (k:Nat) (d:j<L.length):dU (aaA L j m) dP k=if j=k then(m,(dU L dP k).2)else dU L dP k:=by
 unfold aaA;by_cases h:j=k
 .subst h;rw[am rfl,Jk d]
 .rw[aq h,LU h]
theorem Yh (F:List qL) (a:Int) (H:List Int) (c:Nat) (o: ∀n,n<H.length->0<=H.getD n 0): ∀(n:Nat) (L:List kX),c<=n->n<=H.length->
  (∀m,m<n->(H.getD m 0).toNat<L.length)->
  (∀m,m<c->m<F.length/\(F.getD m dF).2.1=(dU L dP (H.getD m 0).toNat).2.1)->
  (∀m,c<=m->m<n-> ¬(m+1<=F.length/\(F.getD m dF).2.1=(dU L dP (H.getD m 0).toNat).2.1))->
  (qG F a n L (H.take n)).2=H.take c/\
  (∀j,(∃m,c<=m/\m<n/\(H.getD m 0).toNat=j)->dU (qG F a n L (H.take n)).1 dP j=Pi (a+1) (dU L dP j))/\
  (∀j,(∀m,c<=m->m<n->(H.getD m 0).toNat≠j)->dU (qG F a n L (H.take n)).1 dP j=dU L dP j)
 |0,L,p,q,g,s,i=>by
  have:c=0:=by omega
  subst this;exact⟨rfl,fun j ⟨m,_,h,_⟩=>by omega,fun j _=>rfl⟩
 |n+1,L,p,q,g,s,i=>by
  rw[qG,getD_take (by omega)];by_cases e:c=n+1
  .grind
  .have u:=i n (by omega) (by omega);have f:=g n (by omega);have A: ∀k,(dU (TC L (H.getD n 0).toNat (a+1)) dP k).2.1=(dU L dP k).2.1:=fun k=>by
    rw[Ju _ _ _ _ f];split<;>rfl
   rw[aq u,List.take_take,show min n (n+1)=n by omega];obtain⟨v,x,y⟩:=Yh F a H c o n (TC L (H.getD n 0).toNat (a+1)) (by omega) (by omega) (fun m l=>by grind [Jt])
    (fun m l=>by grind) (fun m l z=>by grind)
   refine⟨v,fun j d=> ?_,fun j d=> ?_⟩
   .by_cases hq: ∃m,c<=m/\m<n/\(H.getD m 0).toNat=j
    .rw[x j hq,Ju _ _ _ _ f];split<;>rfl
    .obtain⟨m,B,z,D⟩:=d;have:m=n:=by
      grind
     simp_all [Ju]
   .rw[y j (fun k hk E=>d k hk (by omega)),Ju _ _ _ _ f,aq (d n (by omega) (by omega))]
theorem Xy (F:List qL) (H:List Int) (f: ∀m n,m<H.length->n<H.length->(H.getD m 0).toNat=(H.getD n 0).toNat->m=n): ∀(k i:Nat) (L:List kX),i+k<=H.length->
  (∀m,m<H.length->(H.getD m 0).toNat<L.length)->
  (∀m,i<=m->m<i+k->dU (Dz F H k i L) dP (H.getD m 0).toNat=(counts (F.getD m dF).1,(dU L dP (H.getD m 0).toNat).2))/\
  (∀j,(∀m,i<=m->m<i+k->(H.getD m 0).toNat≠j)->dU (Dz F H k i L) dP j=dU L dP j)
 |0,i,L,h,g=>⟨fun m p q=>by omega,fun j _=>rfl⟩
 |k+1,i,L,h,g=>by
  have d:=g i (by omega);obtain⟨s,l⟩:=Xy F H f k (i+1) (aaA L (H.getD i 0).toNat (counts (F.getD i dF).1)) (by omega) (fun m u=>by grind [Jh]);rw[Dz];refine⟨fun m p q=> ?_,fun j o=> ?_⟩
  .by_cases e:m=i
   .subst e;rw[l _ (fun k hk x y=>by grind),QJ _ _ _ _ d,am rfl]
   .rw[s m (by omega) (by omega),QJ _ _ _ _ d,aq (fun v=>e (f i m (by omega) (by omega) v).symm)]
  .rw[l j (fun m u z=>o m (by omega) (by omega)),QJ _ _ _ _ d,aq (o i (by omega) (by omega))]
def J8 (F:List qL) (v:Int):Option Int:=(F.find? fun f=>f.2.1==v).map (·.1)
theorem Wv {F:List qL} (hd: ∀m n,m<F.length->n<F.length->(F.getD m dF).2.1=(F.getD n dF).2.1->m=n) {m:Nat} (d:m<F.length):J8 F (F.getD m dF).2.1=some (F.getD m dF).1:=by
 have e: ∃f,F.find? (fun f=>f.2.1==(F.getD m dF).2.1)=some f:=by
  cases h:F.find? (fun f=>f.2.1==(F.getD m dF).2.1)with
  |some f=>exact⟨f,rfl⟩
  |none=>
   grind
 grind [List.getElem_of_mem,J8]
theorem Lp {F:List qL} {v:Int} (h: ∀m,m<F.length->(F.getD m dF).2.1≠v):J8 F v=none:=by
 grind [J8,List.getElem_of_mem]
def oL (F:List qL) (a:Int) (p:kX):kX:=
 if p.2.2.2.2.1=true then(match J8 F p.2.1 with
  |some m=>(counts m,p.2)
  |none=>Pi (a+1) p)else p
def acQ (F:List qL) (a:Int):Bool:=match F.getLast? with
 |some f=>decide (f.2.1=a)
 |none=>false
def axy (L:List Int) (v:Int):Int:=((L.findIdx fun p=>p==v:Nat):Int)
def BO (F:List qL) (a:Int) (fr:List Int):kX:=(counts (F.getLastD dF).1,a,0,(if F.length=1 then-1 else axy fr (F.getD (F.length-2) dF).2.1),true,())
def RX (F:List qL) (a:Int) (L:List kX):List kX:=L.map (oL F a)++if acQ F a=true then [BO F a (L.map (·.2.1))]else []
structure Inv (L:List kX) (H:List Int) (F:List qL) (k:Int):Prop where
 len:H.length=F.length
 nn: ∀n,n<H.length->0<=H.getD n 0/\(H.getD n 0).toNat<L.length
 frm: ∀n,n<H.length->(dU L dP (H.getD n 0).toNat).2.1=(F.getD n dF).2.1/\(dU L dP (H.getD n 0).toNat).2.2.2.2.1=true
 opn: ∀j,(dU L dP j).2.2.2.2.1=true-> ∃n,n<H.length/\(H.getD n 0).toNat=j
 lt: ∀j,j<L.length->(dU L dP j).2.1<k
 inj: ∀i j,i<L.length->j<L.length->(dU L dP i).2.1=(dU L dP j).2.1->i=j
 fd: ∀m n,m<F.length->n<F.length->(F.getD m dF).2.1=(F.getD n dF).2.1->m=n
theorem Inv.hd {L:List kX} {H:List Int} {F:List qL} {k:Int} (h:Inv L H F k): ∀m n,m<H.length->n<H.length->(H.getD m 0).toNat=(H.getD n 0).toNat->m=n:=fun m n d f e=>by
 have g:=(h.frm m d).1;have i:=(h.frm n f).1;rw[e,i]at g;exact(h.fd n m (by rw[<-h.len];exact f) (by rw[<-h.len];exact d) g).symm
theorem uM {F:List qL} {n:Nat} (h:n<F.length:=by omega):(F.getD n dF).2.1=(F.map (·.2.1)).getD n 0:=by
 simp_all
theorem aCP {f:Type} {d:f} {l e:List f} (h:l.length=e.length) (h2: ∀j,j<l.length->dU l d j=dU e d j):l=e:=by
 grind [List.ext_getElem,rF]
theorem ahf {L:List kX} (d: ∀i j,i<L.length->j<L.length->(dU L dP i).2.1=(dU L dP j).2.1->i=j) {j:Nat} (e:j<L.length):axy (L.map (·.2.1)) (dU L dP j).2.1=(j:Int):=by
 have f: ∀i,i<L.length->(L.map (·.2.1))[i]? =some (dU L dP i).2.1:=fun i g=>by
  simp_all [rF]
 unfold axy
 grind
theorem aAj {L:List kX} {H:List Int} {F g:List qL} {k:Int} (h:Inv L H F k) {c:Nat} (hc:c<=F.length)
  (hF:g.map (·.2.1)=(F.map (·.2.1)).take c\/g.map (·.2.1)=(F.map (·.2.1)).take c++[k]):
  (qG g k H.length L H).2.length<=g.length/\g.length<=(qG g k H.length L H).2.length+1/\
  (ae9 L H g k).1=RX g k L/\Inv (ae9 L H g k).1 (ae9 L H g k).2 g (k+1):=by
 have aV:g.length=c\/g.length=c+1:=by
  have q:g.length=(g.map (·.2.1)).length:=(aP ..).symm;rcases hF with e|e<;>rw[q,e]<;>simp<;>omega
 have aG:c<=H.length:=by rw[h.len];exact hc
 have v: ∀m,m<c->m<g.length/\(g.getD m dF).2.1=(F.getD m dF).2.1:=fun m s=>by
  refine⟨by omega, ?_⟩;rw[uM,uM (F:=F) (by omega)];rcases hF with e|e
  .rw[e,getD_take s]
  .rw[e,List.getD_eq_getElem?_getD,List.getElem?_append_left (by simp;omega),<-List.getD_eq_getElem?_getD,getD_take s]
 have G:c<g.length->(g.getD c dF).2.1=k:=fun s=>by
  rcases hF with e|e
  .have:g.length=(g.map (·.2.1)).length:=(aP ..).symm;rw[e]at this;simp at this;omega
  .rw[uM s,e,List.getD_eq_getElem?_getD,List.getElem?_append_right (by simp;omega)];simp[Nat.min_eq_left hc]
 have I: ∀m,m<F.length->(F.getD m dF).2.1<k:=fun m s=>by
  rw[<-(h.frm m (by rw[h.len];exact s)).1];exact h.lt _ (h.nn m (by rw[h.len];exact s)).2
 obtain⟨Z,s2,s3⟩:=Yh g k H c (fun n o=>(h.nn n o).1) H.length L aG (ae _) (fun m s=>(h.nn m s).2)
  (fun m s=>⟨(v m s).1,(v m s).2.trans (h.frm m (by omega)).1.symm⟩)
  (fun m aW O ⟨B,y⟩=>by
   have s:m=c:=by omega
   subst s;rw[G (by omega),(h.frm m O).1]at y;have:=I m (by rw[<-h.len];exact O);omega)
 rw[List.take_length]at Z s2 s3;have af:=(Q5 g k H.length L H).1;have z:(H.take c).length=c:=by rw[aZ];omega
 have A: ∀m,m<c->(H.take c).getD m 0=H.getD m 0:=fun m s=>getD_take s;obtain⟨m1,m2⟩:=Xy g (H.take c) (fun m n s o e=>by
   rw[z]at s o;rw[A m s,A n o]at e;exact h.hd m n (by omega) (by omega) e) c 0 (qG g k H.length L H).1 (by omega) (fun m s=>by
   rw[z]at s;rw[A m s,af];exact(h.nn m (by omega)).2)
 have ao:=QI g (H.take c) c 0 (qG g k H.length L H).1;have aH: ∀j,j<L.length->dU (Dz g (H.take c) c 0 (qG g k H.length L H).1) dP j=oL g k (dU L dP j):=fun j u=>by
  unfold oL;have W: ∀m n,m<g.length->n<g.length->(g.getD m dF).2.1=(g.getD n dF).2.1->m=n:=fun m n s o e=>by
   rcases aO m c with q|q<;>rcases aO n c with x|x
   .rw[(v m q).2,(v n x).2]at e;exact h.fd m n (by omega) (by omega) e
   .have:n=c:=by omega
    subst this;rw[(v m q).2,G o]at e;have:=I m (by omega);omega
   .have:m=c:=by omega
    subst this;rw[(v n x).2,G s]at e;have:=I n (by omega);omega
   .omega
  by_cases D:(dU L dP j).2.2.2.2.1=true
  .rw[am D];obtain⟨n,o,J⟩:=h.opn j D;have ag:=(h.frm n o).1;rw[J]at ag;rcases aO n c with K|K
   .have e:=m1 n (by omega) (by omega);rw[A n K,J]at e;rw[e,s3 j (fun m s O S=>by have:=h.hd m n O o (S.trans J.symm);omega),ag,<-(v n K).2,Wv W (v n K).1]
   .rw[m2 j (fun m _ s S=>by rw[A m (by omega)]at S;have:=h.hd m n (by omega) o (S.trans J.symm);omega),s2 j ⟨n,K,o,J⟩,Lp];intro m s e;rw[ag]at e;rcases aO m c with q|q
    .rw[(v m q).2]at e;have:=h.fd m n (by omega) (by rw[<-h.len];exact o) e;omega
    .have:m=c:=by omega
     subst this;rw[G s]at e;have:=I n (by rw[<-h.len];exact o);omega
  .rw[aq D];have au: ∀m,m<H.length->(H.getD m 0).toNat≠j:=fun m s e=>D (by rw[<-e];exact(h.frm m s).2);rw[m2 j (fun m _ s S=>au m (by omega) (by rw[<-A m (by omega)];exact S)),s3 j (fun m _ s=>au m s)]
 have aI:Dz g (H.take c) c 0 (qG g k H.length L H).1=L.map (oL g k):=aCP (d:=dP) (by rw[ao,af,aP]) fun j u=>by
  rw[ao,af]at u;rw[aH j u,rF (l:=L.map _) (by rw[aP];exact u),List.getElem_map,rF u]
 have E: ∀p,(oL g k p).2.1=p.2.1:=fun p=>by
  unfold oL;split
  .split<;>rfl
  .rfl
 have av:(ae9 L H g k)=if g.length=c then(L.map (oL g k),H.take c)else
   (L.map (oL g k)++[(counts (g.getD c dF).1,((g.getD c dF).2.1,(0,((if c=0 then-1 else(H.take c).getD (c-1) 0),(true,())))))],H.take c++[(L.length:Int)]):=by
  unfold ae9;simp only[Z,z,aI,aP]
 have aJ: ∀p,(oL g k p).2.2.2.2.1=true->p.2.2.2.2.1=true/\ ∃m,J8 g p.2.1=some m:=fun p U=>by
  unfold oL at U;split at U
  .rename_i D
   split at U
   .rename_i m s;exact⟨D,m,s⟩
   .cases U
  .rename_i D;exact absurd U D
 have W: ∀m n,m<g.length->n<g.length->(g.getD m dF).2.1=(g.getD n dF).2.1->m=n:=fun m n s o e=>by
  rcases aO m c with q|q<;>rcases aO n c with x|x
  .rw[(v m q).2,(v n x).2]at e;exact h.fd m n (by omega) (by omega) e
  .have:n=c:=by omega
   subst this;rw[(v m q).2,G o]at e;have:=I m (by omega);omega
  .have:m=c:=by omega
   subst this;rw[(v n x).2,G s]at e;have:=I n (by omega);omega
  .omega
 have V: ∀j,j<L.length->dU (L.map (oL g k)) dP j=oL g k (dU L dP j):=fun j u=>by
  rw[rF (l:=L.map _) (by rw[aP];exact u),List.getElem_map,rF u]
 have aw:RX g k L=L.map (oL g k)++if acQ g k=true then [BO g k (L.map (·.2.1))]else []:=rfl
 have ax: ∀n,n<c->(oL g k (dU L dP (H.getD n 0).toNat)).2.1=(g.getD n dF).2.1/\(oL g k (dU L dP (H.getD n 0).toNat)).2.2.2.2.1=true:=fun n o=>by
  have M:=h.frm n (by omega);refine⟨by rw[E,M.1,(v n o).2], ?_⟩;unfold oL;rw[am M.2,M.1,<-(v n o).2,Wv W (v n o).1];exact M.2
 have ay: ∀j,j<L.length->(oL g k (dU L dP j)).2.2.2.2.1=true-> ∃n,n<c/\(H.getD n 0).toNat=j:=fun j u D=>by
  obtain⟨q,m,s⟩:=aJ _ D;obtain⟨n,o,J⟩:=h.opn j q;have M:=(h.frm n o).1;rw[J]at M;rcases aO n c with K|K
  .exact⟨n,K,J⟩
  .rw[M,Lp]at s
   .cases s
   .intro m O e;rcases aO m c with q|q
    .rw[(v m q).2]at e;have:=h.fd m n (by omega) (by rw[<-h.len];exact o) e;omega
    .have:m=c:=by omega
     subst this;rw[G O]at e;have:=I n (by rw[<-h.len];exact o);omega
 have az: ∀{l:List kX} {j:Nat},(dU l dP j).2.2.2.2.1=true->j<l.length:=fun {l j} u=>by
  rcases aO j l.length with q|q
  .exact q
  .rw[aoA q]at u;cases u
 refine⟨by rw[Z,z];omega,by rw[Z,z];omega, ?_⟩;by_cases e:g.length=c
 .have ah:acQ g k=false:=by
   unfold acQ;cases B:g.getLast? with
   |none=>rfl
   |some f=>
    have aK:g≠[]:=by rintro rfl;cases B
    have U:0<g.length:=List.length_pos_iff.2 aK;have:g.getD (c-1) dF=f:=by
     rw[List.getLast?_eq_getElem?,e]at B;rw[List.getD_eq_getElem?_getD,B];rfl
    have x:=(v (c-1) (by omega)).2;rw[this]at x;have:=I (c-1) (by omega);exact decide_eq_false (by omega)
  rw[av,am e,aw,ah];refine⟨by simp, ?_⟩;exact {
   len:=by rw[z,e]
   nn:=fun n o=>by rw[z]at o;rw[A n o,aP];exact h.nn n (by omega)
   frm:=fun n o=>by
    rw[z]at o;rw[A n o,V _ (h.nn n (by omega)).2];exact ax n o
   opn:=fun j u=>by
    have B:=az u;rw[aP]at B;rw[V j B]at u;obtain⟨n,o,y⟩:=ay j B u;exact⟨n,by rw[z];exact o,by rw[A n o];exact y⟩
   lt:=fun j u=>by
    rw[aP]at u;rw[V j u,E];have:=h.lt j u;omega
   inj:=fun i j X u y=>by
    rw[aP]at X u;rw[V i X,V j u,E,E]at y;exact h.inj i j X u y
   fd:=W}
 .have aA:g.length=c+1:=by omega
  have aB:g.getLast?=some (g.getD c dF):=by
   rw[List.getLast?_eq_getElem?,aA,List.getD_eq_getElem?_getD,show c+1-1=c by omega,List.getElem?_eq_getElem (by omega)];rfl
  have aQ:g.getLastD dF=g.getD c dF:=by rw[List.getLastD_eq_getLast?,aB];rfl
  have aj:=G (by omega);have ah:acQ g k=true:=by unfold acQ;rw[aB];exact decide_eq_true aj
  have aS:(if c=0 then-1 else(H.take c).getD (c-1) 0)=(if g.length=1 then-1 else axy (L.map (·.2.1)) (g.getD (g.length-2) dF).2.1):=by
   by_cases c0:c=0
   .rw[am c0,am (by omega)]
   .have o:=h.nn (c-1) (by omega);rw[aq c0,aq (by omega),A _ (by omega),show g.length-2=c-1 by omega,(v (c-1) (by omega)).2,<-(h.frm (c-1) (by omega)).1,ahf h.inj o.2];omega
  have aU:(counts (g.getD c dF).1,((g.getD c dF).2.1,((0:Int),((if c=0 then-1 else(H.take c).getD (c-1) 0),(true,())))))=BO g k (L.map (·.2.1)):=by
   unfold BO;rw[aS,aQ,aj]
  rw[av,aq e,aw,ah,aU];refine⟨by simp, ?_⟩;have ab:(L.map (oL g k)++[BO g k (L.map (·.2.1))]).length=L.length+1:=by simp
  have N: ∀j,j<L.length->dU (L.map (oL g k)++[BO g k (L.map (·.2.1))]) dP j=oL g k (dU L dP j):=fun j u=>by
   rw[<-V j u];unfold dU;rw[List.getD_eq_getElem?_getD,List.getD_eq_getElem?_getD,List.getElem?_append_left (by rw[aP];exact u)]
  have ad:dU (L.map (oL g k)++[BO g k (L.map (·.2.1))]) dP L.length=BO g k (L.map (·.2.1)):=by
   unfold dU;rw[List.getD_eq_getElem?_getD,List.getElem?_append_right (by simp)];simp
  have ak: ∀n,n<c->(H.take c++[(L.length:Int)]).getD n 0=H.getD n 0:=fun n o=>by
   rw[<-A n o,List.getD_eq_getElem?_getD,List.getD_eq_getElem?_getD,List.getElem?_append_left (by rw[z];exact o)]
  have al:(H.take c++[(L.length:Int)]).getD c 0=L.length:=by
   rw[List.getD_eq_getElem?_getD,List.getElem?_append_right (by rw[z];omega)];simp[z]
  have Y:(H.take c++[(L.length:Int)]).length=c+1:=by rw[ai,z];rfl
  have aF: ∀n,n<c+1->n<c\/n=c:=fun n o=>by omega
  have an:(BO g k (L.map (·.2.1))).2.1=k:=rfl;exact {
   len:=by rw[Y,aA]
   nn:=fun n o=>by
    rw[Y]at o;rw[ab];rcases aF n o with q|rfl
    .rw[ak n q];have:=h.nn n (by omega);omega
    .rw[al];omega
   frm:=fun n o=>by
    rw[Y]at o;rcases aF n o with q|rfl
    .rw[ak n q,N _ (h.nn n (by omega)).2];exact ax n q
    .rw[al,aX,ad];exact⟨aj.symm,rfl⟩
   opn:=fun j u=>by
    have B:=az u;rw[ab]at B;rcases aO j L.length with q|q
    .rw[N j q]at u;obtain⟨n,o,y⟩:=ay j q u;exact⟨n,by rw[Y];omega,by rw[ak n o];exact y⟩
    .exact⟨c,by rw[Y];omega,by rw[al];omega⟩
   lt:=fun j u=>by
    rw[ab]at u;rcases aO j L.length with q|q
    .rw[N j q,E];have:=h.lt j q;omega
    .rw[show j=L.length by omega,ad,an];omega
   inj:=fun i j X u y=>by
    rw[ab]at X u;rcases aO i L.length with q|q<;>rcases aO j L.length with x|x
    .rw[N i q,N j x,E,E]at y;exact h.inj i j q x y
    .rw[N i q,E,show j=L.length by omega,ad,an]at y;have:=h.lt i q;omega
    .rw[N j x,E,show i=L.length by omega,ad,an]at y;have:=h.lt j x;omega
    .omega
   fd:=W}
end
section
open Bool renaming and_true → aA
open List renaming drop_eq_getElem_cons → ay, drop_zero → aJ, length_map → aP, eq_nil_of_length_eq_zero → bD
open Go.RowKit
def uX:bU->Int->gy×Bool->List kX->List kX
 |[],_,_,L=>L
 |b::l,a,x,L=>uX l (a+1) (gJ x.1 x.2 (jI b) a) (RX (rD (gJ x.1 x.2 (jI b) a).1) a L)
def wR (s:bU) (p:kX):kX:=if p.1=12 then(p.1,p.2.1,p.2.1+1+((prl (s.drop (p.2.1+1).toNat):Nat):Int),p.2.2.2.1,false,())else if p.2.2.2.2.1=true then(p.1,p.2.1,(s.length:Int),p.2.2.2.1,true,())else p
def bQ (s:bU):List kX:=(uX s 0 eQ []).map (wR s)
theorem ar5 (F:List qL) (a:Int) (L:List kX):(RX F a L).length<=L.length+1:=by
 grind [RX]
theorem NU (s:gy):(rD s).length<=s.length:=by simp[rD]
theorem aCD {l:List qL} (h:l.length<1000000):pY l=some (l,()):=by
 grind [pY,uF,eH,mD]
theorem aCd (s:bU) (u:s.length<=100000): ∀(N:Nat) (i:Int) (x:gy×Bool) (L:List kX) (H:List Int),(s.length:Int)-i<N->0<=i->i<=s.length->iQ x.1->(x.1.length:Int)<=i+1->Inv L H (rD x.1) i->(L.length:Int)<=i->
  ∃g o,Xj N s (bM s) i x.2 i (lo x.1) H L=some (.inl ((s,()),(g,uX (s.drop i.toNat) i x L,(),())))/\Inv (uX (s.drop i.toNat) i x L) g o s.length/\(uX (s.drop i.toNat) i x L).length<=s.length
 |0,i,x,L,H,h,_,_,_,_,_,_=>by omega
 |N+1,i,x,L,H,h,f,B,l,D,m,E=>by
  rw[Xj,afB];by_cases e:i<s.length
  .obtain⟨b,hd,G⟩:=drop_at f e;have d:=good_step l x.2 (cO s i) i;have I:(lo (gJ x.1 x.2 (cO s i) i).1).length≠0:=by
    rw[nC];intro e;rw[bD e]at d;exact d.1
   obtain⟨c,p,q⟩:=O3 l x.2 (cO s i) i;rw[<-vU,<-vU]at q;rw[<-vU,aP]at p;obtain⟨v,y,J,K⟩:=aAj m p q;obtain⟨t,M⟩:=aJi d.1;have O:=NU (gJ x.1 x.2 (cO s i) i).1;have S:=NU x.1;have U:=m.len;have V:=aN6 (t:=t) (L:=L) (H:=H) (F:=rD (gJ x.1 x.2 (cO s i) i).1) (a:=i) f (by omega) (by have:=d.2;omega) (by omega) (by omega)
    (fun j z=>by
     obtain⟨n,A,W⟩:=List.getElem_of_mem z;have:=m.nn n A
     grind) v y
   have X:=ar5 (rD (gJ x.1 x.2 (cO s i) i).1) i L;obtain⟨g,o,Y,Z,r3⟩:=aCd s u N (i+1) (gJ x.1 x.2 (cO s i) i) (RX (rD (gJ x.1 x.2 (cO s i) i).1) i L) (ae9 L H (rD (gJ x.1 x.2 (cO s i) i).1) i).2 (by omega) (by omega) (by omega) d.1 (by have:=d.2;omega) (by simp_all) (by omega);rw[bW (eX (b:=bM s) e),bW (ed f e),ajR l (by omega) x.2 (nz s i) f (by omega),bJ];simp only[pst];rw[dD (dJ (by rw[bP];omega)),aCD (by grind),bJ]
   grind [bJ,dC,uX]
  .have ab:i=s.length:=by omega
   rw[dD (jq (b:=bM s) (by rw[bP];omega)),Nq,uX]
   grind
theorem aGr (s:bU) (o:s.length<=100000) (H:List Int): ∀(N i:Nat) (L:List kX),L.length-i<N->i<=L.length->L.length<1000000->(∀j,j<L.length->0<=(dU L dP j).2.1/\(dU L dP j).2.1<s.length)->
  Jg N s (bM L) (i:Int) H L=some (.inl ((),(H,L.take i++(L.drop i).map (wR s),(),())))
 |0,i,L,h,_,_,_=>by omega
 |N+1,i,L,h,B,p,q=>by
  (rewrite [Jg,Vq];delta gz kG fU)
  by_cases e:i<L.length
  .have D:pW (dL (i:Int)) L=true:=sN (by assumption);have u:fO L (i:Int)=true:=ed;have v:dL (i:Int)=i:=by simp[dL]
   have jB: ∀x,dU (iL L i x) (0,(0,(0,(0,(false,()))))) i=x:=fun x=>Jk e;have y:pW i L=true:=by assumption
   have E:=q i e;have g:Z8 s (bY .i64 (dU L (0,(0,(0,(0,(false,()))))) i).2.1 1)=some (((prl (s.drop ((dU L dP i).2.1+1).toNat):Nat):Int),()):=by
    grind [dC,dP,aCo]
   have l:bY .i64 (bY .i64 (dU L (0,(0,(0,(0,(false,()))))) i).2.1 1) ((prl (s.drop ((dU L dP i).2.1+1).toNat):Nat):Int)=(dU L dP i).2.1+1+((prl (s.drop ((dU L dP i).2.1+1).toNat):Nat):Int):=by
    grind [alY,dP,dC]
   have z:bY .i64 (i:Int) 1=((i+1:Nat):Int):=by grind [dC]
   have go: ∀x,x=wR s (dU L dP i)->Jg N s (bM L) ((i+1:Nat):Int) H (iL L i x)=some (.inl ((),(H,L.take i++(L.drop i).map (wR s),(),()))):=fun x G=>by
    have I:(wR s (dU L dP i)).2.1=(dU L dP i).2.1:=by
     grind [wR]
    have m:=aGr s o H N (i+1) (iL L i x) (by rw[yl];omega) (by rw[yl];omega) (by rw[yl];exact p) (fun j J=>by
     grind [iL,Jk,LU])
    have A:bM (iL L i x)=bM L:=by rw[bP,bP,yl]
    rw[A]at m;rw[m];congr 4;have K:(iL L i x).take (i+1)=L.take i++[x]:=by
     simp_all [iL,List.take_add_one,List.take_set_of_le]
    grind [iL,List.drop_set_of_lt,ay,rF]
   rw[bW (eX (by rw[bP];omega))];simp only[v,u,y,aow,jB,aiw,aa,agD,aA,z];by_cases ho:(dU L dP i).2.2.2.2.1=true
   .have f:(dU L (0,(0,(0,(0,(false,()))))) i).2.2.2.2.1=true:=ho;rw[f,aa];by_cases hm:(dU L dP i).1=12
    .have d:(dU L (0,(0,(0,(0,(false,()))))) i).1=12:=hm;rw[d,bW (dW rfl),g,bJ];simp only[l];refine go _ ?_;unfold wR;rw[am hm,hm];rfl
    .have d: ¬(dU L (0,(0,(0,(0,(false,()))))) i).1=12:=hm;rw[dD (dJ d)];refine go _ ?_;unfold wR;rw[aq hm,am ho];rfl
   .have f:(dU L (0,(0,(0,(0,(false,()))))) i).2.2.2.2.1=false:=Bool.eq_false_iff.2 ho;rw[f,ac];by_cases hm:(dU L dP i).1=12
    .have d:(dU L (0,(0,(0,(0,(false,()))))) i).1=12:=hm;rw[d,bW (dW rfl),g,bJ];simp only[l];refine go _ ?_;unfold wR;rw[am hm,hm];rfl
    .have d: ¬(dU L (0,(0,(0,(0,(false,()))))) i).1=12:=hm;rw[dD (dJ d)];simp_all [iL,rF,wR]
  .have M:i=L.length:=by omega
   simp_all [gB,bP]
theorem ar6:Inv [] [] (rD eQ.1) 0:={
 len:=rfl
 nn:=fun n e=>by cases e
 frm:=fun n e=>by cases e
 opn:=fun j d=>by rw[aoA (by simp)]at d;cases d
 lt:=fun j d=>by cases d
 inj:=fun i j f=>by cases f
 fd:=fun m n g=>by cases g}
theorem aaI: ∀(l:bU) (a:Int) (x:gy×Bool) (L:List kX),0<=a->(∀p∈L,0<=p.2.1)-> ∀p∈uX l a x L,0<=p.2.1
 |[],a,x,L,f,h,p,d=>h p d
 |b::l,a,x,L,f,h,p,d=>by
  rw[uX]at d;refine aaI l (a+1) _ _ (by omega) (fun p d=> ?_) p d;unfold RX at d;rcases List.mem_append.1 d with e|e
  .obtain⟨q,g,rfl⟩:=List.mem_map.1 e;have:(oL (rD (gJ x.1 x.2 (jI b) a).1) a q).2.1=q.2.1:=by
    unfold oL;split
    .split<;>rfl
    .rfl
   grind
  .split at e
   .rw[List.mem_singleton.1 e];exact f
   .cases e
theorem aH6 (s:bU) (d:s.length<=100000):arX s=some (bQ s,()):=by
 obtain⟨f,m,g,e,h⟩:=aCd s d bV 0 eQ [] [] (by have:=RH (n:=s.length) (by omega);omega) (by omega) (by omega) jQ (by simp[eQ]) ar6 (by simp);unfold arX;rw[show([(0,(0,()))]:List lD)=lo eQ.1 from rfl,show(true:Bool)=eQ.2 from rfl,g,bJ];simp only[dO,Int.toNat_zero,aJ]at e h ⊢;have o:=aaI s 0 eQ [] (by omega) (fun p i=>by cases i);have q:=aGr s d f bV 0 (uX s 0 eQ []) (RH) (by omega) (by omega) (fun j l=>by
  refine⟨?_,e.lt j l⟩
  grind [rF])
 grind [bJ,bQ]
end
section
open Option renaming some → a6, none → a7
open List renaming append_assoc → ah, map_cons → ax, drop_eq_getElem_cons → ay, drop_of_length_le → aB, nil_append → aH, length_take → aZ, mem_of_mem_take → bF
open Go.RowKit
def yZ:bU->Int->gy×Bool->kX->kX
 |[],_,_,p=>p
 |b::l,a,x,p=>yZ l (a+1) (gJ x.1 x.2 (jI b) a) (oL (rD (gJ x.1 x.2 (jI b) a).1) a p)
def wI:bU->Int->gy×Bool->List Int->List kX
 |[],_,_,_=>[]
 |b::l,a,x,d=>
  if acQ (rD (gJ x.1 x.2 (jI b) a).1) a=true then yZ l (a+1) (gJ x.1 x.2 (jI b) a) (BO (rD (gJ x.1 x.2 (jI b) a).1) a d)::wI l (a+1) (gJ x.1 x.2 (jI b) a) (d++[a])
  else wI l (a+1) (gJ x.1 x.2 (jI b) a) d
theorem abp (F:List qL) (a:Int) (p:kX):(oL F a p).2.1=p.2.1:=by
 unfold oL;split
 .split<;>rfl
 .rfl
theorem IM: ∀(l:bU) (a:Int) (x:gy×Bool) (p:kX),(yZ l a x p).2.1=p.2.1
 |[],_,_,_=>rfl
 |b::l,a,x,p=>by rw[yZ,IM l,abp]
theorem Z5 (s:bU) (p:kX):(wR s p).2.1=p.2.1:=by
 grind [wR]
theorem Z4: ∀(l:bU) (a:Int) (x:gy×Bool) (p:kX),p.2.2.2.2.1=false->yZ l a x p=p
 |[],_,_,_,_=>rfl
 |b::l,a,x,p,h=>by
  rw[yZ];have:oL (rD (gJ x.1 x.2 (jI b) a).1) a p=p:=by grind [oL]
  rw[this];exact Z4 l _ _ p h
theorem XQ: ∀(l:bU) (a:Int) (x:gy×Bool) (L:List kX),uX l a x L=L.map (yZ l a x)++wI l a x (L.map (·.2.1))
 |[],a,x,L=>by
  have:(yZ [] a x)=id:=rfl;rw[uX,wI,this];simp
 |b::l,a,x,L=>by
  rw[uX,XQ l,wI];have d:L.map (yZ (b::l) a x)=(L.map (oL (rD (gJ x.1 x.2 (jI b) a).1) a)).map (yZ l (a+1) (gJ x.1 x.2 (jI b) a)):=by
   rw[List.map_map];rfl
  have e:(L.map (oL (rD (gJ x.1 x.2 (jI b) a).1) a)).map (·.2.1)=L.map (·.2.1):=by
   simp_all [abp]
  unfold RX;rw[d];split
  .rw[List.map_append,List.map_append,e];simp only[ax,List.map_nil,ah,List.cons_append,aH];rfl
  grind
theorem AV (s:bU):bQ s=(wI s 0 eQ []).map (wR s):=by
 unfold bQ;rw[XQ];rfl
structure PL (x:gy) (i:Int):Prop where
 up:(F6 x).Pairwise (· < ·)
 lt: ∀v∈F6 x,v<i
theorem azr:PL eQ.1 0:=⟨List.Pairwise.nil,fun v d=>by cases d⟩
theorem aFd {s:gy} {i:Int} (g:iQ s) (h:PL s i) (fr:Bool) (b:Int):PL (gJ s fr b i).1 (i+1):=by
 obtain⟨c,m,e|e⟩:=O3 g fr b i
 .refine⟨by rw[e];exact h.up.sublist (List.take_sublist ..),fun v d=> ?_⟩;rw[e]at d;have:=h.lt v (bF d);omega
 .refine⟨?_,fun v d=> ?_⟩
  .rw[e,List.pairwise_append];refine⟨h.up.sublist (List.take_sublist ..),List.pairwise_singleton ..,fun a j b l=> ?_⟩;rw[List.mem_singleton.1 l];exact h.lt a (bF j)
  .rw[e]at d;rcases List.mem_append.1 d with f|f
   .have:=h.lt v (bF f);omega
   grind
theorem afZ {l:List Int} (h:l.Pairwise (· < ·)) {m n:Nat} {v:Int} (d:l[m]? =a6 v) (e:l[n]? =a6 v):m=n:=by
 grind [List.pairwise_iff_getElem]
theorem aCS {l:List Int} (h:l.Pairwise (· < ·)) {n:Nat} {v:Int} (d:l[n]? =a6 v):l.findIdx? (· ==v)=a6 n:=by
 obtain⟨e,f⟩:=List.getElem?_eq_some_iff.1 d;cases hf:l.findIdx? (· ==v)with
 |none=>
  simp_all
 |some m=>
  obtain⟨g,i,_⟩:=List.findIdx?_eq_some_iff_getElem.1 hf;have:l[m]? =a6 v:=by simp_all
  rw[afZ h this d]
theorem stay {s:gy} {i v:Int} {n:Nat} (l:iQ s) (h:PL s i) (f:(F6 s)[n]? =a6 v) (fr:Bool) (b:Int):(F6 (gJ s fr b i).1)[n]? =a6 v\/v∉F6 (gJ s fr b i).1:=by
 have p:=h.lt v (List.mem_of_getElem? f);obtain⟨c,q,e|e⟩:=O3 l fr b i<;>rw[e]
 .by_cases hnc:n<c
  .grind
  .right;intro g;obtain⟨m,d⟩:=List.getElem?_of_mem g;rw[List.getElem?_take]at d;split at d
   .rename_i o
    have:=afZ h.up d f;omega
   .cases d
 .have u:((F6 s).take c).length=c:=by simp_all
  by_cases hnc:n<c
  .grind
  .right;intro g;rcases List.mem_append.1 g with j|j
   .obtain⟨m,d⟩:=List.getElem?_of_mem j;rw[List.getElem?_take]at d;split at d
    .rename_i o
     have:=afZ h.up d f;omega
    .cases d
   simp_all
def atM (s:gy) (v:Int):Int:=match(F6 s).findIdx? (· ==v)with
 |some n=>((n+1:Nat):Int)
 |none=>0
theorem azt {s:gy} (d:iQ s): ∃t,po s=t::F6 s:=by
 have e:s≠[]:=by rintro rfl;exact d
 grind [List.dropLast_concat_getLast,po,F6]
theorem aLq {s:gy} (e:iQ s): ∃t,so s=t::(rD s).map fun f=>letter f.1:=by
 have d:s≠[]:=by rintro rfl;exact e
 refine⟨letter (s.getLast d).1, ?_⟩
 conv=>lhs;rw[<-List.dropLast_concat_getLast d]
 simp[so,rD,List.map_reverse];rfl
theorem amB (v:Int) (S:bU) (P:List Int) (fr:Bool) (d:P.length<1000000): ∀(N j:Nat),P.length-j<N->
  QA N v (j:Int) S P fr=a6 (match(P.drop j).findIdx? (· ==v)with|some n=>.inr ((((j+n:Nat):Int),()),())|none=>.inl ((),()))
 |0,j,h=>by omega
 |N+1,j,h=>by
  rw[QA,afv];by_cases e:j<P.length
  .have f:dQ P 0 (j:Int)=P[j]:=by simp_all [dQ]
   rw[bW (eX (by rw[bP];omega)),bW (ed),f,ay e,List.findIdx?_cons,iJ];by_cases e2:P[j]=v
   .simp[e2]
   .rw[dC,show(j:Int)+1=((j+1:Nat):Int) by omega,amB v S P fr d N (j+1) (by omega)]
    grind
  simp_all [gB,bP,aB]
theorem aIe {s:gy} (d:iQ s) (hl:s.length<900000) (fr:Bool) (v:Int):axd (so s,(po s,(fr,()))) v=a6 (atM s v,()):=by
 unfold axd;obtain⟨t,e⟩:=azt d;have h:=amB v (so s) (po s) fr (by rw[XW];omega) bV 1 (dI (by rw[XW];omega));rw[show QA bV v 1 (so s) (po s) fr=_ from h,bJ,e]
 grind [atM,dO]
theorem ay7: ∀n:Fin 15,aC9 ((letter ((n.val:Nat):Int)).toNat:Int)=a6 (counts ((n.val:Nat):Int),()):=by decide+kernel
theorem aKs {m:Int} (d:0<=m) (e:m<=14):aC9 ((letter m).toNat:Int)=a6 (counts m,()):=by
 have:=ay7 ⟨m.toNat,by omega⟩
 grind
theorem Eu: ∀{s:gy},iQ s-> ∀f∈s,0<=f.1/\f.1<=14
 |[],h=>by cases h
 |[f],h=>by
  intro g d;rw[List.mem_singleton.1 d];have:f.1=0:=h;omega
 |f::g::r,h=>by
  intro q e;rcases List.mem_cons.1 e with rfl|i
  .have:=h.1;have:=h.2.1;omega
  .exact Eu h.2.2.2 q i
theorem arZ {s:gy} (e:iQ s) {n:Nat} (h:n<(rD s).length):0<=((rD s).getD n dF).1/\((rD s).getD n dF).1<=14:=by
 have d:(rD s).getD n dF∈rD s:=by simp_all
 generalize (rD s).getD n dF=q at d;unfold rD at d;rw[List.mem_reverse,List.mem_map]at d;obtain⟨f,g,rfl⟩:=d;exact Eu e f (List.dropLast_subset s g)
theorem aN8 {s:gy} (d:iQ s) {n:Nat} (e:n<(rD s).length):cO (so s) ((n+1:Nat):Int)=((letter ((rD s).getD n dF).1).toNat:Int)/\fO (so s) ((n+1:Nat):Int)=true:=by
 grind [aLq,ed,cO]
theorem RU (s:gy):(rD s).length=(F6 s).length:=by grind [vU]
theorem axo {s:gy} {n:Nat} {v:Int} (h:(F6 s)[n]? =a6 v):((rD s).getD n dF).2.1=v/\n<(rD s).length:=by
 grind [vU]
theorem aIY {s:gy} {i:Int} (h:PL s i): ∀m n,m<(rD s).length->n<(rD s).length->((rD s).getD m dF).2.1=((rD s).getD n dF).2.1->m=n:=fun m n d f e=>by
 rw[uM d,uM f,vU]at e;rw[RU]at d f;rw[List.getD_eq_getElem?_getD,List.getD_eq_getElem?_getD,List.getElem?_eq_getElem d,List.getElem?_eq_getElem f]at e;exact afZ h.up (List.getElem?_eq_getElem d) (by simp_all)
theorem aw1 {s:gy} {i v:Int} {n:Nat} (h:PL s i) (d:(F6 s)[n]? =a6 v):J8 (rD s) v=a6 ((rD s).getD n dF).1:=by
 grind [axo,Wv,aIY]
theorem aw0 {s:gy} {v:Int} (h:v∉F6 s):J8 (rD s) v=a7:=by
 grind [Lp,vU]
theorem aub {s:gy} {i v:Int} {n:Nat} (h:PL s i) (d:(F6 s)[n]? =a6 v):atM s v=((n+1:Nat):Int):=by
 unfold atM;rw[aCS h.up d]
theorem auc {s:gy} {v:Int} (h:v∉F6 s):atM s v=0:=by
 grind [atM]
def jg (s:bU) (k:Nat):gy×Bool:=ja (s.take k) 0 eQ
theorem aio: ∀(l m:bU) (a:Int) (x:gy×Bool),ja (l++m) a x=ja m (a+l.length) (ja l a x)
 |[],m,a,x=>by simp[ja]
 |b::l,m,a,x=>by
  rw[List.cons_append,ja,ja,aio l m]
  grind
theorem JE {s:List UInt8} {k:Nat} (h:k<s.length):jg s (k+1)=gJ (jg s k).1 (jg s k).2 (cO s k) k:=by
 unfold jg;rw[List.take_add_one,List.getElem?_eq_getElem h,Option.toList_some,aio,ja,ja,byte_at h,aZ,Nat.min_eq_left (by omega)];simp[jI]
theorem yL (s:bU) (k:Nat):iQ (jg s k).1/\(jg s k).1.length<=k+1:=by
 have h:=zl (s.take k) 0 eQ jQ;refine⟨h.1, ?_⟩;have d:=h.2;have:eQ.1.length=1:=rfl
 grind [jg]
theorem PG (s:bU): ∀k,k<=s.length->PL (jg s k).1 k
 |0,_=>azr
 |k+1,h=>by
  rw[JE (by omega)];have:=aFd (yL s k).1 (PG s k (by omega)) (jg s k).2 (cO s k);simpa using this
end
section
open List renaming mem_cons_of_mem → au, mem_cons_self → aK
open Go.RowKit
def IB (k:Int) (f:lI):Prop:=f.1=0\/(0<=f.2/\f.2+1<=k/\((f.1=1\/f.1=3\/f.1=7\/f.1=8\/f.1=9\/f.1=11)->f.2+2<=k))
theorem IB.up {k:Int} {f:Int×Int} (h:IB k f):IB (k+1) f:=by unfold IB at*;omega
def Y2 (k:Int):Prop:=k=13\/k=12\/k=6\/k=14\/k=2\/k=4\/k=5\/k=10
def aMr (m:Int) (s y:gy) (a:Int):Prop:=y=s\/y=s.tail\/(∃k,Y2 k/\y=(k,a)::s)\/(m=9/\y=(11,(s.headD (0,0)).2)::s.tail)
theorem atD (m:Int) (s:gy) (fr:Bool) (b a:Int):aMr m s (H8 m s fr b a).1 a:=by
 unfold H8
 repeat' split
 all_goals first
  |exact .inl rfl
  |exact .inr (.inl rfl)
  |exact .inr (.inr (.inl ⟨_,by unfold Y2;decide,rfl⟩))
theorem ams (s:gy) (b a:Int):BF s b a=none\/ ∃k,Y2 k/\BF s b a=some ((k,a)::s):=by
 unfold BF
 repeat' split
 all_goals first
  |exact .inl rfl
  |exact .inr ⟨_,by unfold Y2;decide,rfl⟩
theorem YQ (m:Int) (s:gy) (fr:Bool) (b a:Int):aMr m s (jm m s fr b a).1 a:=by
 unfold jm;by_cases h1:m=0\/m=1\/m=2
 .simp_all [atD]
 .rw[aq h1];by_cases h2:m=13
  .rw[am h2];exact .inr (.inl rfl)
  .rw[aq h2];by_cases h3:m=4
   .rw[am h3];simp only;split
    .exact .inr (.inl rfl)
    .exact .inl rfl
   .rw[aq h3];by_cases h4:m=14
    .rw[am h4];split
     .exact .inr (.inl rfl)
     .exact .inl rfl
    .rw[aq h4];by_cases h5:m=6
     .rw[am h5];simp only;split
      .exact .inr (.inl rfl)
      .split
       .exact .inr (.inr (.inl ⟨13,by unfold Y2;decide,rfl⟩))
       .exact .inl rfl
     .rw[aq h5];rcases ams s b a with e|⟨k,hk,e⟩
      .rw[e];simp only;by_cases h6:m=9\/m=10
       .rw[am h6];simp only;split
        .exact .inr (.inr (.inl ⟨10,by unfold Y2;decide,rfl⟩))
        .split
         .split
          .exact .inr (.inl rfl)
          .exact .inr (.inr (.inr ⟨by omega,rfl⟩))
         .exact .inl rfl
       .rw[aq h6];simp only;split
        .split
         .exact .inr (.inl rfl)
         .exact .inr (.inr (.inl ⟨5,by unfold Y2;decide,rfl⟩))
        .split
         .exact .inr (.inl rfl)
         .split
          .exact .inr (.inr (.inl ⟨4,by unfold Y2;decide,rfl⟩))
          .exact .inl rfl
      .rw[e];exact .inr (.inr (.inl ⟨k,hk,rfl⟩))
theorem IR {m:Int} {f:Int×Int} {r:gy} (hf:f.1=m) (fr:Bool) (b:Int) {a:Int} (j:0<=a) (h: ∀g∈f::r,IB a g): ∀g∈(jm m (f::r) fr b a).1,IB (a+1) g:=by
 have i: ∀g∈f::r,IB (a+1) g:=fun g d=>(h g d).up;intro g d;rcases YQ m (f::r) fr b a with e|e|⟨k,hk,e⟩|⟨l,e⟩<;>rw[e]at d
 .exact i g d
 .simp_all
 .rcases List.mem_cons.1 d with rfl|d
  .unfold IB;unfold Y2 at hk;simp only;omega
  .exact i g d
 .rcases List.mem_cons.1 d with rfl|d
  .simp_all [IB]
  simp_all
theorem axm {s:gy} (fr:Bool) (b:Int) {a:Int} (i:0<=a) (h: ∀g∈s,IB a g): ∀g∈(gJ s fr b a).1,IB (a+1) g:=by
 cases s with
 |nil=>intro g d;cases d
 |cons f r=>
  have q:=h f (aK ..);have l: ∀g∈r,IB (a+1) g:=fun g d=>(h g (au _ d)).up;have set: ∀k:Int,IB (a+1) (k,f.2)-> ∀g∈(k,f.2)::r,IB (a+1) g:=fun k hk g d=>by
   grind
  have j: ∀k:Int,IB a (k,f.2)-> ∀g∈(k,f.2)::r,IB a g:=fun k hk g d=>by
   grind
  unfold gJ;simp only;by_cases h12:f.1=12
  .rw[am h12];by_cases h40:b=40
   .rw[am h40];grind [IB]
   .rw[aq h40];by_cases h123:b=123
    .rw[am h123]
     grind [IB]
    .rw[aq h123];by_cases h36:b=36
     .simp_all
     .rw[aq h36];cases r with
      |nil=>
       intro g d;have m:=YQ 0 [] fr b a;rw[show(([]:gy).headD (0,0)).1=0 from rfl]at d;rcases m with e|e|⟨k,hk,e⟩|⟨o,e⟩
       .simp_all
       .simp_all
       .rw[e,List.mem_singleton]at d;subst d;unfold IB;unfold Y2 at hk;simp only;omega
       .cases o
      |cons g r=>exact IR rfl fr b i fun x p=>h x (au _ p)
  .rw[aq h12];by_cases h3:f.1=3
   .rw[am h3];split
    .grind [IB]
    .exact IR (f:=(1,f.2)) rfl fr b i (j 1 (by simp_all [IB]))
   .rw[aq h3];by_cases h11:f.1=11
    .rw[am h11];split
     .exact l
     .exact IR (f:=(9,f.2)) rfl fr b i (j 9 (by simp_all [IB]))
    .rw[aq h11];exact IR rfl fr b i h
theorem anr: ∀(l:bU) (a:Int) (x:gy×Bool),0<=a->(∀g∈x.1,IB a g)-> ∀g∈(ja l a x).1,IB (a+l.length) g
 |[],a,x,_,h=>by simpa [ja] using h
 |b::l,a,x,d,h=>by
  have:=anr l (a+1) (gJ x.1 x.2 (jI b) a) (by omega) (axm x.2 (jI b) d h)
  grind [ja]
theorem axn (w:bU): ∀g∈(ja w 0 eQ).1,IB w.length g:=by
 have:=anr w 0 eQ (by omega) fun g d=>by
  have:g=(0,0):=by simpa [eQ] using d
  subst this;exact .inl rfl
 simpa using this
end
section
open Option renaming some → a6, none → a7
open Bool renaming false_eq_true → ag
open List renaming append_assoc → ah, length_append → ai, map_cons → ax, drop_eq_getElem_cons → ay, drop_of_length_le → aB, getElem_mem → aF, nil_append → aH, drop_zero → aJ, length_map → aP, length_cons → aS, length_drop → aU, length_take → aZ, mem_of_mem_take → bF, mem_append_right → bH
open Nat renaming le_refl → ae, lt_or_ge → aO
open Go.RowKit
abbrev RSt:=List UInt8×(List Int×oJ)
def dS:RSt:=([],([],(false,())))
def wG (s:bU) (n:Nat):List RSt:=(List.range n).map fun k=>JX (jg s k)
theorem tu (s:bU) (n:Nat):(wG s n).length=n:=by simp[wG]
theorem MZ (s:bU) {n k:Nat} (h:k<n):dU (wG s n) dS k=JX (jg s k):=by
 simp_all [rF,wG]
theorem af8 (s:bU) (d:s.length<=100000): ∀(N k:Nat),s.length-k<N->k<=s.length->
  Qv N s (k:Int) (wG s (k+1))=a6 (.inl ((s,()),(wG s (s.length+1),())))
 |0,k,h,_=>by omega
 |N+1,k,h,hk=>by
  rw[Qv,afl];by_cases e:k<s.length
  .have j:=yL s k;have f:dU (wG s (k+1)) ([],([],(false,()))) (dL (k:Int))=JX (jg s k):=by
    rw[show dL (k:Int)=k from rfl];exact MZ s (by omega)
   have g:aj0 (so (jg s k).1,(po (jg s k).1,((jg s k).2,()))) (cO s (k:Int)) (k:Int)=a6 (JX (jg s (k+1)),()):=by
    grind [JE,ajS,nz]
   have i:cu (wG s (k+1)) [JX (jg s (k+1))]=wG s (k+2):=by
    simp_all [cu,wG,List.range_succ]
   rw[bW (eX (by rw[bP];omega)),bW (ed (by omega) (by rw[tu];omega)),bW (ed),bW (sN (by simp_all [tu,dL])),f];simp only[JX];rw[g,bJ];simp only;rw[i,bW (by grind [eH,tu,mD]),dC,show(k:Int)+1=((k+1:Nat):Int) by omega];exact af8 s d N (k+1) (by omega) (by omega)
  .rw[dD (gB (by rw[bP];omega)),show k=s.length by omega]
theorem aqB (s:bU) (A:List RSt) (out:List kX) (from_ n:Int) (P:List Int) (m f to_:Int) (d:Bool) (v:out.length<1000000) (x:n<1000000)
  (g:(dU A dS (dL (bY .i64 from_ 1))).2.1=P) (i:fO A (bY .i64 from_ 1)=true) (l:pW (dL (bY .i64 from_ 1)) A=true) (o:1<n->fO P (dV .i64 n 1)=true)
  (j:Nat) (p:1<n->j<out.length/\(dU out dP j).2.1=dQ P 0 (dV .i64 n 1)) (q: ∀a b,a<out.length->b<out.length->(dU out dP a).2.1=(dU out dP b).2.1->a=b):
  ∀(N k:Nat),out.length-k<N->k<=out.length->
  Jd N s from_ n (k:Int) m f to_ (if 1<n/\j<k then(j:Int)else-1) d out A=a6 (.inl ((s,from_,n,()),((m,f,to_,(if 1<n then(j:Int)else-1),d,()),out,A,())))
 |0,k,h,_=>by omega
 |N+1,k,h,hk=>by
  rw[Jd,Vk];by_cases e:k<out.length
  .have u:=aqB s A out from_ n P m f to_ d v x g i l o j p q N (k+1) (by omega) (by omega);rw[bW (eX (by rw[bP];omega)),dC (a:=(k:Int)) (by omega) (by omega),show(k:Int)+1=((k+1:Nat):Int) by omega];by_cases e1:1<n
   .obtain⟨y,z⟩:=p e1;have B:(dU A ([],([],(false,()))) (dL (bY .i64 from_ 1))).2.1=P:=g;rw[bW (eX e1),bW (ed),bW (sN (by assumption)),i,l,B,o e1];simp only[aa];by_cases e2:k=j
    .simp_all [dU,dL,dW]
    .have: ¬(dU out (0,(0,(0,(0,(false,()))))) (dL (k:Int))).2.1=dQ P 0 (dV .i64 n 1):=fun D=>e2 (q k j e y (D.trans z.symm));rw[dD (dJ this)]
     grind
   .rw[aq (fun h=>e1 h.1)]at u ⊢;rw[dD (gB e1)];exact u
  .rw[dD (gB (by rw[bP];omega))]
   grind
theorem aaU (s:bU) (z:s.length<=100000) (out:List kX) (f n:Nat) (up:Int): ∀(N k:Nat) (m:Int) (p:kX),s.length+1-k<N->f<k->k<=s.length->
  (F6 (jg s k).1)[n]? =a6 (f:Int)->p.1=counts ((rD (jg s k).1).getD n dF).1->p.2.1=f->p.2.2.2.2.1=true->p.2.2.2.1=up->
  EK N s (f:Int) ((n+1:Nat):Int) (k:Int) m f (s.length:Int) up true out (wG s (s.length+1))=
   a6 (.inl ((s,(f:Int),()),(((yZ (s.drop k) k (jg s k) p).1,(f:Int),(if(yZ (s.drop k) k (jg s k) p).2.2.2.2.1=true then(s.length:Int)else(yZ (s.drop k) k (jg s k) p).2.2.1),up,(yZ (s.drop k) k (jg s k) p).2.2.2.2.1,()),out,wG s (s.length+1),())))
   /\(yZ (s.drop k) k (jg s k) p).2.2.2.1=up
 |0,k,m,p,h,_,_,_,_,_,_,_=>by omega
 |N+1,k,m,p,h,W,hk,j,A,q,g,u=>by
  have i:=yL s k;have v:=PG s k hk;obtain⟨X,x⟩:=axo j;have B:dU (wG s (s.length+1)) ([],([],(false,()))) (dL (k:Int))=JX (jg s k):=by
   rw[show dL (k:Int)=k from rfl];exact MZ s (by omega)
  have D:fO (wG s (s.length+1)) (k:Int)=true:=ed (by omega) (by rw[tu];omega);have E:pW (dL (k:Int)) (wG s (s.length+1))=true:=sN (by grind [tu,dL]);obtain⟨G,I⟩:=aN8 i.1 x;have y:=arZ i.1 x;rw[EK,JA,bW (lL (by rw[bP];omega)),D,E,B];simp only[aa,JX];rw[aIe i.1 (by omega),bJ,aub v j,dD (dJ),I,G];simp only[aa];rw[aKs y.1 y.2,bJ,dC,show(k:Int)+1=((k+1:Nat):Int) by omega];simp only;by_cases e:k<s.length
  .have hd:s.drop k=s[k]::s.drop (k+1):=ay e;have l:=JE e;have J:cO s (k:Int)=jI s[k]:=byte_at e;rw[J]at l;have K:=yL s (k+1);have L:=PG s (k+1) (by omega);have M:yZ (s.drop k) k (jg s k) p=yZ (s.drop (k+1)) ((k+1:Nat):Int) (jg s (k+1)) (oL (rD (jg s (k+1)).1) k p):=by
    grind [yZ]
   rw[M];rcases stay i.1 v j (jg s k).2 (jI s[k])with h1|h1
   .rw[<-l]at h1;have o:oL (rD (jg s (k+1)).1) k p=(counts ((rD (jg s (k+1)).1).getD n dF).1,p.2):=by
     unfold oL;rw[am g,q,aw1 L h1]
    rw[o];exact aaU s z out f n up N (k+1) _ _ (by omega) (by omega) (by omega) h1 rfl q g u
   .rw[<-l]at h1;have o:oL (rD (jg s (k+1)).1) k p=Pi (k+1) p:=by
     simp_all [oL,aw0]
    have O:dU (wG s (s.length+1)) ([],([],(false,()))) (dL ((k+1:Nat):Int))=JX (jg s (k+1)):=by
     rw[show dL ((k+1:Nat):Int)=k+1 from rfl];exact MZ s (by omega)
    have S:fO (wG s (s.length+1)) ((k+1:Nat):Int)=true:=ed (by omega) (by rw[tu];omega);have U:pW (dL ((k+1:Nat):Int)) (wG s (s.length+1))=true:=sN (by simp_all [tu,dL]);rw[o,Z4 _ _ _ _ rfl];obtain⟨d,rfl⟩: ∃d,N=d+1:=⟨N-1,by omega⟩;rw[EK,JA,bW (lL (by rw[bP];omega)),S,U,O];simp only[aa,JX];rw[aIe K.1 (by omega),bJ,auc h1,bW (dW rfl)];simp_all [Pi]
  .have V:k=s.length:=by omega
   subst V;rw[List.drop_length,yZ];obtain⟨d,rfl⟩: ∃d,N=d+1:=⟨N-1,by omega⟩;rw[EK,JA,dD (xB (by rw[bP];omega)),am g,g,A];exact⟨rfl,u⟩
theorem ast (F:List qL) (a:Int):acQ F a=decide ((F.map (·.2.1)).getLast?=a6 a):=by
 grind [acQ]
theorem acU (s:bU) (G:s.length<=100000): ∀(N k:Nat) (out:List kX),s.length-k<N->k<=s.length->out.length<=k->
  (∀a b,a<out.length->b<out.length->(dU out dP a).2.1=(dU out dP b).2.1->a=b)->(∀p∈out,p.2.1<(k:Int))->(∀v∈F6 (jg s k).1,v∈out.map (·.2.1))->
  LD N s (k:Int) out (wG s (s.length+1))=a6 (.inl ((),(out++(wI (s.drop k) k (jg s k) (out.map (·.2.1))).map (wR s),())))
 |0,k,out,h,_,_,_,_,_=>by omega
 |N+1,k,out,h,hk,aY,y,I,av=>by
  rw[LD,afm];by_cases e:k<s.length
  .have hd:s.drop k=s[k]::s.drop (k+1):=ay e;have J:=JE e;have z:cO s (k:Int)=jI s[k]:=byte_at e;rw[z]at J;have hg:=yL s k;have aw:=PG s k hk;have K:=yL s (k+1);have az:=PG s (k+1) (by omega);have i:bY .i64 (k:Int) 1=((k+1:Nat):Int):=by rw[dC];omega
   have W:dU (wG s (s.length+1)) ([],([],(false,()))) (dL ((k+1:Nat):Int))=JX (jg s (k+1)):=by
    rw[show dL ((k+1:Nat):Int)=k+1 from rfl];exact MZ s (by omega)
   have X:fO (wG s (s.length+1)) ((k+1:Nat):Int)=true:=ed (by omega) (by rw[tu];omega);have Y:pW (dL ((k+1:Nat):Int)) (wG s (s.length+1))=true:=sN (by rw[tu];simp only[dL];omega);rw[bW (eX (by rw[bP];omega)),i,X,Y,W,hd,wI,<-J];simp only[aa,JX];rw[aIe K.1 (by omega),bJ,ast,vU];obtain⟨c,hc,g⟩:=O3 hg.1 (jg s k).2 (jI s[k]) k;rw[<-J]at g;have Z:((F6 (jg s k).1).take c).length=c:=by rw[aZ];omega
   have L: ∀v∈(F6 (jg s k).1).take c,v∈out.map (·.2.1):=fun v f=>av v (bF f);rcases g with g|g
   .
    have ab:(k:Int)∉F6 (jg s (k+1)).1:=fun f=>by
     rw[g]at f;have:=aw.lt _ (bF f);omega
    have M: ¬(F6 (jg s (k+1)).1).getLast?=a6 (k:Int):=fun f=>ab (List.mem_of_getLast? f);rw[auc ab,bW (dW rfl),decide_eq_false M];simp only[ag,if_false];exact acU s G N (k+1) out (by omega) (by omega) (by omega) y (fun p O=>by have:=I p O;omega) (fun v f=>by rw[g]at f;exact L v f)
   .have ad:(F6 (jg s (k+1)).1)[c]? =a6 (k:Int):=by
     rw[g,List.getElem?_append_right (by omega),Z];simp
    have M:(F6 (jg s (k+1)).1).getLast?=a6 (k:Int):=by rw[g];simp
    have af:(rD (jg s (k+1)).1).length=c+1:=by rw[RU,g,ai,Z];rfl
    rw[aub az ad,dD (dJ),decide_eq_true M];simp only[if_true];have bd:=NU (jg s (k+1)).1;have bf:=K.2;have aA:1<((c+1:Nat):Int)->fO (po (jg s (k+1)).1) (dV .i64 ((c+1:Nat):Int) 1)=true:=fun d=>by
     rw[fV];refine ed (by omega) ?_;rw[XW];have:=NU (jg s (k+1)).1;omega
    obtain⟨t,ht⟩:=azt K.1;have aG:1<((c+1:Nat):Int)->dQ (po (jg s (k+1)).1) 0 (dV .i64 ((c+1:Nat):Int) 1)=((rD (jg s (k+1)).1).getD (c-1) dF).2.1:=fun d=>by
     rw[fV,ht,uM,vU];unfold dQ;rw[show(((c+1:Nat):Int)-1).toNat=(c-1)+1 by omega,List.getD_cons_succ]
    have aI: ∃j:Nat,1<((c+1:Nat):Int)->j<out.length/\(dU out dP j).2.1=((rD (jg s (k+1)).1).getD (c-1) dF).2.1/\axy (out.map (·.2.1)) ((rD (jg s (k+1)).1).getD (c-1) dF).2.1=(j:Int):=by
     by_cases d:1<((c+1:Nat):Int)
     .have aK:((rD (jg s (k+1)).1).getD (c-1) dF).2.1∈out.map (·.2.1):=by
       refine L _ ?_;rw[uM,vU,g,List.getD_eq_getElem?_getD,List.getElem?_append_left (by omega),List.getElem?_eq_getElem (by omega)];exact aF _
      obtain⟨j,A,aj⟩:=List.getElem_of_mem aK;rw[aP]at A;rw[List.getElem_map]at aj;have ak:(dU out dP j).2.1=((rD (jg s (k+1)).1).getD (c-1) dF).2.1:=by rw[rF A];exact aj
      exact⟨j,fun _=>⟨A,ak,by rw[<-ak];exact ahf y A⟩⟩
     .exact⟨0,fun l=>absurd l d⟩
    obtain⟨j,S⟩:=aI;have al:=aqB s (wG s (s.length+1)) out (k:Int) ((c+1:Nat):Int) (po (jg s (k+1)).1) 0 (k:Int) (s.length:Int) true (by omega) (by have:=NU (jg s (k+1)).1;omega)
     (by rw[i];exact congrArg (·.2.1) W) (by rw[i];exact X) (by rw[i];exact Y) aA j (fun d=>⟨(S d).1,(S d).2.1.trans (aG d).symm⟩) y bV 0 (dI) (by omega)
    rw[aq (by omega)]at al;rw[show Jd bV s (k:Int) ((c+1:Nat):Int) 0 0 (k:Int) (bM s) (-1) true out (wG s (s.length+1))=_ from al,bJ];simp only[dO];have B:BO (rD (jg s (k+1)).1) k (out.map (·.2.1))=(counts ((rD (jg s (k+1)).1).getD c dF).1,(k:Int),0,(if 1<((c+1:Nat):Int)then(j:Int)else-1),true,()):=by
     unfold BO;have aQ:(rD (jg s (k+1)).1).getLastD dF=(rD (jg s (k+1)).1).getD c dF:=by
      rw[List.getLastD_eq_getLast?,List.getLast?_eq_getElem?,af,List.getD_eq_getElem?_getD];rfl
     rw[aQ,af];by_cases d:1<((c+1:Nat):Int)
     .rw[aq (by omega),am d,show c+1-2=c-1 by omega,(S d).2.2]
     .rw[am (by omega),aq d]
    obtain⟨aV,U⟩:=aaU s G out k c (if 1<((c+1:Nat):Int)then(j:Int)else-1) bV (k+1) 0 (BO (rD (jg s (k+1)).1) k (out.map (·.2.1))) (dI) (by omega) (by omega) ad (by rw[B]) (by rw[B]) (by rw[B]) (by rw[B]);rw[i,aV,bJ];simp only;have o:=IM (s.drop (k+1)) ((k+1:Nat):Int) (jg s (k+1)) (BO (rD (jg s (k+1)).1) k (out.map (·.2.1)));have aW:(BO (rD (jg s (k+1)).1) k (out.map (·.2.1))).2.1=(k:Int):=rfl;rw[aW]at o;rw[show((k:Int)+1)=((k+1:Nat):Int) by omega];generalize hq:yZ (s.drop (k+1)) ((k+1:Nat):Int) (jg s (k+1)) (BO (rD (jg s (k+1)).1) k (out.map (·.2.1)))=q at*;have an: ∀x:kX,eH (cu out [x]) 40=true:=fun x=>by
     unfold eH cu;exact decide_eq_true (by rw[ai];simp only[aS,List.length_nil];unfold mD;omega)
    have go:LD N s ((k+1:Nat):Int) (out++[wR s q]) (wG s (s.length+1))=a6 (.inl ((),(out++(q::wI (s.drop (k+1)) ((k+1:Nat):Int) (jg s (k+1)) (out.map (·.2.1)++[(k:Int)])).map (wR s),()))):=by
     have u:(wR s q).2.1=(k:Int):=(Z5 s q).trans o;have D: ∀a,a<out.length->dU (out++[wR s q]) dP a=dU out dP a:=fun a m=>by
      unfold dU;rw[List.getD_eq_getElem?_getD,List.getD_eq_getElem?_getD,List.getElem?_append_left m]
     have ao:dU (out++[wR s q]) dP out.length=wR s q:=by
      unfold dU;rw[List.getD_eq_getElem?_getD,List.getElem?_append_right (ae _)];simp
     have au: ∀a,a<out.length->(dU out dP a).2.1<(k:Int):=fun a m=>by rw[rF m];exact I _ (aF m)
     have ih:=acU s G N (k+1) (out++[wR s q]) (by omega) (by omega) (by simp;omega)
      (fun a b m z E=>by
       rw[ai]at m z;simp only[aS,List.length_nil]at m z;rcases aO a out.length with d|d<;>rcases aO b out.length with l|l
       .rw[D a d,D b l]at E;exact y a b d l E
       .rw[D a d,show b=out.length by omega,ao,u]at E;have:=au a d;omega
       .rw[D b l,show a=out.length by omega,ao,u]at E;have:=au b l;omega
       .omega)
      (fun p O=>by
       rcases List.mem_append.1 O with d|d
       .have:=I p d;omega
       .rw[List.mem_singleton.1 d,u];omega)
      (fun v f=>by
       rw[g]at f;rw[List.map_append];rcases List.mem_append.1 f with d|d
       .exact List.mem_append_left _ (L v d)
       .rw[List.mem_singleton.1 d];exact bH _ (by simp[u]))
     rw[ih];rw[List.map_append,ah,ax];simp only[ax,List.map_nil,u];rfl
    by_cases e12:q.1=12
    .rw[bW (dW e12),i,aCp (by omega) (by omega),bJ,an,aa];have aX:=alY (s.drop (k+1));rw[aU]at aX;rw[dC];have V:wR s q=(q.1,(k:Int),((k+1:Nat):Int)+((prl (s.drop (k+1)):Nat):Int),(if 1<((c+1:Nat):Int)then(j:Int)else-1),false,()):=by
      unfold wR;rw[am e12,o,U,show((k:Int)+1).toNat=k+1 by omega,show(k:Int)+1=((k+1:Nat):Int) by omega]
     rw[<-V];exact go
    .rw[dD (dJ e12),i,an,aa];have V:wR s q=(q.1,(k:Int),(if q.2.2.2.2.1=true then(s.length:Int)else q.2.2.1),(if 1<((c+1:Nat):Int)then(j:Int)else-1),q.2.2.2.2.1,()):=by
      unfold wR;rw[aq e12];by_cases ho:q.2.2.2.2.1=true
      .rw[am ho,am ho,o,U,ho]
      .rw[aq ho,aq ho,<-o,<-U]
     rw[<-V];exact go
  .rw[dD (gB (by rw[bP];omega)),aB (by omega),wI];simp
theorem aH7 (s:bU) (d:s.length<=100000):aw8 s=a6 (bQ s,()):=by
 unfold aw8;have e:=af8 s d bV 0 (RH) (by omega);have f:=acU s d bV 0 [] (RH) (by omega) (by simp) (fun a b g=>by cases g) (fun p h=>by cases h) (fun v i=>by cases i);rw[show ajZ=a6 (JX eQ,()) from rfl,bJ,show Qv bV s 0 [(JX eQ,()).1]=_ from e,bJ];simp only[dO];rw[show LD bV s 0 [] (wG s (s.length+1))=_ from f,bJ];simp only[aH,aJ];rw[AV];rfl
end
section
open List renaming mem_cons_of_mem → au, length_drop → aU
open Nat renaming le_refl → ae
open Go.RowKit
theorem akx {g f:Int×Int} {r:gy} (d:iQ (f::g::r)):g.1≠13:=by
 have:=d.2.2.1
 grind [Xe]
theorem IL {m:Int} {f:Int×Int} {r:gy} (hf:f.1=m\/m≠13/\f.1≠13) (e: ∀g d,r=g::d->g.1≠13) (q:r=[]->m≠13) (fr:Bool) (b i:Int):
  ∀g d,(jm m (f::r) fr b i).1=g::d->g.1=13->g.2=i:=by
 intro g d h j;have l: ∀{x:Int×Int} {y:gy},x::y=g::d->x=g:=fun h=>(List.cons.inj h).1;have s:m≠13->f::r=g::d->False:=fun o h=>by
  simp_all
 have p:r=g::d->False:=fun h=>e g d h j;have u: ∀k,(k,i)::f::r=g::d->g.2=i:=fun k h=>by rw[<-l h]
 unfold jm at h;split at h
 .rename_i o
  have v:m≠13:=by omega
  unfold H8 at h
  grind
 .split at h
  .exact(p h).elim
  grind [BF]
theorem awy {s:gy} (j:iQ s) (fr:Bool) (b i:Int): ∀g∈(gJ s fr b i).1,g.1=13->g.2=i:=by
 have o: ∀g d,(gJ s fr b i).1=g::d->g.1=13->g.2=i:=by
  cases s with
  |nil=>cases j
  |cons f r=>
  intro g d h l;have D: ∀{x:Int×Int} {y:gy},x::y=g::d->x=g:=fun h=>(List.cons.inj h).1;have p: ∀g d,r=g::d->g.1≠13:=fun g d e=>by subst e;exact akx j
  have A: ∀g u d,r=g::u::d->u.1≠13:=fun g u d e=>by subst e;exact akx j.2.2.2
  have E: ∀k:Int,k≠13->(k,f.2)::r=g::d->False:=fun k hk h=>by
   grind
  simp only[gJ]at h;split at h
  .split at h
   .simp_all
   .split at h
    .grind
    .split at h
     .grind
     .cases r with
      |nil=>rename_i G _ _ _;have:f.1=0:=j;omega
      |cons q r=>
       exact IL (.inl rfl) (fun g d e=>A q g d (by rw[e])) (fun _=>by simp_all) fr b i g d h l
  .split at h
   .split at h
    .simp_all
    .exact IL (f:=(1,f.2)) (.inl rfl) p (fun _=>by omega) fr b i g d h l
   .split at h
    .split at h
     .grind
     .exact IL (f:=(9,f.2)) (.inl rfl) p (fun _=>by omega) fr b i g d h l
    .refine IL (.inl rfl) p (fun e=> ?_) fr b i g d h l;subst e;have:f.1=0:=j;omega
 have v:=(good_step j fr b i).1;revert o v;generalize (gJ s fr b i).1=y;intro o v g m l;cases y with
 |nil=>cases m
 |cons f r=>
  rcases List.mem_cons.1 m with e|m
  .simp_all
  .exfalso;clear o
   induction r generalizing f with
   |nil=>cases m
   |cons q r B=>
    rcases List.mem_cons.1 m with e|z
    .grind [akx]
    .exact B q v.2.2.2 (au _ z) z
def PI (p:kX) (a:Int):Prop:=0<=p.2.1/\p.2.1<a/\(p.2.2.2.2.1=true/\(p.1=13->p.2.1+1=a)\/p.2.2.2.2.1=false/\p.2.1+2<=p.2.2.1/\p.2.2.1<=a/\(p.1=13->p.2.2.1=p.2.1+2))
theorem aqQ {m:Int} (h:counts m=13):m=13:=by
 grind [counts]
theorem aDm {s:gy} {f:qL} (h:f∈rD s):(f.1,f.2.1)∈s:=by
 unfold rD at h;rw[List.mem_reverse,List.mem_map]at h;obtain⟨g,d,rfl⟩:=h
 grind [List.dropLast_sublist]
theorem arR {F:List qL} {v m:Int} (h:J8 F v=some m): ∃f∈F,f.2.1=v/\f.1=m:=by
 unfold J8 at h;obtain⟨f,d,rfl⟩:=Option.map_eq_some_iff.1 h
 grind
theorem aLc {s:gy} (j:iQ s) (fr:Bool) (b a:Int) {p:kX} (h:PI p a):PI (oL (rD (gJ s fr b a).1) a p) (a+1):=by
 obtain⟨g,v,l⟩:=h;unfold oL;rcases l with ⟨d,i⟩|⟨d,i,x,o⟩
 .rw[am d];split
  .rename_i m q
   refine⟨g,by simp only;omega,.inl ⟨d,fun h=> ?_⟩⟩;have y:m=13:=aqQ h;obtain⟨f,u,z,e⟩:=arR q;have:=awy j fr b a _ (aDm u) (by simp only;omega);omega
  .refine⟨g,by simp only[Pi];omega,.inr ⟨rfl,by simp only[Pi];omega,by simp[Pi],fun h=> ?_⟩⟩
   grind [Pi]
 .rw[aq (by rw[d];simp)];exact⟨g,by omega,.inr ⟨d,i,by omega,o⟩⟩
theorem aLb {s:gy} (e:iQ s) (fr:Bool) (b:Int) {a:Int} (d:0<=a) (l:List Int):PI (BO (rD (gJ s fr b a).1) a l) (a+1):=
 ⟨d,by simp only[BO];omega,.inl ⟨rfl,fun h=>by simp only[BO]⟩⟩
theorem apd: ∀(l:bU) (a:Int) (x:gy×Bool) (p:kX),iQ x.1->PI p a->PI (yZ l a x p) (a+l.length)
 |[],a,x,p,_,h=>by simpa [yZ] using h
 |b::l,a,x,p,d,h=>by
  rw[yZ];have:=apd l (a+1) (gJ x.1 x.2 (jI b) a) _ (good_step d _ _ _).1 (aLc d x.2 (jI b) a h)
  grind
theorem aeX: ∀(l:bU) (a:Int) (x:gy×Bool) (fr:List Int),0<=a->iQ x.1-> ∀p∈wI l a x fr,PI p (a+l.length)/\a<=p.2.1
 |[],a,x,fr,_,_,p,h=>by cases h
 |b::l,a,x,fr,j,f,p,h=>by
  have g:=(good_step f x.2 (jI b) a).1;have e: ∀d,p∈wI l (a+1) (gJ x.1 x.2 (jI b) a) d->PI p (a+((b::l).length:Int))/\a<=p.2.1:=fun d i=>by
   have:=aeX l (a+1) _ d (by omega) g p i
   grind
  rw[wI]at h;split at h
  .rcases List.mem_cons.1 h with rfl|h
   .grind [apd,aLb,IM,BO]
   .exact e _ h
  .exact e _ h
theorem abK: ∀(l:bU) (a:Int) (x:gy×Bool) (fr:List Int),0<=a->iQ x.1->(wI l a x fr).Pairwise (fun p q=>p.2.1<q.2.1)
 |[],a,x,fr,_,_=>List.Pairwise.nil
 |b::l,a,x,fr,g,e=>by
  have d:=(good_step e x.2 (jI b) a).1;rw[wI];split
  .refine List.Pairwise.cons (fun p f=> ?_) (abK l (a+1) _ _ (by omega) d);have:=(aeX l (a+1) _ _ (by omega) d p f).2
   grind [IM,BO]
  .exact abK l (a+1) _ _ (by omega) d
structure PF (s:bU) (p:kX):Prop where
 f0:0<=p.2.1
 f1:p.2.1<s.length
 t0:p.2.1<p.2.2.1
 t1:p.2.2.1<=s.length
 op:p.2.2.2.2.1=true->p.2.2.1=s.length/\p.1≠12
 sh:p.2.2.2.2.1=false->p.1≠12->p.2.1+2<=p.2.2.1
 es:p.1=13->p.2.2.1<=p.2.1+2
 dl:p.1=12->p.2.2.1=p.2.1+1+((prl (s.drop (p.2.1+1).toNat):Nat):Int)
theorem QR (s:bU): ∀p∈bQ s,PF s p:=by
 intro p i;rw[AV]at i;obtain⟨q,m,rfl⟩:=List.mem_map.1 i;obtain⟨⟨f,d,j⟩,_⟩:=aeX s 0 eQ [] (by omega) jQ q m;rw[Int.zero_add]at d j;have o:=alY (s.drop (q.2.1+1).toNat);rw[aU]at o;unfold wR;split
 .rename_i e
  exact⟨f,d,by simp only;omega,by simp only;omega,fun h=>(by cases h),fun _ h=>absurd e h,fun h=>(by omega),fun _=>rfl⟩
 .rename_i e
  split
  .rename_i g
   refine⟨f,d,d,Int.le_refl _,fun _=>⟨rfl,e⟩,fun h=>(by cases h),fun h=> ?_,fun h=>absurd h e⟩
   grind
  .rename_i g
   rcases j with ⟨l,_⟩|⟨l,u,v,x⟩
   .exact absurd l g
   .exact⟨f,d,by omega,v,fun h=>absurd h g,fun _ _=>u,fun h=>by have:=x h;omega,fun h=>absurd h e⟩
theorem aaH (s:bU):(bQ s).Pairwise (fun p q=>p.2.1<q.2.1):=by
 grind [AV,abK,jQ,Z5]
theorem rY (s:bU):(bQ s).length<=s.length:=by
 have h: ∀(l:bU) (a:Int) (x:gy×Bool) (d:List Int),(wI l a x d).length<=l.length:=by
  intro l
  induction l with
  |nil=>intro a x d;exact ae 0
  |cons b l e=>
   grind [wI]
 simp_all [AV,eQ]
end
section
open Nat renaming le_trans → aQ
open Go.RowKit
def uC (L:List kX) (v:Int):Option kX:=L.find? fun p=>p.2.1==v
theorem Ws {L:List kX} {v:Int} {p:kX} (h:uC L v=some p):p∈L/\p.2.1=v:=
 ⟨List.mem_of_find?_eq_some h,by simpa using List.find?_some h⟩
theorem tV {s:List UInt8} {v:Int} {p:kX} (h:uC (bQ s) v=some p):PF s p/\p.2.1=v:=
 ⟨QR s p (Ws h).1,(Ws h).2⟩
def lone (p:kX):Bool:=decide (p.1=12)&&decide (p.2.2.1=p.2.1+1)
def mX (s:bU) (p:kX):bU:=sub s p.2.1 p.2.2.1
def nK (p:kX):Int:=if p.2.2.2.2.1=true then p.2.2.1 else p.2.2.1-1
def Ny (s:bU) (p:kX):bU:=if p.2.2.1=p.2.1+2/\cO s (p.2.1+1)≠10 then sub s (p.2.1+1) p.2.2.1 else []
def Nw (s:bU) (p:kX):bU:=if p.2.2.1=p.2.1+2 then(if cO s (p.2.1+1)=36\/cO s (p.2.1+1)=96\/cO s (p.2.1+1)=34\/cO s (p.2.1+1)=92 then sub s (p.2.1+1) p.2.2.1 else if cO s (p.2.1+1)=10 then []else mX s p)else []
def gI (s:bU) (L:List kX) (at_:Int):Int×List UInt8×Bool:=
 match uC L at_ with
 |none=>(at_+1,sub s at_ (at_+1),false)
 |some p=>if lone p=true then(at_+1,sub s at_ (at_+1),false)
  else if p.1=13 then(p.2.2.1,Nw s p,false)
  else(p.2.2.1,mX s p,true)
def qf (s:bU) (L:List kX) (to_:Int):Nat->Int->bU
 |0,_=>[]
 |n+1,at_=>if at_<to_ then(gI s L at_).2.1++qf s L to_ n (gI s L at_).1 else []
def stepT (s:bU) (L:List kX) (at_:Int):Int×List UInt8:=
 match uC L at_ with
 |none=>(at_+1,sub s at_ (at_+1))
 |some p=>if lone p=true\/p.1=14 then(p.2.2.1,mX s p)
  else if p.1=13 then(p.2.2.1,Ny s p)
  else if p.1=4 then(p.2.2.1,sub s (p.2.1+1) (nK p))
  else if p.1=5 then(p.2.2.1,qf s L (nK p) s.length (p.2.1+1))
  else(p.2.2.1,mX s p)
def kC (s:bU) (L:List kX):Nat->Int->bU
 |0,_=>[]
 |n+1,at_=>if at_<s.length then(stepT s L at_).2++kC s L n (stepT s L at_).1 else []
def CW (s:bU):bU:=kC s (bQ s) s.length 0
theorem Ii {s:List UInt8} {at_:Int}:at_<(gI s (bQ s) at_).1:=by
 unfold gI;split
 .simp only;omega
 .rename_i p d
  obtain⟨h,e⟩:=tV d;have:=h.t0
  grind
theorem Ij {s:List UInt8} {at_:Int}:at_<(stepT s (bQ s) at_).1:=by
 unfold stepT;split
 .simp only;omega
 .rename_i p d
  obtain⟨h,e⟩:=tV d;have:=h.t0
  grind
theorem Yu {s:List UInt8} {at_:Int} (f:at_<s.length):(stepT s (bQ s) at_).1<=s.length:=by
 unfold stepT;split
 .simp only;omega
 .rename_i p d
  obtain⟨h,e⟩:=tV d;have:=h.t1
  grind
theorem IJ (s:bU) (to_:Int): ∀(n m:Nat) (at_:Int),to_-at_<=n->to_-at_<=m->qf s (bQ s) to_ n at_=qf s (bQ s) to_ m at_
 |0,0,_,_,_=>rfl
 |0,m+1,at_,h,_=>by rw[qf,qf,aq (by omega)]
 |n+1,0,at_,_,h=>by rw[qf,qf,aq (by omega)]
 |n+1,m+1,at_,d,e=>by
  rw[qf,qf];split
  .have:= @Ii s at_;rw[IJ s to_ n m _ (by omega) (by omega)]
  .rfl
theorem D9 (s:bU): ∀(n m:Nat) (at_:Int),(s.length:Int)-at_<=n->(s.length:Int)-at_<=m->kC s (bQ s) n at_=kC s (bQ s) m at_
 |0,0,_,_,_=>rfl
 |0,m+1,at_,h,_=>by rw[kC,kC,aq (by omega)]
 |n+1,0,at_,_,h=>by rw[kC,kC,aq (by omega)]
 |n+1,m+1,at_,d,e=>by
  rw[kC,kC];split
  .have:= @Ij s at_;rw[D9 s n m _ (by omega) (by omega)]
  .rfl
theorem FP {d:Type} (l:List d) (a b:Int):(sub l a b).length<=l.length:=by
 grind [sub]
theorem JF (s:bU) (L:List kX) (at_:Int):(gI s L at_).2.1.length<=s.length:=by
 unfold gI;split
 .exact FP s _ _
 .split
  .exact FP s _ _
  .split
   .simp only;unfold Nw mX
    repeat' split
    all_goals simp_all [FP]
   .exact FP s _ _
theorem agw (s:bU) (L:List kX) (to_:Int): ∀(n:Nat) (at_:Int),(qf s L to_ n at_).length<=n*s.length
 |0,_=>by simp[qf]
 |n+1,at_=>by
  rw[qf];split
  .have:=JF s L at_;have:=agw s L to_ n (gI s L at_).1
   grind
  simp
theorem JG (s:bU) (L:List kX) (at_:Int):(stepT s L at_).2.length<=s.length*s.length+s.length:=by
 have h: ∀a b,(sub s a b).length<=s.length*s.length+s.length:=fun a b=>aQ (FP s a b) (Nat.le_add_left _ _);unfold stepT;split
 .exact h _ _
 .split
  .exact h _ _
  .split
   .simp only;unfold Ny
    grind
   .split
    .exact h _ _
    .split
     .exact aQ (agw _ _ _ _ _) (Nat.le_add_right _ _)
     .exact h _ _
theorem ZH (s:bU) (L:List kX): ∀(n:Nat) (at_:Int),(kC s L n at_).length<=n*(s.length*s.length+s.length)
 |0,_=>by simp[kC]
 |n+1,at_=>by
  rw[kC];split
  .have:=JG s L at_;have:=ZH s L n (stepT s L at_).1
   grind
  simp
end
section
open Option renaming some → a6, none → a7
open Tryz
open Go.RowKit
noncomputable def aIg:Code:=(f126.body).getD .skip
noncomputable def aus:Code:=cA (cA (cA (cB (cB (cA (cA (cB (cA (cA (cB (cA (cB (cB (aIg))))))))))))))
noncomputable def aur:Code:=cA (cA (cB (cA (cB (cB (aIg))))))
def axL:eY:=⟨[0,5,9,10,100007],[],[0,5,9,10],[],[6,7],[]⟩
def axK:eY:=⟨[0,5,8,9,100003],[],[0],[],[6,7],[]⟩
def ade:SP:=⟨fW,eo⟩
def adT:SP:=⟨fW,eo⟩
def aet:SP:=⟨us eE 66,[]⟩
def UX {i:Type} (l j:bU->Int->Int->bU->Bool->Option i) (m:Int->Int->Option i) (e:bU) (f d:Int) (h:bU) (g:Bool):Option i:=cond g (cond (gU d f) (cond (fO e d) (cond (bZ (cO e d) 9) (l e f (bY .i64 d 1) h g)<|j e f d h g) a7)<|j e f d h g)<|j e f d h g
def Om:Nat->bU->Int->Int->bU->Bool->Option (adT.den⊕aet.den)
 |0,_,_,_,_,_=>a7
 |n+1,d,e,f,g,h=>UX (Om n) (fun i j l m o=>a6 (.inl ((i,j,l,()),((m,o,()),())))) (fun p q=>a6 (.inr ((p,q,()),()))) d e f g h
def aDU (n:Nat) (v:ade.den):=Om n v.1.1 v.1.2.1 v.1.2.2.1 v.2.1.1 v.2.1.2.1
noncomputable def anZ:dG:=fK axL ade adT aet (.exit 2) (aDU bV) 6
def adc:SP:=⟨us [ci,.u,.u,.u,.u,cK,.u,.u,cg,cg] 64,eo⟩
def Uw:SP:=⟨us [ci] 73,[]⟩
def UD:SP:=⟨us eE 66,[]⟩
def sS {e:Type} (h:bU) (i j:Int) (l:bU) (m:Bool) (f:Int->Int->Option e) (o:bU->Int->Int->bU->Bool->Option e):Option e:=bK (Om bV h i j l m) fun p=>dO p (fun d=>cond (dZ (bM d.1.1) d.1.2.2.1 d.1.2.1) (cond (gm (sub d.1.1 d.1.2.2.1 d.1.2.1) d.2.1.1) (cond (gU d.1.2.1 (bM d.1.1)) (f (bY .i64 d.1.2.1 1) 1)<|f d.1.2.1 1)<|o d.1.1 (bY .i64 d.1.2.1 1) (bY .i64 d.1.2.1 1) d.2.1.1 d.2.1.2.1) a7) (fun g=>f g.1.1 g.1.2.1)
def Jz {j:Type} (g:bU->Int->Int->bU->Bool->Option j) (m:bU->Option j) (l:Int->Int->Option j) (e:bU) (f d:Int) (h:bU) (i:Bool):Option j:=cond (leI d (bM e)) (cond (gU d (bM e)) (cond (fO e d) (cond (!(bZ (cO e d) 10)) (g e f (bY .i64 d 1) h i)<|cond (bZ d (bM e)) (cond (bZ f d) (g e f (bY .i64 d 1) h i)<|sS e d f h i l g)<|sS e d f h i l g) a7)<|cond (bZ d (bM e)) (cond (bZ f d) (g e f (bY .i64 d 1) h i)<|sS e d f h i l g)<|sS e d f h i l g)<|m e
def xI:Nat->bU->Int->Int->bU->Bool->Option (Uw.den⊕UD.den)
 |0,_,_,_,_,_=>a7
 |n+1,d,e,f,g,h=>Jz (xI n) (fun i=>a6 (.inl ((i,()),()))) (fun j l=>a6 (.inr ((j,l,()),()))) d e f g h
def aDT (n:Nat) (v:adc.den):=xI n v.1.1 v.1.2.1 v.1.2.2.1 v.2.1.1 v.2.1.2.1
noncomputable def anY:dG:=fK axK adc Uw UD (.exit 0) (aDT bV) 12
def amX (g:bU) (d:Int) (e:bU×oJ):Option lD:=bK (xI bV g d d e.1 e.2.1) fun h=>dO h (fun i=>a6 ((bM i.1.1),(0,()))) (fun f=>a6 (f.1.1,(f.1.2.1,())))
def aAO:Sum:=⟨[.str,cZ,Iy],tzJ,fun x=>amX x.1 x.2.1 x.2.2.1⟩
noncomputable def abX:Env:=iW prog tt 126 [] [(7,axL),(3,axK)] [(7,anZ),(3,anY)]
def apx {d:Type} (a:ade.den->Option d) (b:adT.den->Option d) (c:aet.den->Option d) (v:ade.den):Option d:=UX (fun e f g h i=>a ((e,f,g,()),((h,i,()),()))) (fun j l m o p=>b ((j,l,m,()),((o,p,()),()))) (aL c) v.1.1 v.1.2.1 v.1.2.2.1 v.2.1.1 v.2.1.2.1
theorem aEF:dY abX 126 aus anZ:=uz (apx) (h2:=by intros;simp only[apx,aL,UX,dw,dA,bJ,dh,dB])
def apw {d:Type} (a:adc.den->Option d) (b:Uw.den->Option d) (c:UD.den->Option d) (v:adc.den):Option d:=Jz (fun e f g h i=>a ((e,f,g,()),((h,i,()),()))) (aE b) (aL c) v.1.1 v.1.2.1 v.1.2.2.1 v.2.1.1 v.2.1.2.1
theorem aEE:dY abX 126 aur anY:=uz (apw) (h2:=by intros;simp only[apw,aE,aL,Jz,dw,dA,bJ,dh,dB,sS])
theorem aJo:dR abX 126 aIg:=oq [aus,aur] (aD (fM (aEF)) (aD (fM (aEE)) aN))
theorem aq1:fH abX:=eA f126 aN (aJo)
theorem asW:dX prog 126 aAO:=sA aq1
noncomputable def aMw:Code:=(f127.body).getD .skip
noncomputable def aut:Code:=cA (cA (cA (cB (aMw))))
def adf:SP:=⟨us [ci,cg] 40,[]⟩
def Ux:SP:=⟨us [.u,cg] 40,[]⟩
def UE:SP:=⟨us dg 37,[]⟩
def UY {g:Type} (h:bU->Int->Option g) (f i:Int->Option g) (e:bU) (d:Int):Option g:=cond (gU d (bM e)) (cond (fO e d) (cond (bZ (cO e d) 32) (h e (bY .i64 d 1))<|cond (fO e d) (cond (bZ (cO e d) 9) (h e (bY .i64 d 1))<|cond (fO e d) (cond (bZ (cO e d) 92) (cond (gU (bY .i64 d 1) (bM e)) (cond (fO e (bY .i64 d 1)) (cond (bZ (cO e (bY .i64 d 1)) 10) (h e (bY .i64 d 2))<|f d) a7)<|f d)<|f d) a7) a7) a7)<|f d
def I7:Nat->bU->Int->Option (Ux.den⊕UE.den)
 |0,_,_=>a7
 |n+1,d,e=>UY (I7 n) (fun f=>a6 (.inl ((f,()),()))) (fun g=>a6 (.inr ((g,()),()))) d e
def aDV (n:Nat) (v:adf.den):=I7 n v.1.1 v.1.2.1
noncomputable def an0:dG:=fK acG adf Ux UE (.exit 0) (aDV bV) 6
def amY (d:bU) (e:Int):Option zN:=bK (I7 bV d e) fun f=>dO f (fun g=>a6 (g.1.1,())) (fun h=>a6 (h.1.1,()))
def aAP:Sum:=⟨[.str,cZ],TL,fun x=>amY x.1 x.2.1⟩
noncomputable def ajo:Env:=iW prog tt 127 [] [(1,acG)] [(1,an0)]
def apy {d:Type} (a:adf.den->Option d) (b:Ux.den->Option d) (c:UE.den->Option d) (v:adf.den):Option d:=UY (aL a) (aE b) (aE c) v.1.1 v.1.2.1
theorem aEG:dY ajo 127 aut an0:=uz (apy) (h2:=by intros;simp only[apy,aL,aE,UY,dw,dA,bJ,dh,dB])
theorem aJp:dR ajo 127 aMw:=oq [aut] (aD (fM (aEG)) aN)
theorem aq2:fH ajo:=eA f127 aN (aJp)
theorem asX:dX prog 127 aAP:=sA aq2
noncomputable def aMy:Code:=(f129.body).getD .skip
noncomputable def auv:Code:=cA (cA (cA (cB (cB (cB (aMy))))))
def axM:eY:=⟨[3,100004],[],[3],[],[2],[]⟩
def adh:SP:=⟨us [.u,.u,.u,ci] 29,[]⟩
def adV:SP:=⟨us [.u,.u,.u,ci] 29,[]⟩
def aev:SP:=⟨us [.u,.u,ci] 30,[]⟩
def aff {e:Type} (g f h:bU->Option e) (d:bU):Option e:=cond (gU 0 (bM d)) (cond (fO d (dV .i64 (bM d) 1)) (cond (bZ (cO d (dV .i64 (bM d) 1)) 32) (cond (dZ (bM d) 0 (dV .i64 (bM d) 1)) (g (sub d 0 (dV .i64 (bM d) 1))) a7)<|f d) a7)<|f d
def acN:Nat->bU->Option (adV.den⊕aev.den)
 |0,_=>a7
 |n+1,d=>aff (acN n) (fun e=>a6 (.inl ((e,()),()))) (fun f=>a6 (.inr ((f,()),()))) d
def aDX (n:Nat) (v:adh.den):=acN n v.1.1
noncomputable def an2:dG:=fK axM adh adV aev (.exit 0) (aDX bV) 6
def NL (d:Int):Option YG:=cond (gU d 1) (a6 ([],()))<|cond (gU 17 d) (a6 ([],()))<|cond (dZ (bM [38,38,32,124,124,32,59,59,32,60,60,32,60,60,45,62,62,32,60,38,32,62,38,32,60,62,32,62,124,32,60,32,32,62,32,32,38,32,32,59,32,32,124,32,32,40,32,32,41,32,32]) (ass .i64 3 (dV .i64 d 1)) (ass .i64 3 d)) (bK (acN bV (sub [38,38,32,124,124,32,59,59,32,60,60,32,60,60,45,62,62,32,60,38,32,62,38,32,60,62,32,62,124,32,60,32,32,62,32,32,38,32,32,59,32,32,124,32,32,40,32,32,41,32,32] (ass .i64 3 (dV .i64 d 1)) (ass .i64 3 d))) fun e=>dO e (fun f=>a6 (f.1.1,())) (fun g=>a6 (g.1.1,()))) a7
def afN:Sum:=⟨[cZ],tzG,fun x=>NL x.1⟩
noncomputable def ajq:Env:=iW prog tt 129 [] [(4,axM)] [(4,an2)]
def apB {d:Type} (a:adh.den->Option d) (b:adV.den->Option d) (c:aev.den->Option d) (v:adh.den):Option d:=aff (aE a) (aE b) (aE c) v.1.1
theorem aEI:dY ajq 129 auv an2:=uz (apB) (h2:=by intros;simp only[apB,aE,aff,dw,dA,bJ,dh,dB])
theorem aJr:dR ajq 129 aMy:=oq [auv] (aD (fM (aEI)) aN)
theorem aq4:fH ajq:=eA f129 aN (aJr)
theorem Ri:dX prog 129 afN:=sA aq4
noncomputable def aMx:Code:=(f128.body).getD .skip
noncomputable def auu:Code:=cA (cA (cB (cA (cB (cB (aMx))))))
def adg:SP:=⟨us [ci,cg,.u,.u,.u,cg,cg] 35,[]⟩
def adU:SP:=⟨us [.u,.u,.u,.u,.u,cg] 36,[]⟩
def aeu:SP:=⟨us dg 37,[]⟩
def UZ {j:Type} (i:bU->Int->Int->Int->Option j) (l o:Int->Option j) (e:bU) (d g f:Int):Option j:=cond (leI f 17) (bK (NL f) fun h=>cond (leI (bM h.1) (dV .i64 (bM e) d)) (cond (dZ (bM e) d (bY .i64 d (bM h.1))) (cond (gm (sub e d (bY .i64 d (bM h.1))) h.1) (bK (NL g) fun m=>cond (gU (bM m.1) (bM h.1)) (i e d f (bY .i64 f 1))<|i e d g (bY .i64 f 1))<|i e d g (bY .i64 f 1)) a7)<|i e d g (bY .i64 f 1))<|l g
def I8:Nat->bU->Int->Int->Int->Option (adU.den⊕aeu.den)
 |0,_,_,_,_=>a7
 |n+1,d,e,f,g=>UZ (I8 n) (fun h=>a6 (.inl ((h,()),()))) (fun i=>a6 (.inr ((i,()),()))) d e f g
def aDW (n:Nat) (v:adg.den):=aR (I8 n) v
noncomputable def an1:dG:=fK anE adg adU aeu (.exit 0) (aDW bV) 6
def agO (d:bU) (e:Int):Option zN:=bK (I8 bV d e 0 1) fun f=>dO f (fun g=>a6 (g.1.1,())) (fun h=>a6 (h.1.1,()))
def aAQ:Sum:=⟨[.str,cZ],TL,fun x=>agO x.1 x.2.1⟩
noncomputable def ajp:Env:=iW prog tt 128 [(129,afN)] [(3,anE)] [(3,an1)]
def apz {d:Type} (a:adg.den->Option d) (b:adU.den->Option d) (c:aeu.den->Option d) (v:adg.den):Option d:=aR (UZ (aM a) (aE b) (aE c)) v
theorem aEH:dY ajp 128 auu an1:=uz (apz) (h2:=by intros;simp only[apz,aM,aE,aR,UZ,dw,dA,bJ,dh,dB])
theorem aJq:dR ajp 128 aMx:=oq [auu] (aD (fM (aEH)) aN)
theorem aq3:fH ajp:=eA f128 (aD Ri aN) (aJq)
theorem asY:dX prog 128 aAQ:=sA aq3
def WC (e:bU):Option oJ:=bK (aw7 e) fun d=>cond (gm d.1.1 [84]) (a6 (true,()))<|some ((gm d.1.1 [84,76]),())
def aAT:Sum:=⟨[.str],KO,fun x=>WC x.1⟩
theorem as1:dX prog 131 aAT:=qA f131 [] (sE aiA aN)
end
section
open Option renaming some → a6, none → a7
open Bool renaming false_eq_true → ag, not_true → ak, not_eq_true → bg
open List renaming length_append → ai, drop_eq_getElem_cons → ay, drop_of_length_le → aB, getElem_mem → aF, length_map → aP, length_drop → aU
open Nat renaming le_refl → ae, lt_or_ge → aO
open Go.RowKit
def tC (b:Int):Bool:=decide (b=32)||decide (b=9)
def Ku (b:Int):Bool:=decide (b=124)||decide (b=38)||decide (b=59)||decide (b=60)||decide (b=62)||decide (b=40)||decide (b=41)
theorem aKy: ∀n:Fin 256,(match J9 ((n.val:Nat):Int)with|some (k,_)=>(bZ k 1==tC ((n.val:Nat):Int))&&(bZ k 3==Ku ((n.val:Nat):Int))|none=>false)=true:=by decide+kernel
theorem aKx {b:Int} (h:isByte b): ∃k,J9 b=a6 (k,())/\bZ k 1=tC b/\bZ k 3=Ku b:=by
 obtain⟨n,rfl⟩:=VR h;have:=aKy n
 grind
def MS:List bU:=[[38,38],[124,124],[59,59],[60,60],[60,60,45],[62,62],[60,38],[62,38],[60,62],[62,124],[60],[62],[38],[59],[124],[40],[41]]
def Zg (u:bU):Nat:=match MS.findIdx? (· ==u)with
 |some j=>j+1
 |none=>0
theorem aB9: ∀n:Fin 18,n.val≠0->am9 ((n.val:Nat):Int)=a6 (MS.getD (n.val-1) [],()):=by decide+kernel
theorem ab6 {d:Type} (p:d->Bool) (l:List d) {k:Nat} (h:k<l.length):(l.drop k).findIdx? p=if p l[k]=true then a6 0 else((l.drop (k+1)).findIdx? p).map (· +1):=by
 grind [ay]
theorem aaD (u:bU): ∀(d N k:Nat),k+d=17->d<N->
  EF N u ((k+1:Nat):Int)=a6 (match(MS.drop k).findIdx? (· ==u)with
   |some j=>.inr ((((k+j+1:Nat):Int),()),())
   |none=>.inl ((),()))
 |d,0,k,_,h=>by omega
 |0,N+1,k,h,_=>by
  have hk:k=17:=by omega
  subst hk;rfl
 |d+1,N+1,k,h,i=>by
  have hk:k<MS.length:=by show k<17;omega
  have f:=aB9 ⟨k+1,by omega⟩ (by simp);simp only[Nat.add_sub_cancel]at f;rw[EF,Pm,bW (lL),f,bJ,ab6 _ _ hk];have g:MS.getD k []=MS[k]:=by simp_all
  simp only[g,gm];by_cases e:(MS[k]==u)=true
  .rw[e];simp
  .rw[bg]at e;rw[e,dC,show((k+1:Nat):Int)+1=((k+1+1:Nat):Int) by omega];simp only[ac];rw[aaD u d N (k+1) (by omega) (by omega)]
   grind
theorem aKw (u:bU) (h:Zg u≠0):u∈MS:=by
 unfold Zg at h
 grind
theorem akI (u:bU):NK u=a6 (((Zg u:Nat):Int),()):=by
 rw[NK];by_cases e:u=[]
 .subst e;rfl
 .rw[dD (by grind [gm])];have h:=aaD u 17 bV 0 rfl (dI)
  grind [bJ,Zg,dO]
def Ua (t:bU):Nat->Nat×Nat
 |0=>(0,0)
 |n+1=>if Zg (t.take (n+1))≠0 then(Zg (t.take (n+1)),n+1)else Ua t n
theorem yN (s:bU) (a n:Nat):sub s (a:Int) ((a+n:Nat):Int)=(s.drop a).take n:=by
 grind [sub,List.drop_take]
theorem agb (s:bU) (d:s.length<1000000) (a:Nat): ∀(n N:Nat),n<N->a+n<=s.length->
  Ot N s (a:Int) 0 (n:Int)=a6 (.inl (((((Ua (s.drop a) n).1:Nat):Int),(((Ua (s.drop a) n).2:Nat):Int),()),()))
 |n,0,h,_=>by omega
 |0,N+1,_,_=>by
  rfl
 |n+1,N+1,h,f=>by
  rw[Ot,U8,bW (eX),dC,show(a:Int)+((n+1:Nat):Int)=((a+(n+1):Nat):Int) by omega,
   bW (eU (by omega) (by omega) (by rw[bP];omega)),yN,akI,bJ,Ua]
  by_cases e:Zg ((s.drop a).take (n+1))=0
  .rw[e];simp only[show(!bZ ((0:Nat):Int) 0)=false from rfl,ac,ne_eq,not_true_eq_false,if_false];rw[fV,show((n+1:Nat):Int)-1=(n:Int) by omega];exact agb s d a n N (by omega) (by omega)
  simp_all [dJ]
def EP (t:bU):Nat×Nat:=Ua t (min 3 t.length)
theorem aFc {c:UInt8} {t:List UInt8} (h:c::t∈MS):Ku (c.toNat:Int)=true:=by
 have: ∀u∈MS,(match u with|c::_=>Ku (c.toNat:Int)|[]=>true)=true:=by decide
 exact this _ h
theorem amA {c:UInt8} {t:List UInt8} (h:Ku (c.toNat:Int)=false): ∀n,Ua (c::t) n=(0,0)
 |0=>rfl
 |n+1=>by
  rw[Ua,aq,amA h n]
  grind [aFc,aKw]
theorem aPe {s:List UInt8} (e:s.length<1000000) {a:Nat} (d:a<s.length):ane s a=a6 ((((EP (s.drop a)).1:Nat):Int),((((EP (s.drop a)).2:Nat):Int),())):=by
 rw[ane,dD (jq),dD (SB (by rw[bP];omega)),bW (ed)];obtain⟨k,f,_,g⟩:=aKx (nz s a);rw[f,bJ];simp only[g];have hd:=ay d;rw[byte_at d];cases hm:Ku (s[a].toNat:Int)with
 |false=>
  grind [EP,amA]
 |true=>
  simp only[ak,ac];have h:LM 3 (dV .i64 (bM s) (a:Int))=((min 3 (s.drop a).length:Nat):Int):=by
   grind [bP,fV,LM]
  rw[h,agb s e a _ bV (dI) (by grind),bJ];rfl
theorem Ul (t:bU):(EP t).2<=t.length/\((EP t).2=0↔(EP t).1=0)/\(EP t).1<=17:=by
 have h: ∀n,(Ua t n).2<=n/\((Ua t n).2=0↔(Ua t n).1=0)/\(Ua t n).1<=17:=by
  intro n
  induction n with
  |zero=>exact⟨ae _,Iff.rfl,by simp[Ua]⟩
  |succ n f=>
   rw[Ua];split
   .rename_i e
    refine⟨ae _,⟨fun h=>absurd h (by simp),fun h=>absurd h e⟩, ?_⟩;unfold Zg;split
    .rename_i j d
     have:=(List.findIdx?_eq_some_iff_getElem.1 d).1
     assumption
    omega
   omega
 grind [EP]
theorem axx (c:UInt8): ∀l:bU,Lib.indexByte l c=if(l.takeWhile (· !=c)).length<l.length then(((l.takeWhile (· !=c)).length:Nat):Int)else-1
 |[]=>rfl
 |b::l=>by
  unfold Lib.indexByte;rw[axx c l];by_cases e:b=c
  .subst e;simp
  .have d:(b==c)=false:=by simpa using e
   have f:(b !=c)=true:=by simpa using e
   have g:(b::l).takeWhile (fun x=>x !=c)=b::l.takeWhile (fun x=>x !=c):=by simp_all
   grind
def jo (s:bU) (a:Nat):Nat:=a+((s.drop a).takeWhile (· !=10)).length
theorem zu (s:bU) (a:Nat):a<=jo s a:=Nat.le_add_right _ _
theorem Dv {s:List UInt8} {a:Nat} (h:a<=s.length):jo s a<=s.length:=by
 grind [F9,jo]
theorem ayl {s:List UInt8} (g:s.length<1000000) {a:Nat} (d:a<=s.length):agX s a=a6 (((jo s a:Nat):Int),(decide (jo s a<s.length),())):=by
 have i:=Dv d;have j:=zu s a;rw[agX,bW (eU (by omega) (by rw[bP];omega) (by omega)),ag1,anl,bJ,bJ];have e:sub s (a:Int) (bM s)=s.drop a:=by simp[sub,bP]
 have f:ibW (sub s (a:Int) (bM s)) 10=if jo s a<s.length then((jo s a-a:Nat):Int)else-1:=by
  rw[e];unfold ibW;rw[show(10:Int).toNat.toUInt8=10 from rfl,axx,aU];unfold jo at*;omega
 rw[f];by_cases h:jo s a<s.length
 .rw[am h,bW (lL),dC,decide_eq_true h];congr 2;omega
 .rw[aq h,dD (SB),decide_eq_false h,bP];congr 2;omega
def yT:bU->Nat
 |[]=>0
 |[c]=>if tC (c.toNat:Int)=true then 1 else 0
 |c::d::t=>if tC (c.toNat:Int)=true then yT (d::t)+1 else if c=92/\d=10 then yT t+2 else 0
theorem abJ: ∀t:bU,yT t<=t.length
 |[]=>ae _
 |[c]=>by grind [yT]
 |c::d::t=>by
  have e:=abJ (d::t);have f:=abJ t
  grind [yT]
def CY (t:bU):Bool:=match t with
 |c::d::_=>decide (c=92)&&decide (d=10)
 |_=>false
theorem aI0 (t:bU):ajY t [92,10]=a6 (CY t,()):=by
 rw[ajY,aDj];cases t with
 |nil=>rfl
 |cons c t=>
  cases t with
  |nil=>rfl
  |cons d t=>
   have e:leI (bM [(92:UInt8),10]) (bM (c::d::t))=true:=lL (by grind [bP]);have f:dZ (bM (c::d::t)) 0 (bM [(92:UInt8),10])=true:=eU (by omega) (by rw[bP];simp) (by grind [bP]);simp_all [sub,bP,bJ,CY,gm,Bool.beq_eq_decide_eq]
theorem au6 {s:List UInt8} {a:Nat} (d:a<=s.length):agV s a=a6 (CY (s.drop a),()):=by
 rw[agV,bW (eU (by omega) (by rw[bP];omega) (by omega)),show sub s (a:Int) (bM s)=s.drop a by simp[sub,bP],aI0,bJ]
theorem Nb {c:UInt8} {t:List UInt8}:yT (c::t)=if tC (c.toNat:Int)=true then yT t+1 else if CY (c::t)=true then yT (t.drop 1)+2 else 0:=by
 cases t with
 |nil=>rfl
 |cons d t=>rw[yT];simp[CY]
theorem KX {s:List UInt8} (d:s.length<1000000): ∀(N a:Nat),s.length-a<N->a<=s.length->
  ∃o,Ou N s (a:Int)=a6 o/\dO o (fun f=>a6 (f.1.1,())) (fun g=>a6 (g.1.1,()))=a6 ((((a+yT (s.drop a):Nat):Int)),())
 |0,a,h,_=>by omega
 |N+1,a,h,q=>by
  rw[Ou,U9];by_cases e:a<s.length
  .obtain⟨k,i,j,_⟩:=aKx (nz s a);have hd:=ay e;rw[bW (eX (by rw[bP];omega)),bW (ed),i,bJ];simp only[j];rw[byte_at e,hd,Nb];by_cases hb:tC (s[a].toNat:Int)=true
   .rw[hb,aa,am rfl,dC,show(a:Int)+1=((a+1:Nat):Int) by omega];obtain⟨o,l,m⟩:=KX d N (a+1) (by omega) (by omega)
    grind
   .rw[bg]at hb;rw[hb,ac,aq (by simp),au6 (by omega),bJ,hd];cases hc:CY (s[a]::s.drop (a+1))with
    |true=>
     have u:a+2<=s.length:=by
      rw[<-hd]at hc;rcases aO s.length (a+2)with hl|hl
      .have:(s.drop a).length=1:=by grind
       obtain⟨x,p⟩:=List.length_eq_one_iff.1 this;rw[p]at hc;cases hc
      .exact hl
     simp only[aa,if_true];rw[dC,show(a:Int)+2=((a+2:Nat):Int) by omega,List.drop_drop,show a+1+1=a+2 from rfl];obtain⟨o,l,m⟩:=KX d N (a+2) (by omega) (by omega)
     grind
    |false=>
     simp only[ac,ag,if_false,Nat.add_zero];exact⟨_,rfl,rfl⟩
  .rw[dD (gB (by rw[bP];omega)),aB (by omega)];exact⟨_,rfl,rfl⟩
theorem aCz {s:List UInt8} (d:s.length<1000000) {a:Nat} (e:a<=s.length):agW s a=a6 ((((a+yT (s.drop a):Nat):Int)),()):=by
 rw[agW];obtain⟨o,f,g⟩:=KX d bV a (dI) e
 grind [bJ]
def EO (t:bU):Nat:=if lF t≠0/\(t.drop (lF t)).head?=a6 60\/lF t≠0/\(t.drop (lF t)).head?=a6 62 then lF t else 0
theorem UO (t:bU):lF t<=t.length:=F9 _ _
theorem azd {s:List UInt8} (g:s.length<1000000) {a:Nat} (d:a<=s.length):agY s a=a6 ((((a+EO (s.drop a):Nat):Int)),()):=by
 have e:=UO (s.drop a);rw[aU]at e;rw[agY,Vw (s:=s) (by omega) d,bJ];simp only;rw[dC,show(a:Int)+((lF (s.drop a):Nat):Int)=((a+lF (s.drop a):Nat):Int) by omega];unfold EO;by_cases h0:lF (s.drop a)=0
 .simp_all [jq]
 .rw[bW (eX)];by_cases h1:a+lF (s.drop a)<s.length
  .have hd:((s.drop a).drop (lF (s.drop a))).head?=a6 s[a+lF (s.drop a)]:=by
    simp
   rw[bW (eX (by rw[bP];omega)),bW (ed),byte_at h1,hd];by_cases e1:s[a+lF (s.drop a)]=60
   .rw[e1,am (.inl ⟨h0,rfl⟩)];rfl
   .have f:((s[a+lF (s.drop a)].toNat:Nat):Int)≠60:=fun h=>e1 (UInt8.toNat_inj.1 (by grind));rw[dD (dJ f),bW (ed)];by_cases e2:s[a+lF (s.drop a)]=62
    .rw[e2,am (.inr ⟨h0,rfl⟩)];rfl
    .have i:((s[a+lF (s.drop a)].toNat:Nat):Int)≠62:=fun h=>e2 (UInt8.toNat_inj.1 (by grind));simp_all [dJ]
  .have hd:((s.drop a).drop (lF (s.drop a))).head?=a7:=by
    simp_all
   rw[dD (jq (by rw[bP];omega)),hd,aq (by simp)];simp
theorem ajj: ∀n:Fin 15,(match ani ((n.val:Nat):Int)with|some (t,_)=>(t==([]:bU))==(decide (n.val=0)||decide (n.val=12))&&decide (t.length<=2)|none=>false)=true:=by decide+kernel
theorem au2 {m:Int} (d:0<=m) (e:m<=14): ∃t,ani m=a6 (t,())/\(t=[]↔m=0\/m=12)/\t.length<=2:=by
 have:=ajj ⟨m.toNat,by omega⟩
 grind
def Pj (s:gy):Bool:=s.all fun f=>decide (f.1=0)||decide (f.1=12)
theorem Nh (F:List qL) (hF:F.length<1000000) (d: ∀f∈F,0<=f.1/\f.1<=14): ∀(N k:Nat) (a b:bU) (t:List Int),k<N->k<=F.length->t.length<=2*(F.length-k)->
  ∃t',sK N ((k:Int)-1) a b F t=a6 (.inl ((),((a,()),(),(),()),((b,()),(F,()),(),t',())))/\(t'=[]↔t=[]/\ ∀f∈F.take k,f.1=0\/f.1=12)
 |0,k,a,b,t,h,_,_=>by omega
 |N+1,0,a,b,t,h,_,_=>by
  rw[sK,xk];refine⟨t,rfl, ?_⟩;simp
 |N+1,k+1,a,b,t,h,hk,p=>by
  rw[sK,xk];have e:k<F.length:=by omega
  have i:dQ F (0,(0,())) (k:Int)=F[k]:=by
   simp_all [dQ]
  have g:=d F[k] (aF e);obtain⟨c,j,q,s⟩:=au2 g.1 g.2;have l:eH (cu t (dm c)) 1=true:=by
   simp only[eH,cu,dm,ai,aP,decide_eq_true_eq,mD];omega
  rw[show((k+1:Nat):Int)-1=(k:Int) by omega,bW (lL),bW (ed),i,j,bJ];simp only[l,fD,aa];rw[fV];obtain⟨t',m,o⟩:=Nh F hF d N k a b (cu t (dm c)) (by omega) (by omega) (by grind [cu,dm]);refine⟨t',m, ?_⟩;rw[o,List.take_add_one,List.getElem?_eq_getElem e];have:cu t (dm c)=[]↔t=[]/\(F[k].1=0\/F[k].1=12):=by
   simp_all [cu,dm]
  rw[this];simp only[Option.toList_some,List.mem_append,List.mem_singleton]
  grind
theorem aqE (w:bU) (m:w.length<=100000): ∃t,anf w=a6 (t,())/\(!gm t [])= !Pj (ja w 0 eQ).1:=by
 have j:=zl w 0 eQ jQ;have q:eQ.1.length=1:=rfl;have s:=Eu j.1;rw[anf,aFL w m,bJ];obtain⟨l,o,d⟩:=Nh (lo (ja w 0 eQ).1) (by rw[nC];omega) (fun f i=>by
  unfold lo at i
  grind) bV (lo (ja w 0 eQ).1).length [] [] [] (dI (by rw[nC];omega)) (ae _) (by simp)
 simp only;rw[bP,fV (by rw[nC];omega) (by rw[nC];omega),o,bJ];refine⟨_,rfl, ?_⟩;congr 1;simp only;rw[List.take_length]at d;have p:(∀f∈lo (ja w 0 eQ).1,f.1=0\/f.1=12)↔Pj (ja w 0 eQ).1=true:=by
  unfold Pj lo;simp only[List.mem_reverse,List.mem_map,List.all_eq_true,Bool.or_eq_true,decide_eq_true_eq];exact⟨fun h f i=>h _ ⟨f,i,rfl⟩,fun h f ⟨g,j,e⟩=>by grind⟩
 rw[p]at d;unfold gm;cases hs:Pj (ja w 0 eQ).1 with
 |true=>rw[d.2 ⟨rfl,hs⟩];rfl
 |false=>
  have:l≠[]:=fun e=>by simp_all
  cases l with
  |nil=>simp_all
  |cons x y=>rfl
def zx (s:bU) (d:Bool) (a:Nat):bU:=if d=true then((s.take (jo s a)).drop a).dropWhile (· ==9)else(s.take (jo s a)).drop a
def pO (s:bU) (a:Nat):Nat:=if jo s a<s.length then jo s a+1 else jo s a
def qQ (s w:bU) (d:Bool):Nat->Nat->Nat×Bool
 |0,a=>(a,false)
 |n+1,a=>if a<s.length then(if zx s d a=w then(pO s a,true)else qQ s w d n (pO s a))else(a,false)
theorem ahQ {s:List UInt8} {a:Nat} (h:a<s.length):a<pO s a/\pO s a<=s.length:=by
 grind [zu,Dv,pO]
theorem YO: ∀(l:bU) (N:Nat),l.length<N->Oz N l 9=a6 (.inl ((l.dropWhile (· ==9),()),()))
 |l,0,h=>by omega
 |[],N+1,_=>by rfl
 |c::l,N+1,h=>by
  rw[Oz,Ve,bW (eX (by simp_all [bP])),bW (ed (by omega) (by simp)),show cO (c::l) 0=(c.toNat:Int) from rfl];by_cases e:c=9
  .subst e;rw[show bZ (((9:UInt8).toNat:Nat):Int) 9=true from rfl,aa,bW (eU (by omega) (by grind [bP]) (by omega))];rw[show sub ((9:UInt8)::l) 1 (bM ((9:UInt8)::l))=l by simp[sub,bP],YO l N (by simp at h;omega)];simp
  .rw[dD (dJ (fun h=>e (UInt8.toNat_inj.1 (by grind)))),List.dropWhile_cons_of_neg (by simpa using e)]
theorem aFC (l:bU) (hl:l.length<1000000):ank l 9=a6 (l.dropWhile (· ==9),()):=by
 rw[ank,YO l bV (dI),bJ];rfl
theorem aaj {s w:List UInt8} (f:s.length<1000000) (d:Bool): ∀(N a:Nat),s.length-a<N->a<=s.length->
  EI N s (a:Int) w d=a6 (if(qQ s w d N a).2=true then .inr (((((qQ s w d N a).1:Nat):Int),true,()),())else .inl (((((qQ s w d N a).1:Nat):Int),()),()))
 |0,a,h,_=>by omega
 |N+1,a,h,o=>by
  (rewrite [EI,U7];delta DN;rw[qQ])
  by_cases e:a<s.length
  .have p:=zu s a;have q:=Dv (s:=s) (a:=a) (by omega);have u:=ahQ e;have v:=aaj (w:=w) f d N (pO s a) (by omega) (by omega);have i:sub s (a:Int) ((jo s a:Nat):Int)=(s.take (jo s a)).drop a:=by simp[sub]
   have g: ∀(x:bU),x=zx s d a->
     (bif decide (jo s a<s.length)then
      bif gm x w then(a6 (.inr ((bY .i64 ((jo s a:Nat):Int) 1,true,()),())):Option (Uz.den⊕UG.den))
      else EI N s (bY .i64 ((jo s a:Nat):Int) 1) w d
     else bif gm x w then a6 (.inr ((((jo s a:Nat):Int),true,()),()))
      else EI N s ((jo s a:Nat):Int) w d)=
     a6 (if(if zx s d a=w then(pO s a,true)else qQ s w d N (pO s a)).2=true
      then .inr (((((if zx s d a=w then(pO s a,true)else qQ s w d N (pO s a)).1:Nat):Int),true,()),())
      else .inl (((((if zx s d a=w then(pO s a,true)else qQ s w d N (pO s a)).1:Nat):Int),()),())):=by
    intro x j;subst j;have l:gm (zx s d a) w=decide (zx s d a=w):=by
     grind [gm]
    rw[l];by_cases hl:jo s a<s.length
    .have m:pO s a=jo s a+1:=by simp_all [pO]
     rw[decide_eq_true hl,aa,dC,show((jo s a:Nat):Int)+1=((pO s a:Nat):Int) by omega]
     grind
    .have m:pO s a=jo s a:=by simp_all [pO]
     grind
   rw[bW (eX (by rw[bP];omega)),ayl f (by omega),bJ,am e];simp only;rw[bW (eU (by omega) (by omega) (by rw[bP];omega)),i];cases d with
   |false=>simp_all [zx]
   |true=>
    simp only[aa];by_cases e0:(s.take (jo s a)).drop a=[]
    .rw[e0,show gm ([]:bU) []=true from rfl,aa];exact g _ (by rw[zx,am rfl,e0];rfl)
    .rw[dD (by simp_all [gm])];refine(dD (by rfl)).trans ?_;refine(bW (by rfl)).trans ?_;refine(bW (by rfl)).trans ?_;refine(bW (by rfl)).trans ?_;refine(bW (by rfl)).trans ?_;rw[show cO [9] 0=9 from rfl];rw[aFC _ (by grind),bJ];exact g _ (by rfl)
  simp_all [gB,bP,aq]
def F5 (s w:bU) (d:Bool) (a:Nat):Nat×Bool:=qQ s w d bV a
theorem aI1 {s:List UInt8} (e:s.length<1000000) (d:bU×Bool×Unit) {a:Nat} (f:a<=s.length):anc s a d=a6 ((((F5 s d.1 d.2.1 a).1:Nat):Int),((F5 s d.1 d.2.1 a).2,())):=by
 rw[anc,aaj e d.2.1 bV a (dI) f,bJ];unfold F5;cases h:(qQ s d.1 d.2.1 bV a).2 with
 |true=>simp[dO]
 |false=>simp[dO]
end
section
open Option renaming some → a6, none → a7
open Bool renaming and_eq_true → af
open Nat renaming le_refl → ae, eq_of_beq_eq_true → aj, le_trans → aQ, le_mul_of_pos_right → bI
open Tryz
open Go.RowKit Go.Shelf Go.Lib
def Xa:Go.Shelf.Ren:=⟨fun|155=>125|154=>166|138=>191|165=>192|143=>193|166=>70|197=>194|169=>71|195=>205|218=>206|240=>115|241=>207|219=>208|260=>209|276=>156|277=>224|217=>217|225=>225|224=>226|267=>227|266=>235|314=>243|n=>n,fun|9=>9|3=>3|4=>4|72=>119|0=>0|76=>127|105=>210|21=>21|5=>5|70=>116|20=>20|37=>117|75=>126|127=>174|164=>198|46=>228|119=>229|139=>232|138=>231|146=>235|51=>234|80=>129|n=>n,fun|1=>0|3=>1|4=>2|n=>n⟩
theorem W9:Go.Proofs.Lays.n155 prog Xa:={
 mixed:=by kernel_rfl
 f138:=func191.trans (congrArg a6 (by kernel_rfl))
 f143:=func193.trans (congrArg a6 (by kernel_rfl))
 f154:=func166.trans (congrArg a6 (by kernel_rfl))
 f155:=func125.trans (congrArg a6 (by kernel_rfl))
 f165:=func192.trans (congrArg a6 (by kernel_rfl))
 f166:=func70.trans (congrArg a6 (by kernel_rfl))
 f169:=func71.trans (congrArg a6 (by kernel_rfl))
 f195:=func205.trans (congrArg a6 (by kernel_rfl))
 f197:=func194.trans (congrArg a6 (by kernel_rfl))
 f217:=func217.trans (congrArg a6 (by kernel_rfl))
 f218:=func206.trans (congrArg a6 (by kernel_rfl))
 f219:=func208.trans (congrArg a6 (by kernel_rfl))
 f224:=func226.trans (congrArg a6 (by kernel_rfl))
 f225:=func225.trans (congrArg a6 (by kernel_rfl))
 f240:=func115.trans (congrArg a6 (by kernel_rfl))
 f241:=func207.trans (congrArg a6 (by kernel_rfl))
 f260:=func209.trans (congrArg a6 (by kernel_rfl))
 f266:=func235.trans (congrArg a6 (by kernel_rfl))
 f267:=func227.trans (congrArg a6 (by kernel_rfl))
 f276:=func156.trans (congrArg a6 (by kernel_rfl))
 f277:=func224.trans (congrArg a6 (by kernel_rfl))
 f314:=func243.trans (congrArg a6 (by kernel_rfl))
 t0:=underlying0
 a0:=isAgg0
 z0:=sizeOf0
 v0:=zeroValue0
 t3:=underlying3
 a3:=isAgg3
 z3:=sizeOf3
 v3:=zeroValue3
 t4:=underlying4
 a4:=isAgg4
 z4:=sizeOf4
 v4:=zeroValue4
 t5:=underlying5
 a5:=isAgg5
 z5:=sizeOf5
 v5:=zeroValue5
 t9:=underlying9
 a9:=isAgg9
 z9:=sizeOf9
 v9:=zeroValue9
 t20:=underlying20
 a20:=isAgg20
 z20:=sizeOf20
 v20:=zeroValue20
 t21:=underlying21
 a21:=isAgg21
 z21:=sizeOf21
 v21:=zeroValue21
 t37:=underlying117
 a37:=isAgg117
 z37:=sizeOf117
 v37:=zeroValue117
 t46:=underlying228
 a46:=isAgg228
 z46:=sizeOf228
 v46:=zeroValue228
 t51:=underlying234
 a51:=isAgg234
 z51:=sizeOf234
 v51:=zeroValue234
 t70:=underlying116
 a70:=isAgg116
 z70:=sizeOf116
 v70:=zeroValue116
 t72:=underlying119
 a72:=isAgg119
 z72:=sizeOf119
 v72:=zeroValue119
 t75:=underlying126
 a75:=isAgg126
 z75:=sizeOf126
 v75:=zeroValue126
 t76:=underlying127
 a76:=isAgg127
 z76:=sizeOf127
 v76:=zeroValue127
 t105:=underlying210
 a105:=isAgg210
 z105:=sizeOf210
 v105:=zeroValue210
 t119:=underlying229
 a119:=isAgg229
 z119:=sizeOf229
 t127:=underlying174
 a127:=isAgg174
 z127:=sizeOf174
 v127:=zeroValue174
 t138:=underlying231
 a138:=isAgg231
 z138:=sizeOf231
 v138:=zeroValue231
 t139:=underlying232
 a139:=isAgg232
 z139:=sizeOf232
 v139:=zeroValue232
 t146:=underlying235
 a146:=isAgg235
 z146:=sizeOf235
 v146:=zeroValue235
 t164:=underlying198
 a164:=isAgg198
 z164:=sizeOf198
 v164:=zeroValue198
 g1:=by kernel_rfl
 g3:=by kernel_rfl
 g4:=by kernel_rfl}
theorem aCQ:Builder.Extra prog Xa where
 sizeBuilder:=by kernel_rfl
 liesBuilder:=by kernel_rfl
 t5:=W9.t5
 a5:=W9.a5
 z5:=W9.z5
 v5:=W9.v5
 infoByte:=by kernel_rfl
 cellsByte:=by kernel_rfl
 sizeByte:=by kernel_rfl
 neB5:=by decide
def aaQ (s d new:List UInt8):Option (List UInt8×Unit):=cond (decide (s.length<4294967281)&&decide (1<=d.length)&&decide (s.length+s.length*new.length<=140737488355328)) (a6 (Lib.replaceAll s d new,())) a7
def aB6:Sum:=⟨[.str,.str,.str],[(.str,false)],fun x=>aaQ x.1 x.2.1 x.2.2.1⟩
theorem aiR:dX prog 125 aB6:=by
 intro w i j x y h o p f;obtain⟨u,X,q,s,v,Y,z,A,B,D,E,G,I⟩:=p;obtain rfl:D=[]:=I;subst E z;have J:j= #[u,v,B]:=by
  apply Array.ext';simpa using q
 subst J;have K:=s.str_inv;have L:=A.str_inv;have M:=G.str_inv;subst K L M;have f:aaQ x.1 x.2.1 x.2.2.1=a6 y:=f;unfold aaQ at f;obtain⟨g,f⟩:=dN f;simp only[af,decide_eq_true_eq]at g;cases f;obtain⟨m,N⟩:=h.2;have d: ∀l:List UInt8,(⟨l.toArray⟩:ByteArray).size=l.length:=fun l=>by simp[ByteArray.size]
 have O:Lib.countB ⟨x.1.toArray⟩ ⟨x.2.1.toArray⟩<=x.1.length:=by
  have:=Lib.countB_mul_le (⟨x.2.1.toArray⟩:ByteArray) (by rw[d];exact g.1.2) (⟨x.1.toArray⟩:ByteArray).size ⟨x.1.toArray⟩ (ae _);rw[d,d]at this;exact aQ (bI _ (by omega)) this
 have S:=Any.strings_ReplaceAll W9 aCQ ⟨x.1.toArray⟩ ⟨x.2.1.toArray⟩ ⟨x.2.2.1.toArray⟩ m w (by rw[d];exact g.1.1) N (by rw[d];exact g.1.2)
  (by rw[d,d];have:=Nat.mul_le_mul_right x.2.2.1.length O;omega)
 refine .inl ⟨Ef XE func125 (show f125.body=a6 ((f125.body).getD .skip) by kernel_rfl) _ _,S.mono fun e U ⟨V,W⟩=> ?_⟩;refine⟨(mW w i).at_ U,[.string ⟨(Lib.replaceAll x.1 x.2.1 x.2.2.1).toArray⟩],V,rfl,(age h o).ext W,rfl,rfl,rfl, ?_⟩;simp only[aB6,qK,bT,dn,and_true];exact VD.str_mk
noncomputable def sg2 (g:FuncId):Option Sum:=cond (Nat.beq g 125) (a6 aB6)<|sg1 g
theorem aPy: ∀g s,sg2 g=a6 s->dX prog g s:=fun g s h=>by
 unfold sg2 at h;rw[cond_eq_ite]at h;split at h
 .rename_i d
  obtain rfl:g=125:=aj d;cases h;exact aiR
 exact al6 g s h
end
end Go.Proofs.YtdfhjhkcjecmlaaGreatDoor
