/- Parts of the proof, joined and shortened by a program: the plain machine, the functions as it prints them, and the mathematics over them. -/
import Derived.Test.YtjgoejaajmhllaaGreatDoorProg
import Derived.KernelRfl
import Derived.Below
import Derived.WalkKit
import Derived.Lib.Walk
import Derived.Lib.SliceRun
import Derived.Lib.AppendZerosOnto
import Derived.Lib.Overlaps
import Derived.Laws.CopyRow
import Derived.Laws.NewBlocks
import Derived.Shelf.RegionOpenPlain
import Derived.Calls
import Derived.Still
import Derived.Orders
import Derived.Laws.Sem
import Derived.WalkSmall
import Derived.Laws.AppendOwn
import Derived.Lib.LaidTab
import Derived.Lib.ItoaNum
import Derived.Laws.StructEq
import Derived.Laws.Slices
import Derived.Laws.Cells
import Derived.Laws.Strings
import Derived.Laws.MakeOwn
import Derived.Laws.BytesString
import Derived.Maps.AppendAt
import Derived.Lib.AppendStr
import Derived.Lib.UnsafeStr
import Derived.MapKept
import Derived.TacticsIn
import Derived.RangeFuncIn
import Derived.RangeFuncLeaves
import Derived.Sort.QuietThIn
set_option linter.unusedVariables false
set_option linter.unusedSimpArgs false
set_option maxRecDepth 100000
set_option maxHeartbeats 4000000
namespace Go.Proofs.YtjgoejaajmhllaaGreatDoor
section
open Option renaming some → a6, none → a7
open List renaming map_cons → aj, append_assoc → ax
open Option renaming map_some → aU
open Tryz
open Go.RowKit
theorem aa.{u} {d:Sort u} (a b:d):cond true a b=a:=rfl
theorem ac.{u} {d:Sort u} (a b:d):cond false a b=b:=rfl
theorem am.{u} {c:Prop} {h:Decidable c} (d:c) {f:Sort u} {t e:f}:ite c t e=t:=if_pos d
theorem ap.{u} {c:Prop} {h:Decidable c} (d:¬c) {f:Sort u} {t e:f}:ite c t e=e:=if_neg d
theorem qE {P:Program} (w:World) (h p ty elem:TypeId) (g o e q:Nat) (a:Addr) (f s:Nat) (d:Array Value) (t:TypeId) (cs:List Value) (size:Nat)
  (u:P.underlying h=a6 (.slice elem)) (l:(P.info? elem).map (·.size)=a6 size)
  (x:w.heap[g]? =a6 (.cells d t (0,0))) (y:cs.length=Nat.min f e*size)
  (z: ∀j v,cs[j]? =a6 v->w.cell? (a.add j)=a6 v) (A:o+cs.length<=d.size) (B: ∀v∈cs,v.oneCell'=true):
  (Builtin.copy_ #[h,p] ty #[.slice (a6 ⟨g,o,a7⟩) e q,.slice (a6 a) f s]).run P w=
   .ok (goInt (Nat.min f e)) (w.setRow g (d.toList.take o++cs++d.toList.drop (o+cs.length)).toArray):=by
 have m:=run_loadCells_list (P:=P) w a cs z;have D:=run_storeCells_at P g o t cs 0 d w x (by simpa using A) B;cases hq:P.info? elem with
 |none=>simp[hq]at l
 |some i=>
  have E:i.size=size:=by simpa [hq] using l
  rw[y]at m;simp[Builtin.copy_,run_underlying u,Builtin.lenOf,Builtin.firstCells,sizeOf,typeInfo,hq,E,m,D]
theorem EE {P:Program} (w:World) {ops:Array Oper} {e:List Oper} {o:Oper} {a:Act} {Q:Exit->Act->World->Prop} (g:o.guard=a7) (d s:Operand) (t t':TypeId)
  (i:o.op=.call {callee:=.builtin .copy,args:= #[d,s],argTypes:= #[t,t']}) (v u:Value) (hd:a.eval d=v) (j:a.eval s=u) {f:Value} {w':World}
  (l:(Builtin.copy_ #[t,t'] o.type #[v,u]).run P w=.ok f w') (h:wpList P ops Q e (a.put o.dst f) w'):wpList P ops Q (o::e) a w:=
 wpList_plain g fun _ m=>by
  unfold Oper.wp execOp;simp only[i,resolve,invoke,builtin,Sem.run_bind,Sem.run_pure,Result.andThen_ok,List.map_toArray,aj,List.map_nil,hd,j,l];exact m _ _ h
theorem KT {P:Program} {ops:Array Oper} {o:Oper} {a:Act} {w:World} {K:Act->World->Prop} {Q:Exit->Act->World->Prop} {E:Prop}
  (h:o.guard=a7) (d x:Operand) (e f:TypeId) (i:o.op=Op.call {callee:=Callee.builtin Builtin.copy,args:= #[d,x],argTypes:= #[e,f]})
  (v u:Value) (hd:a.eval d=v) (hx:a.eval x=u) {g:Value} {w':World} (j:(Builtin.copy_ #[e,f] o.type #[v,u]).run P w=.ok g w') (l:K (a.put o.dst g) w'):
  if Region.wanted o (yielded ops a.tmps)=true then Oper.wp P o a w K Q else E:=by
 have m:Region.wanted o (yielded ops a.tmps)=true:=by simp[Region.wanted,h]
 rw[am m];unfold Oper.wp;simp[execOp,i,resolve,invoke,builtin,hd,hx,j,Result.andThen];exact l
theorem IQ:(prog.info? 39).map (·.size)=a6 2:=by kernel_rfl
theorem arV:(prog.info? 39).map (fun i=>(i.size,i.bytes,i.zero.map (·.cells.size)))=a6 (2,32,a6 2):=by kernel_rfl
theorem amr: ∃d z,prog.info? 39=a6 d/\d.zero=a6 z/\d.size=2/\d.bytes=32/\z.cells.size=2:=by
 have h:=arV;cases hq:prog.info? 39 with
 |none=>simp[hq]at h
 |some i=>
  simp only[hq,aU,Option.some.injEq,Prod.mk.injEq,Option.map_eq_some_iff]at h;obtain⟨e,f,z,g,j⟩:=h;exact⟨i,z,rfl,g,e,f,j⟩
theorem ayL (w:World):(Go.sizeOf 39).run prog w=.ok 2 w:=by
 cases hq:prog.info? 39 with
 |none=>have:=IQ;simp[hq]at this
 |some i=>have:=IQ;simp[hq]at this;simp[sizeOf,typeInfo,hq,this]
theorem amu (g n c i l c2:Nat) (f:Array Value) (m e2:TypeId) (p q:Value) (G:List Value) (w:World) (hi:i<n) (an:n+1<=c) (hc:c<=9223372036854775807) (I:w.heap[g]? =a6 (.cells f m (0,0))) (V:f.size=c*2)
  (J:w.heap[l]? =a6 (.cells (p::q::G).toArray e2 (0,0))) (X:g≠l) (ad: ∀v∈f.toList.take (n*2),v.oneCell'=true) (h1:p.oneCell'=true) (h2:q.oneCell'=true):
  Calls prog 27 #[.slice (a6 ⟨g,0,a7⟩) n c,.int .i64 (i:Int),.slice (a6 ⟨l,0,a7⟩) 1 c2] w fun e w'=>
   e=.returned (.slice (a6 ⟨g,0,a7⟩) (n+1) c)/\ ∃R:Array Value,w.grownBy w' (a6 g)/\w'.heap[g]? =a6 (.cells R m (0,0))/\R.size=c*2/\
    R.toList.take ((n+1)*2)=(f.toList.take (n*2)).take (i*2)++[p,q]++(f.toList.take (n*2)).drop (i*2):=by
 have ao: ¬((1:Int)=0):=by omega
 have au: ¬((i:Int)=(n:Int)):=by omega
 have av:IntKind.i64.wrap ((i:Int)+1)=(i:Int)+1:=by rw[IntKind.wrap_i64];omega
 have aw:IntKind.i64.wrap ((n:Int)+1)=(n:Int)+1:=by rw[IntKind.wrap_i64];omega
 have ay: ¬((c:Int)<(n:Int)+1):=by omega
 have az:(0:Int)<=(i:Int)+1:=by omega
 have aA:i<=n:=by omega
 have aB:((i:Int)+1).toNat=i+1:=by omega
 have aF:((n:Int)+1).toNat=n+1:=by omega
 have aG: ¬(c=i+1):=by omega
 have aH:(i:Int)<=(n:Int)+1:=by omega
 have aI: ¬(c=i):=by omega
 have ae: ∀M N,(callFunc 58 #[.slice (a6 ⟨l,0,a7⟩) 1 c2,.slice (a6 ⟨g,(i+1)*2,a7⟩) M N]).run prog w=.ok (.value (.bool false)) w:=fun M N=>by
  rw[run_callFunc_extern func58 (by kernel_rfl) (by kernel_rfl) (by kernel_rfl) (e:=Extern.SlicesOverlaps.overlaps #[22,22] #[4]) (by kernel_rfl),
   Lib.run_overlaps_apart w 22 4 39 underlying22 2 ayL ⟨l,0,a7⟩ ⟨g,(i+1)*2,a7⟩ 1 c2 M N (fun h=>X h.symm) e2 m (p::q::G).toArray.size f.size (by simp[World.shape?,J]) (by simp[World.shape?,I]) (by omega) (by simp[World.frozen?,J]) (by simp[World.frozen?,J])]
  rfl
 have y:f.toList.length=c*2:=by simpa using V
 obtain⟨cs,z⟩: ∃cs,cs=(f.toList.take (n*2)).drop (i*2):=⟨_,rfl⟩;have A:cs.length=(n-i)*2:=by rw[z];simp[y];omega
 obtain⟨d,B⟩: ∃d:Array Value,d=(f.toList.take ((i+1)*2)++cs++f.toList.drop ((i+1)*2+cs.length)).toArray:=⟨_,rfl⟩;have O:d.size=c*2:=by rw[B];simp[y,A];omega
 have Y: ∀s u S,(Builtin.copy_ #[22,22] s #[.slice (a6 ⟨g,(i+1)*2,a7⟩) (n-i) u,.slice (a6 ⟨g,i*2,a7⟩) (n+1-i) S]).run prog w.drew=.ok (goInt (Nat.min (n+1-i) (n-i))) (w.drew.setRow g d):=fun s u S=>by
  rw[B];refine qE w.drew _ _ s 39 g ((i+1)*2) (n-i) u ⟨g,i*2,a7⟩ (n+1-i) S f m cs 2 underlying22 IQ I ?_ ?_ ?_ ?_
  .rw[A,show Nat.min (n+1-i) (n-i)=n-i from by simp only[Nat.min_def];split<;>omega]
  .intro j v x;rw[Addr.add_lit,cell_of_row w.drew g (i*2+j) f m (0,0) I];rw[z,List.getElem?_drop,List.getElem?_take]at x;split at x
   .simpa using x
   .cases x
  .rw[A,V];omega
  .intro v K;exact ad v (List.mem_of_mem_drop (z▸K))
 obtain⟨o,L⟩: ∃o:Array Value,o=(d.toList.take (i*2)++[p,q]++d.toList.drop (i*2+2)).toArray:=⟨_,rfl⟩;have af: ∀W:World,W.heap[g]? =a6 (.cells d m (0,0))->W.heap[l]? =a6 (.cells (p::q::G).toArray e2 (0,0))-> ∀s u,(Builtin.copy_ #[22,22] s #[.slice (a6 ⟨g,i*2,a7⟩) (n+1-i) u,.slice (a6 ⟨l,0,a7⟩) 1 c2]).run prog W=.ok (goInt (Nat.min 1 (n+1-i))) (W.setRow g o):=fun W D ag s u=>by
  rw[L];refine qE W _ _ s 39 g (i*2) (n+1-i) u ⟨l,0,a7⟩ 1 c2 d m [p,q] 2 underlying22 IQ D ?_ ?_ ?_ ?_
  .rw[show Nat.min 1 (n+1-i)=1 from by simp only[Nat.min_def];split<;>omega];rfl
  .intro j v x;rw[Addr.add_lit,cell_of_row W l (0+j) _ e2 (0,0) ag,<-x]
   match j with
   |0=>rfl
   |1=>rfl
   |j+2=>simp at x
  .rw[O];simp;omega
  .intro v K;simp at K;rcases K with rfl|rfl<;>assumption
 have U:(w.drew.setRow g d).heap[g]? =a6 (.cells d m (0,0)):=setRow_heap w.drew g f d m _ I;have Z:(w.drew.setRow g d).heap[l]? =a6 (.cells (p::q::G).toArray e2 (0,0)):=(setRow_other w.drew g l d (fun e=>X e.symm)).trans J;obtain⟨E,D⟩: ∃E,E=w.drew.setRow g d:=⟨_,rfl⟩;rw[<-D]at Y U Z;have ah:o.size=c*2:=by
  have:d.toList.length=c*2:=by simpa using O
  rw[L];simp[this];omega
 have ai:o.toList.take ((n+1)*2)=(f.toList.take (n*2)).take (i*2)++[p,q]++(f.toList.take (n*2)).drop (i*2):=by
  have e1:d.toList.take (i*2)=(f.toList.take (n*2)).take (i*2):=by
   rw[B,List.toList_toArray,ax,List.take_append_of_le_length (by simp[y];omega),List.take_take,List.take_take,show min (i*2) ((i+1)*2)=i*2 by omega,show min (i*2) (n*2)=i*2 by omega]
  have e2:d.toList.drop (i*2+2)=cs++f.toList.drop ((i+1)*2+cs.length):=by
   rw[B,List.toList_toArray,ax];exact List.drop_left' (by simp[y];omega)
  rw[L,List.toList_toArray,e1,e2,<-ax,List.take_left' (by simp[y,A];omega),z]
 have ak:(E.setRow g o).heap[g]? =a6 (.cells o m (0,0)):=setRow_heap E g d o m _ U;have al:w.grownBy (E.setRow g o) (a6 g):=by
  rw[D];refine⟨rfl,rfl,rfl,by simp[World.setRow],fun k _ hk=> ?_⟩;have ab:k≠g:=fun e=>hk (by rw[e]);rw[setRow_other _ g k _ ab,setRow_other _ g k _ ab];rfl
 clear D B L z A O y;have mixed:prog.follows .mixedOrders=true:=by kernel_rfl
 go_enter func27,ntmps27
 go_wp2_with (simp only[ae])
 go_region_law_o (refine KT rfl _ _ 22 22 rfl _ _ (by simp[Act.eval,Act.put]) (by simp[Act.eval,Act.put]) (Y _ _ _) ?_)
 go_wp2_with (at_builtin;refine EE _ rfl _ _ 22 22 rfl _ _ rfl rfl (af _ U Z _ _) ?_)
 go_ret
 exact⟨rfl,o,al,ak,ah,ai⟩
theorem ams (g n c i p c2:Nat) (d:Array Value) (A e2:TypeId) (x y:Value) (Y:List Value) (w:World) (hi:i<n) (aX:n<=c) (aG:c<n+1) (hn:n<=2199023255552) (Z:w.heap[g]? =a6 (.cells d A (0,0))) (aH:d.size=c*2)
  (ag:w.heap[p]? =a6 (.cells (x::y::Y).toArray e2 (0,0))) (aY:g≠p) (aI: ∀v∈d.toList.take (n*2),v.oneCell'=true) (h1:x.oneCell'=true) (h2:y.oneCell'=true):
  Calls prog 27 #[.slice (a6 ⟨g,0,a7⟩) n c,.int .i64 (i:Int),.slice (a6 ⟨p,0,a7⟩) 1 c2] w fun e w'=>
   ∃(G:Nat) (R:Array Value),e=.returned (.slice (a6 ⟨w.heap.size,0,a7⟩) (n+1) G)/\n+1<=G/\G<=maxLen/\w.grownBy w' a7/\w'.heap[w.heap.size]? =a6 (.cells R 39 (0,0))/\R.size=G*2/\
    R.toList.take ((n+1)*2)=(d.toList.take (n*2)).take (i*2)++[x,y]++(d.toList.take (n*2)).drop (i*2):=by
 have aZ: ¬((1:Int)=0):=by omega
 have bd: ¬((i:Int)=(n:Int)):=by omega
 have bf:IntKind.i64.wrap ((i:Int)+1)=(i:Int)+1:=by rw[IntKind.wrap_i64];omega
 have bg:IntKind.i64.wrap ((n:Int)+1)=(n:Int)+1:=by rw[IntKind.wrap_i64];omega
 have bi:(c:Int)<(n:Int)+1:=by omega
 have bn:(0:Int)<=(i:Int)+1:=by omega
 have bt:i<=n:=by omega
 have cb:((i:Int)+1).toNat=i+1:=by omega
 have cc:(i:Int)<=(n:Int):=by omega
 have cd: ¬(c=i):=by omega
 have ah:(n:Int)+1-(i:Int)=((n+1-i:Nat):Int):=by omega
 have ab:i+(n+1-i)=n+1:=by omega
 have B:d.toList.length=c*2:=by simpa using aH
 obtain⟨cs,J⟩: ∃cs,cs=(d.toList.take (n*2)).drop (i*2):=⟨_,rfl⟩;have K:cs.length=(n-i)*2:=by rw[J];simp[B];omega
 obtain⟨i0,z,ai,ak,al,ad,an⟩:=amr;have ao:(Builtin.firstCells i0.size i (.slice (a6 ⟨g,0,a7⟩) i c)).run prog w.drew=.ok (d.toList.take (i*2)).toArray w.drew:=by
  rw[al];exact run_firstCells_some w.drew 2 i ⟨g,0,a7⟩ i c (d.toList.take (i*2)) (by simp[B];omega) (fun j v m=>by
   rw[Addr.add_lit,cell_of_row w.drew g (0+j) d A (0,0) Z,Nat.zero_add];rw[List.getElem?_take]at m;split at m
   .simpa using m
   .cases m)
 have L: ∀q,(Builtin.append_ #[22,3] q #[.slice (a6 ⟨g,0,a7⟩) i c,.int .i64 ((n:Int)+1-(i:Int))]).run prog w=
   .ok (.slice (a6 ⟨w.heap.size,0,a7⟩) (n+1) (grownCap w (n+1) c 39)) (w.drew.alloc (.cells ((d.toList.take (i*2)).toArray++Builtin.zeroCells z.cells (n+1-i)++Builtin.zeroCells z.cells (grownCap w (n+1) c 39-(n+1))) 39)):=fun q=>by
  have h:=Lib.run_append_grow_zeros w 22 3 q 39 i0 z .i64 .i64 underlying22 underlying3 ai ak (a6 ⟨g,0,a7⟩) i c (d.toList.take (i*2)) ao (n+1-i) (by omega) (by omega) (by omega) (by omega) (by rw[ad];omega) (by rw[ad,ab];exact growslice_fits aG (by omega));rw[ab]at h;rw[ah];exact h
 obtain⟨G,M⟩: ∃G,G=grownCap w (n+1) c 39:=⟨_,rfl⟩;obtain⟨o,O⟩: ∃o:Array Value,o=(d.toList.take (i*2)).toArray++Builtin.zeroCells z.cells (n+1-i)++Builtin.zeroCells z.cells (G-(n+1)):=⟨_,rfl⟩;rw[<-M]at L;rw[<-O]at L;have aJ:n+1<=G:=by rw[M];exact grownCap_ge w _ _ _
 have au:G<=maxLen:=by rw[M];exact grownCap_le_maxLen w (n+1) c 39 (by unfold maxLen;omega)
 have ch:G<=9223372036854775807:=by unfold maxLen at au;omega
 have ae:o.size=G*2:=by
  rw[O];simp[size_zeroCells,an,B];omega
 have av:o.toList.take (i*2)=d.toList.take (i*2):=by
  rw[O,Array.toList_append,Array.toList_append,ax,List.toList_toArray];exact List.take_left' (by simp[B];omega)
 have aw:g<w.heap.size:=(Array.getElem?_eq_some_iff.1 Z).1;have ay:p<w.heap.size:=(Array.getElem?_eq_some_iff.1 ag).1;obtain⟨N,S⟩: ∃N,N=w.heap.size:=⟨_,rfl⟩;rw[<-S]at L;obtain⟨s,u⟩: ∃s,s=w.drew.alloc (.cells o 39):=⟨_,rfl⟩;rw[<-u]at L;have a1:s.heap[N]? =a6 (.cells o 39 (0,0)):=by rw[u,S];exact heap_alloc_new w.drew _
 have a2:s.heap[p]? =a6 (.cells (x::y::Y).toArray e2 (0,0)):=by rw[u];exact(Below.heap_alloc w.drew _ p ay).trans ag
 have a3:s.heap[g]? =a6 (.cells d A (0,0)):=by rw[u];exact(Below.heap_alloc w.drew _ g aw).trans Z
 obtain⟨f,U⟩: ∃f:Array Value,f=(o.toList.take (i*2)++[x,y]++o.toList.drop (i*2+2)).toArray:=⟨_,rfl⟩;have az:o.toList.length=G*2:=by simpa using ae
 have af:f.size=G*2:=by rw[U];simp[az];omega
 have aA: ∀W:World,W.heap[N]? =a6 (.cells o 39 (0,0))->W.heap[p]? =a6 (.cells (x::y::Y).toArray e2 (0,0))-> ∀q D,(Builtin.copy_ #[22,22] q #[.slice (a6 ⟨N,i*2,a7⟩) (n+1-i) D,.slice (a6 ⟨p,0,a7⟩) 1 c2]).run prog W=.ok (goInt (Nat.min 1 (n+1-i))) (W.setRow N f):=fun W u E q D=>by
  rw[U];refine qE W _ _ q 39 N (i*2) (n+1-i) D ⟨p,0,a7⟩ 1 c2 o 39 [x,y] 2 underlying22 IQ u ?_ ?_ ?_ ?_
  .rw[show Nat.min 1 (n+1-i)=1 from by simp only[Nat.min_def];split<;>omega];rfl
  .intro j v m;rw[Addr.add_lit,cell_of_row W p (0+j) _ e2 (0,0) E,<-m]
   match j with
   |0=>rfl
   |1=>rfl
   |j+2=>simp at m
  .rw[ae];simp;omega
  .intro v V;simp at V;rcases V with rfl|rfl<;>assumption
 obtain⟨l,X⟩: ∃l:Array Value,l=(f.toList.take ((i+1)*2)++cs++f.toList.drop ((i+1)*2+cs.length)).toArray:=⟨_,rfl⟩;have aK: ∀W:World,W.heap[N]? =a6 (.cells f 39 (0,0))->W.heap[g]? =a6 (.cells d A (0,0))-> ∀q D sc,(Builtin.copy_ #[22,22] q #[.slice (a6 ⟨N,(i+1)*2,a7⟩) (n-i) D,.slice (a6 ⟨g,i*2,a7⟩) (n-i) sc]).run prog W=.ok (goInt (Nat.min (n-i) (n-i))) (W.setRow N l):=fun W u E q D sc=>by
  rw[X];refine qE W _ _ q 39 N ((i+1)*2) (n-i) D ⟨g,i*2,a7⟩ (n-i) sc f 39 cs 2 underlying22 IQ u ?_ ?_ ?_ ?_
  .rw[K,show Nat.min (n-i) (n-i)=n-i from by simp only[Nat.min_def];split<;>omega]
  .intro j v m;rw[Addr.add_lit,cell_of_row W g (i*2+j) d A (0,0) E];rw[J,List.getElem?_drop,List.getElem?_take]at m;split at m
   .simpa using m
   .cases m
  .rw[K,af];omega
  .intro v V;exact aI v (List.mem_of_mem_drop (J▸V))
 have aO:g≠N:=by omega
 have cn:p≠N:=by omega
 have b1:(s.setRow N f).heap[N]? =a6 (.cells f 39 (0,0)):=setRow_heap s N o f _ _ a1;have b2:(s.setRow N f).heap[g]? =a6 (.cells d A (0,0)):=(setRow_other s N g f aO).trans a3;obtain⟨I,E⟩: ∃I,I=s.setRow N f:=⟨_,rfl⟩;have aB:=aA s a1 a2;clear aA;rw[<-E]at aB b1 b2;have aP:l.size=G*2:=by
  have:f.toList.length=G*2:=by simpa using af
  rw[X];simp[this,K];omega
 have aQ:l.toList.take ((n+1)*2)=(d.toList.take (n*2)).take (i*2)++[x,y]++(d.toList.take (n*2)).drop (i*2):=by
  have A:(d.toList.take (n*2)).take (i*2)=d.toList.take (i*2):=by rw[List.take_take,show min (i*2) (n*2)=i*2 by omega]
  have e1:f.toList.take ((i+1)*2)=d.toList.take (i*2)++[x,y]:=by
   rw[U,List.toList_toArray,av];exact List.take_left' (by simp[B];omega)
  rw[X,List.toList_toArray,e1,A,List.take_left' (by simp[B,K];omega),J]
 have aS: ∀W:World,W.heap[N]? =a6 (.cells f 39 (0,0))->(W.setRow N l).heap[N]? =a6 (.cells l 39 (0,0)):=fun W hW=>setRow_heap W N f l _ _ hW;have aV:w.grownBy (I.drew.setRow N l) a7:=by
  rw[E,u];refine⟨rfl,rfl,rfl,by simp[World.setRow,World.alloc],fun k hk _=> ?_⟩;have aF:k≠N:=by omega
  rw[setRow_other _ N k _ aF];show(((w.drew.alloc _).setRow N f).heap[k]?)=_;rw[setRow_other _ N k _ aF];exact Below.heap_alloc w.drew _ k hk
 have aW:(I.drew.setRow N l).heap[N]? =a6 (.cells l 39 (0,0)):=setRow_heap I.drew N f l _ _ b1;have cv: ¬(G=i):=by omega
 have dd: ¬(G=i+1):=by omega
 rw[<-S];clear E u U X J K af B az av ae O M S aS ao ah ab ai ak al ad an a3 aw ay;have mixed:prog.follows .mixedOrders=true:=by kernel_rfl
 go_enter func27,ntmps27
 go_wp2_with (first
  |(at_builtin;refine Lib.wpList_append_run _ rfl _ _ _ _ rfl _ _ rfl rfl _ _ (L _) ?_)
  |(at_builtin;refine EE _ rfl _ _ 22 22 rfl _ _ rfl rfl (aB _ _) ?_))
 go_region_law_o (refine KT rfl _ _ 22 22 rfl (.slice (a6 ⟨N,(i+1)*2,a7⟩) (n-i) (G-(i+1))) (.slice (a6 ⟨g,i*2,a7⟩) (n-i) (c-i)) (by simp[Act.eval,Act.put]) (by simp[Act.eval,Act.put]) (aK I.drew b1 b2 3 (G-(i+1)) (c-i)) ?_)
 go_wp2
 go_ret
 exact⟨G,l,rfl,aJ,au,aV,aW,aP,aQ⟩
end
section
open Option renaming some → a6, none → a7
inductive Ty where
 |unit
 |bool
 |int (k:IntKind)
 |str
 |list (t:Ty)
 |pair (a b:Ty)
 deriving DecidableEq
@[reducible] def Ty.den:Ty->Type
 |.unit=>Unit
 |.bool=>Bool
 |.int _=>Int
 |.str=>List UInt8
 |.list t=>List t.den
 |.pair a b=>a.den×b.den
def Ty.dflt:(t:Ty)->t.den
 |.unit=>()
 |.bool=>false
 |.int _=>0
 |.str=>[]
 |.list _=>[]
 |.pair a b=>(a.dflt,b.dflt)
def Ty.size:Ty->Nat
 |.unit=>0
 |.pair a b=>a.size+b.size
 |_=>1
def Ty.isAgg:Ty->Bool
 |.unit=>true
 |.pair _ _=>true
 |_=>false
def jq {t':Ty} (t:Ty) (x:t'.den):Option t.den:=if h:t'=t then a6 (cast (congrArg Ty.den h) x)else a7
def Ty.same:(t:Ty)->t.den->t.den->Bool
 |.unit,_,_=>true
 |.bool,x,y=>x==y
 |.int _,x,y=>x==y
 |.str,x,y=>x==y
 |.list _,_,_=>false
 |.pair a b,x,y=>a.same x.1 y.1&&b.same x.2 y.2
def Ty.comparable:Ty->Bool
 |.list _=>false
 |.pair a b=>a.comparable&&b.comparable
 |_=>true
def sub {d:Type} (l:List d) (lo hi:Int):List d:=(l.take hi.toNat).drop lo.toNat
inductive bH where
 |undef
 |val (t:Ty) (x:t.den)
 |nils
 |nilp
 |nilfn
 |tup (l:List bH)
 |agg (l:List bH)
 |cellp (t:Ty) (x:t.den)
 |ptr (id off:Nat)
 |slc (id ver:Nat) (view:Option (Int×Int))
 |ep (id ver:Nat) (i:Nat) (off:Nat)
 |fn (f:FuncId) (caps:List bH)
 |mfn (f:FuncId) (fst:List bH)
 |mpv (id:Nat)
 |yld (id:Nat)
 |emp
 |lst (t:Ty) (x:List t.den) (nil:Bool)
 |slf (id:Nat)
 |sd (id ver:Nat)
inductive Ex where
 |normal
 |exit (id:Nat)
 |goto (l:Nat)
 |ret
inductive dC where
 |box (t:TypeId) (cells:List bH)
 |arr (t:Ty) (ver:Nat) (xs:List t.den)
 |lp (f:FuncId) (fr:List bH) (ps:List Nat) (asg bd:Code) (key:Option Nat) (state:Nat) (pend:Option Ex)
 |dead
 |mp (kk vk:IntKind) (es:List (Int×Int))
abbrev fZ:=List (Nat×dC)
def dG:fZ->Nat->Option dC
 |[],_=>a7
 |(k,o)::h,i=>bif k==i then a6 o else dG h i
def iH:fZ->Nat->dC->fZ
 |[],_,_=>[]
 |(k,o)::h,i,d=>bif k==i then(k,d)::h else(k,o)::iH h i d
structure St where
 fr:List bH
 stk:List (List bH)
 hp:fZ
 nxt:Nat
inductive TK where
 |bool|str|other
 |int (k:IntKind)
 |slice (e:TypeId)
 |struct (fs:List (Nat×TypeId))
 |fn
 |ptr (e:TypeId)
 |map (k e:TypeId)
structure TI where
 known:Bool
 k:TK
 size:Nat
 bytes:Nat
 ty:Option Ty
 zero:List bH
 eq:Bool
 bld:Bool:=false
 keep:Bool:=false
instance:Inhabited TI:=⟨⟨false,.other,0,0,a7,[],false,false,false⟩⟩
inductive TT where
 |nil
 |node (k:Nat) (i:TI) (l r:TT)
def TT.at:TT->TypeId->TI
 |.nil,_=>default
 |.node k i l r,t=>bif Nat.beq k t then i else bif Nat.blt t k then l.at t else r.at t
def TI.isAgg (i:TI):Bool:=match i.k with|.struct _=>true|_=>false
def flat:(t:Ty)->t.den->List bH
 |.unit,_=>[]
 |.pair a b,x=>flat a x.1++flat b x.2
 |.bool,x=>[.val .bool x]
 |.int k,x=>[.val (.int k) x]
 |.str,x=>[.val .str x]
 |.list t,x=>[.val (.list t) x]
def bH.cells:bH->Option (List bH)
 |.val t x=>a6 (flat t x)
 |.agg l=>a6 l
 |.undef=>a7
 |.tup _=>a7
 |v=>a6 [v]
def leaf (t:Ty):bH->Option t.den
 |.val t' x=>jq t x
 |.nils=>match t with|.list _=>a6 []|_=>a7
 |_=>a7
def mk:(t:Ty)->List bH->Option (t.den×List bH)
 |.unit,l=>a6 ((),l)
 |.pair a b,l=>
  match mk a l with
  |some (x,d)=>match mk b d with
   |some (y,e)=>a6 ((x,y),e)
   |none=>a7
  |none=>a7
 |.bool,c::l=>match leaf .bool c with|some x=>a6 (x,l)|none=>a7
 |.int k,c::l=>match leaf (.int k) c with|some x=>a6 (x,l)|none=>a7
 |.str,c::l=>match leaf .str c with|some x=>a6 (x,l)|none=>a7
 |.list t,c::l=>match leaf (.list t) c with|some x=>a6 (x,l)|none=>a7
 |_,[]=>a7
def Ej (t:Ty) (l:List bH):Option t.den:=
 match mk t l with
 |some (x,[])=>a6 x
 |_=>a7
def bH.isNils:bH->Bool
 |.nils=>true
 |_=>false
def norm (i:TI) (l:List bH):bH:=
 match i.k with
 |.struct _=>match i.ty with
  |some t=>match Ej t l with
   |some x=>bif i.keep&&l.any bH.isNils then .agg l else .val t x
   |none=>.agg l
  |none=>.agg l
 |_=>match l with
  |[v]=>v
  |_=>.undef
def Yn {d:Type} (xs:List d):Option (Int×Int)->List d
 |none=>xs
 |some (lo,e)=>sub xs lo e
def yR (hp:fZ) (t:Ty) (id d:Nat) (e:Option (Int×Int)):Option (List t.den):=
 match dG hp id with
 |some (.arr t' v f)=>bif v==d then(match jq (.list t) (t':=.list t') f with|some ys=>a6 (Yn ys e)|none=>a7)else a7
 |_=>a7
def bH.as (hp:fZ) (t:Ty):bH->Option t.den
 |.val t' x=>jq t x
 |.nils=>match t with|.list _=>a6 []|_=>a7
 |.emp=>match t with|.list _=>a6 []|_=>a7
 |.lst e xs _=>jq (t':=.list e) t xs
 |.slc id ver d=>match t with|.list e=>yR hp e id ver d|_=>a7
 |.agg l=>bif t.isAgg then Ej t l else a7
 |_=>a7
def Uw:(t:Ty)->t.den->Nat->bH
 |.pair a _,x,0=>.val a x.1
 |.pair _ b,x,n+1=>Uw b x.2 n
 |_,_,_=>.undef
def NI:(t:Ty)->t.den->Nat->bH
 |.pair a _,x,0=>.cellp a x.1
 |.pair _ b,x,n+1=>NI b x.2 n
 |_,_,_=>.undef
def ut:Value->bH
 |.bool b=>.val .bool b
 |.int k n=>.val (.int k) n
 |.string s=>.val .str s.data.toList
 |.slice a7 0 0=>.nils
 |.pointer a7=>.nilp
 |.nilFunc=>.nilfn
 |_=>.undef
def Uk:Value->bH
 |.agg cs=>bif cs.toList.all Value.oneCell' then .agg (cs.toList.map ut)else .undef
 |.tuple _=>.undef
 |v=>ut v
def gy (fr:List bH):Operand->bH
 |.tmp t=>fr.getD t .undef
 |.const v=>Uk v
 |.global _=>.undef
 |.func f=>.fn f []
def kF:Nat:=140737488355328
def bZ (k:IntKind) (a b:Int):Int:=k.wrap (a+b)
def ed (k:IntKind) (a b:Int):Int:=k.wrap (a-b)
def air (k:IntKind) (a b:Int):Int:=k.wrap (a*b)
def aAk (k:IntKind) (a b:Int):Int:=k.wrap (a.tdiv b)
def ajN (d:BinOp) (k:IntKind) (a b:Int):Int:=
 let x:=BitVec.ofInt k.bits a
 let y:=BitVec.ofInt k.bits b
 match d with
 |.and=>k.wrap (x&&& y).toNat
 |.or=>k.wrap (x|||y).toNat
 |.xor=>k.wrap (x^^^y).toNat
 |_=>k.wrap (x&&& ~~~y).toNat
def aty (k:IntKind) (a b:Int):Int:=k.wrap (a*2^(min b.toNat k.bits))
def adu (k:IntKind) (a b:Int):Int:=a.fdiv (2^(min b.toNat k.bits))
def gJ (a b:Int):Bool:=decide (a<b)
def leI (a b:Int):Bool:=decide (a<=b)
def bJ (a b:Int):Bool:=a==b
def bD {d:Type} (l:List d):Int:=(l.length:Int)
def KZ (a b:Nat):Bool:=decide (a<b)
def eqN (a b:Nat):Bool:=Nat.beq a b
def leN (a b:Nat):Bool:=decide (a<=b)
def E8 (a b:Int):Int:=if b<a then b else a
def zu (a b:Int):Int:=if b>a then b else a
def bK (s:List UInt8) (i:Int):Int:=((s.getD i.toNat 0).toNat:Int)
def gu {e:Type} (l:List e) (d:e) (i:Int):e:=l.getD i.toNat d
def eX (a b:List UInt8):Bool:=a==b
def Ag (a b:List UInt8):Bool:=Op.bytesLess a b
def cZ (l:List UInt8):List Int:=l.map fun b=>(b.toNat:Int)
def ofBytes (l:List Int):List UInt8:=l.map fun n=>UInt8.ofNat n.toNat
def aDE (l:List UInt8):Bool:=decide (l.length<=kF)
def dN {d:Type} (l:List d) (e:Nat):Bool:=decide (l.length*e<=kF)
def fV {d:Type} (l:List d) (i:Int):Bool:=decide (0<=i)&&decide (i<(l.length:Int))
def eG (n lo hi:Int):Bool:=decide (0<=lo)&&(decide (lo<=hi)&&decide (hi<=n))
def ig {d:Type} (l:List d) (i:Nat) (x:d):List d:=l.set i x
def wF (d:BinOp) (k:IntKind) (a b:Int):bH:=
 match d with
 |.add=>.val (.int k) (bZ k a b)
 |.sub=>.val (.int k) (ed k a b)
 |.mul=>.val (.int k) (air k a b)
 |.eql=>.val .bool (bJ a b)
 |.neq=>.val .bool (!bJ a b)
 |.lss=>.val .bool (gJ a b)
 |.leq=>.val .bool (leI a b)
 |.gtr=>.val .bool (gJ b a)
 |.geq=>.val .bool (leI b a)
 |_=>.undef
def Ua (d:BinOp) (a b:List UInt8):bH:=
 match d with
 |.eql=>.val .bool (eX a b)
 |.neq=>.val .bool (!eX a b)
 |.lss=>.val .bool (Ag a b)
 |.leq=>.val .bool (Ag a b||eX a b)
 |.gtr=>.val .bool (!(Ag a b||eX a b))
 |.geq=>.val .bool (!Ag a b)
 |_=>.undef
def TT.eqOk (T:TT):Nat->TypeId->Bool
 |0,_=>false
 |n+1,t=>(T.at t).known&&(match(T.at t).k with
  |.bool|.int _|.str=>true
  |.struct d=>(T.at t).eq&&d.all fun f=>T.eqOk n f.2
  |_=>false)
section
variable {R:Type}
def kV (b:Bool) (k:Option R):Option R:=cond b k a7
def YN (T:TT) (d:BinOp) (t:TypeId) (x y:bH) (K:bH->Option R):Option R:=
 match x,y with
 |.val (.int k) a,.val (.int f) b=>
  if k=f then
   match d with
   |.quo=>kV (!bJ b 0) (K (.val (.int k) (aAk k a b)))
   |.rem=>kV (!bJ b 0) (K (.val (.int k) (a.tmod b)))
   |.add|.sub|.mul|.eql|.neq|.lss|.leq|.gtr|.geq=>K (wF d k a b)
   |.and|.or|.xor|.andNot=>K (.val (.int k) (ajN d k a b))
   |.shl=>kV (leI 0 b) (K (.val (.int k) (aty k a b)))
   |.shr=>kV (leI 0 b) (K (.val (.int k) (adu k a b)))
  else
   match d with
   |.shl=>kV (leI 0 b) (K (.val (.int k) (aty k a b)))
   |.shr=>kV (leI 0 b) (K (.val (.int k) (adu k a b)))
   |_=>a7
 |.val .bool a,.val .bool b=>
  bif(T.at t).known then
   match(T.at t).k,d with
   |.bool,.eql=>K (.val .bool (a==b))
   |.bool,.neq=>K (.val .bool (!(a==b)))
   |_,_=>a7
  else a7
 |.val .str a,.val .str b=>
  match d with
  |.add=>kV (decide (a.length+b.length<=kF)) (K (.val .str (a++b)))
  |.eql|.neq|.lss|.leq|.gtr|.geq=>K (Ua d a b)
  |_=>a7
 |.lst _ _ b,.nils=>bif(T.at t).known then(match(T.at t).k,d with
  |.slice _,.eql=>K (.val .bool b)
  |.slice _,.neq=>K (.val .bool (!b))
  |_,_=>a7)else a7
 |x,y=>
  bif !T.eqOk 6 t then a7 else
  match(T.at t).k,(T.at t).ty with
  |.struct _,a6 e=>
   match x.as [] e,y.as [] e,d with
   |some a,a6 b,.eql=>K (.val .bool (e.same a b))
   |some a,a6 b,.neq=>K (.val .bool (!e.same a b))
   |_,_,_=>a7
  |_,_=>a7
def Bc:List (Int×Int)->Int->Option Int
 |[],_=>a7
 |(k,v)::l,a=>bif bJ a k then a6 v else Bc l a
def oh (l:List (Int×Int)) (a:Int):Int:=match Bc l a with
 |some v=>v
 |none=>0
def anP (l:List (Int×Int)) (a:Int):Bool:=match Bc l a with
 |some _=>true
 |none=>false
def rQ:List (Int×Int)->Int->Int->List (Int×Int)
 |[],a,b=>[(a,b)]
 |(k,v)::l,a,b=>bif bJ a k then(k,b)::l else(k,v)::rQ l a b
def TT.mapOf (T:TT) (t:TypeId):Option (IntKind×IntKind):=bif(T.at t).known then(match(T.at t).k with
 |.map k e=>bif(T.at k).known&&(T.at e).known then(match(T.at k).k,(T.at e).k with
  |.int a,.int b=>a6 (a,b)
  |_,_=>a7)else a7
 |_=>a7)else a7
def ao7 (hp:fZ) (x y:bH):Bool:=match x with
 |.slc id ver _=>(match y with
  |.nils=>(match dG hp id with
   |some (.arr _ v d)=>v==ver&&KZ 0 d.length
   |_=>false)
  |_=>false)
 |_=>false
def aoi (hp:fZ) (x y:bH):Bool:=match x with
 |.ptr id _=>(match y with
  |.nilp=>(match dG hp id with
   |some (.box _ _)=>true
   |_=>false)
  |_=>false)
 |_=>false
def NG (T:TT) (hp:fZ) (d:BinOp) (t:TypeId) (x y:bH) (K:bH->Option R):Option R:=
 bif ao7 hp x y then(bif(T.at t).known then(match(T.at t).k,d with
  |.slice _,.eql=>K (.val .bool false)
  |.slice _,.neq=>K (.val .bool true)
  |_,_=>a7)else a7)else bif aoi hp x y then(bif(T.at t).known then(match(T.at t).k,d with
  |.ptr _,.eql=>K (.val .bool false)
  |.ptr _,.neq=>K (.val .bool true)
  |_,_=>a7)else a7)else YN T d t x y K
def alJ (d:UnOp) (x:bH) (K:bH->Option R):Option R:=
 match d,x with
 |.not,.val .bool b=>K (.val .bool (!b))
 |.neg,.val (.int k) a=>K (.val (.int k) (ed k 0 a))
 |_,_=>a7
def Bd (cl:Bool) (st:St) (dst:Option Nat):Nat:=cond cl st.nxt<|1000000*st.stk.length+dst.getD 0
def alloc (cl:Bool) (dst:Option Nat) (o:dC) (st:St) (K:Nat->St->Option R):Option R:=
 match dG st.hp (Bd cl st dst)with
 |some _=>a7
 |none=>bif st.nxt.ble (Bd cl st dst)then K (Bd cl st dst) {st with hp:=(Bd cl st dst,o)::st.hp,nxt:=bif cl then Bd cl st dst+1 else st.nxt}else a7
def Gm (cs:List bH) (off k:Nat):Option (List bH):=cond ((off+k).ble cs.length) (a6 ((cs.drop off).take k)) a7
def putCells (cs:List bH) (off:Nat) (vs:List bH):Option (List bH):=cond ((off+vs.length).ble cs.length) (a6 (cs.take off++vs++cs.drop (off+vs.length))) a7
def IG (T:TT) (hp:fZ) (t:TypeId) (a:bH) (K:bH->Option R):Option R:=
 bif !(T.at t).known then a7 else
 match a with
 |.cellp u x=>match(T.at t).ty with
  |some e=>match jq e x with
   |some y=>K (.val e y)
   |none=>a7
  |none=>a7
 |.ptr id d=>match dG hp id with
  |some (.box _ cs)=>match Gm cs d (T.at t).size with
   |some l=>K (norm (T.at t) l)
   |none=>a7
  |_=>a7
 |.ep id ver i d=>match dG hp id with
  |some (.arr u v f)=>bif v==ver then
    (bif KZ i f.length then
     (match Gm (flat u (f.getD i u.dflt)) d (T.at t).size with
     |some l=>K (norm (T.at t) l)
     |none=>a7)else a7)else a7
  |_=>a7
 |_=>a7
def GG (T:TT) (st:St) (t:TypeId) (a v:bH) (K:St->Option R):Option R:=
 match v.cells with
 |none=>a7
 |some d=>
  bif(T.at t).known&&d.length==(T.at t).size then
   match a with
   |.ptr id e=>match dG st.hp id with
    |some (.box bt cs)=>match putCells cs e d with
     |some g=>K {st with hp:=iH st.hp id (.box bt g)}
     |none=>a7
    |_=>a7
   |.ep id ver i e=>match dG st.hp id with
    |some (.arr u w f)=>bif w==ver then
      (bif KZ i f.length then
       (match putCells (flat u (f.getD i u.dflt)) e d with
       |some cs=>match Ej u cs with
        |some x=>K {st with hp:=iH st.hp id (.arr u w (ig f i x))}
        |none=>a7
       |none=>a7)else a7)else a7
    |_=>a7
   |_=>a7
  else a7
def YO (f:fZ) (st:St) (a v:bH) (K:St->Option R):Option R:=
 match a,v with
 |.ptr id d,.slc i _ (a6 _)=>match dG f id with
  |some (.box _ g)=>match g.getD d .undef with
   |.slc i0 _ a7=>bif Nat.beq i0 i&& !Nat.beq i id then
     (match dG st.hp id,dG st.hp i with
     |some (.box bt cs),a6 (.arr e w h)=>match cs.getD d .undef with
      |.slc i1 w1 (a6 (lo,j))=>bif Nat.beq i1 i&&(w1==w&&lo==0)then
        K {st with hp:=iH (iH st.hp i (.arr e (w+1) (h.take j.toNat))) id (.box bt (cs.set d (.slc i (w+1) a7)))}else K st
      |_=>K st
     |_,_=>K st)else K st
   |_=>K st
  |_=>K st
 |_,_=>K st
def Gw (T:TT) (d:List (Nat×TypeId)) (cs:List bH):List (Nat×bH)->Option (List bH)
 |[]=>a6 cs
 |(i,v)::g=>match d[i]?,v.cells with
  |some (h,e),a6 f=>bif(T.at e).known&&f.length==(T.at e).size then
    (match putCells cs h f with
    |some j=>Gw T d j g
    |none=>a7)else a7
  |_,_=>a7
def Gy (e:Ty) (xs:List e.den):List (Nat×bH)->Option (List e.den)
 |[]=>a6 xs
 |(i,v)::d=>match v.as [] e with
  |some x=>bif KZ i xs.length then Gy e (xs.set i x) d else a7
  |none=>a7
def intOf:bH->Option Int
 |.val (.int _) n=>a6 n
 |_=>a7
def bound (d:Int):Option bH->Option Int
 |none=>a6 d
 |some v=>intOf v
def TT.rowOf (T:TT) (t:TypeId) (size:Nat):Bool:=
 match(T.at t).k with
 |.slice e=>(T.at t).known&&((T.at e).known&&((T.at e).size==size&&(KZ 0 size&&KZ 0 (T.at e).bytes)))
 |_=>false
def TT.isPtr (T:TT) (t:TypeId):Bool:=
 match(T.at t).k with
 |.ptr _=>(T.at t).known
 |_=>false
def TT.isBytes (T:TT) (t:TypeId):Bool:=
 match(T.at t).k with
 |.ptr e=>(T.at t).known&&((T.at e).known&&(match(T.at e).ty with|some (.int .u8)=>Nat.beq (T.at e).size 1|_=>false))
 |_=>false
def TT.isStr (T:TT) (t:TypeId):Bool:=
 match(T.at t).k with
 |.str=>(T.at t).known
 |_=>false
def Gz (T:TT) (hp:fZ) (t:TypeId) (x:bH) (lo hi f:Option bH) (K:bH->Option R):Option R:=
 match x,f with
 |.val .str s,a7=>match bound 0 lo,bound (bD s) hi with
  |some l,a6 h=>kV (T.isStr t&&eG (bD s) l h) (K (.val .str (sub s l h)))
  |_,_=>a7
 |.val (.list e) d,a7=>match bound 0 lo,bound (bD d) hi with
  |some l,a6 h=>kV (T.rowOf t e.size&&eG (bD d) l h) (K (.val (.list e) (sub d l h)))
  |_,_=>a7
 |.val (.list e) d,a6 m=>match bound 0 lo,hi.bind intOf,intOf m with
  |some l,a6 h,a6 k=>kV (T.rowOf t e.size&&(l==0&&(h==0&&k==0))) (K .emp)
  |_,_,_=>a7
 |.nils,a7=>match bound 0 lo,bound 0 hi with
  |some l,a6 h=>kV (T.rowOf t (T.at (match(T.at t).k with|.slice e=>e|_=>0)).size&&(bJ l 0&&bJ h 0)) (K .nils)
  |_,_=>a7
 |.slc id ver a7,a7=>match dG hp id with
  |some (.arr e v d)=>bif v==ver then
    (match bound 0 lo,bound (bD d) hi with
    |some l,a6 h=>kV (T.rowOf t e.size&&eG (bD d) l h) (K (.slc id ver (a6 (l,h))))
    |_,_=>a7)else a7
  |_=>a7
 |_,_=>a7
def TT.fieldAt (T:TT) (t:TypeId) (f:Nat):Option (Nat×TypeId):=
 match(T.at t).k with
 |.struct e=>bif(T.at t).known then
   (match e[f]? with
   |some (g,d)=>bif(T.at d).known&&KZ 0 (T.at d).size then a6 (g,d)else a7
   |none=>a7)else a7
 |_=>a7
def qP (T:TT) (hp:fZ) (t:TypeId) (x:bH) (f:Nat) (K:bH->Option R):Option R:=
 match T.fieldAt t f with
 |some (d,_)=>match x with
  |.cellp u x=>match(T.at t).ty with
   |some e=>match jq e x with
    |some y=>K (NI e y f)
    |none=>a7
   |none=>a7
  |.ptr id o=>match dG hp id with
   |some (.box _ _)=>K (.ptr id (o+d))
   |_=>a7
  |.ep id ver i o=>match dG hp id with
   |some (.arr _ v _)=>bif v==ver then K (.ep id ver i (o+d))else a7
   |_=>a7
  |_=>a7
 |none=>a7
def Gx (T:TT) (t:TypeId) (x:bH) (f:Nat) (K:bH->Option R):Option R:=
 match T.fieldAt t f with
 |some (g,d)=>match x with
  |.val u x=>match(T.at t).ty with
   |some e=>match jq e x with
    |some y=>K (Uw e y f)
    |none=>a7
   |none=>a7
  |.agg l=>match Gm l g (T.at d).size with
   |some cs=>K (norm (T.at d) cs)
   |none=>a7
  |_=>a7
 |none=>a7
def qQ (T:TT) (hp:fZ) (t:TypeId) (x i:bH) (K:bH->Option R):Option R:=
 match intOf i with
 |none=>a7
 |some i=>match x with
  |.val (.list e) d=>kV (T.rowOf t e.size&&fV d i) (K (.cellp e (gu d e.dflt i)))
  |.slc id ver f=>match dG hp id with
   |some (.arr e v d)=>bif v==ver then
     (match f with
     |none=>kV (T.rowOf t e.size&&fV d i) (K (.ep id ver i.toNat 0))
     |some (lo,g)=>kV (T.rowOf t e.size&&(decide (0<=i)&&gJ (lo+i) g)) (K (.ep id ver (lo+i).toNat 0)))else a7
   |_=>a7
  |_=>a7
def YP (T:TT) (hp:fZ) (t:TypeId) (x:bH) (K:bH->Option R):Option R:=
 match x with
 |.val .str s=>kV (T.isStr t) (K (.val (.int .i64) (bD s)))
 |.val (.list e) d=>kV (T.rowOf t e.size) (K (.val (.int .i64) (bD d)))
 |.nils=>kV (T.rowOf t (T.at (match(T.at t).k with|.slice e=>e|_=>0)).size) (K (.val (.int .i64) 0))
 |.slc id ver f=>match dG hp id with
  |some (.arr e v d)=>bif v==ver then
    kV (T.rowOf t e.size) (match f with
    |none=>K (.val (.int .i64) (bD d))
    |some (lo,g)=>K (.val (.int .i64) (g-lo)))else a7
  |_=>a7
 |_=>a7
def Gv (T:TT) (cl:Bool) (dst:Option Nat) (t:TypeId) (s x:bH) (st:St) (K:bH->St->Option R):Option R:=
 match(T.at t).k with
 |.slice g=>match(T.at g).ty with
  |some e=>match x.as st.hp (.list e)with
   |none=>a7
   |some d=>match s with
    |.nils=>kV (T.rowOf t e.size&&dN d (T.at g).bytes) (alloc cl dst (.arr e 0 d) st fun id st=>K (.slc id 0 a7) st)
    |.emp=>kV (T.rowOf t e.size&&dN d (T.at g).bytes) (bif KZ 0 d.length then alloc cl dst (.arr e 0 d) st fun id st=>K (.slc id 0 a7) st else K .emp st)
    |.slc id ver i=>match dG st.hp id with
     |some (.arr e' v f)=>bif v==ver then
       (match jq (t':=.list e') (.list e) f with
       |some f=>match i with
        |none=>kV (T.rowOf t e.size&&dN (f++d) (T.at g).bytes) (K (.slc id (ver+1) a7) {st with hp:=iH st.hp id (.arr e (ver+1) (f++d))})
        |some (lo,h)=>kV (T.rowOf t e.size&&(bJ lo 0&&dN (f.take h.toNat++d) (T.at g).bytes))
          (K (.slc id (ver+1) a7) {st with hp:=iH st.hp id (.arr e (ver+1) (f.take h.toNat++d))})
       |none=>a7)else a7
     |_=>a7
    |_=>a7
  |none=>a7
 |_=>a7
def xM (T:TT) (cl:Bool) (dst:Option Nat) (t t':TypeId) (s x:bH) (st:St) (K:bH->St->Option R):Option R:=
 match(T.at t).k,x with
 |.slice d,.val .str y=>match(T.at d).ty with
  |some (.int .u8)=>bif T.isStr t'&&T.rowOf t 1&&Nat.beq (T.at d).bytes 1 then
    (match s with
    |.nils=>kV (aDE y) (alloc cl dst (.arr (.int .u8) 0 (cZ y)) st fun id st=>K (.slc id 0 a7) st)
    |.slc id ver f=>match dG st.hp id with
     |some (.arr (.int .u8) v e)=>bif v==ver then
       (match f with
       |none=>kV (dN (e++cZ y) 1) (K (.slc id (ver+1) a7) {st with hp:=iH st.hp id (.arr (.int .u8) (ver+1) (e++cZ y))})
       |some _=>a7)else a7
     |_=>a7
    |_=>a7)else a7
  |_=>a7
 |_,_=>a7
def xN (T:TT) (s d:TypeId) (x:bH) (hp:fZ) (K:bH->Option R):Option R:=
 bif !((T.at s).known&&(T.at d).known)then a7 else
 match(T.at s).k,(T.at d).k,x with
 |.int _,.int k,.val (.int _) n=>K (.val (.int k) (k.wrap n))
 |.str,.str,.val .str s=>K (.val .str s)
 |.slice e,.str,x=>match(T.at e).k with
  |.int .u8=>match x.as hp (.list (.int .u8))with
   |some f=>kV (T.at e).known (K (.val .str (ofBytes f)))
   |none=>a7
  |_=>a7
 |_,_,_=>a7
abbrev fO (R:Type):=bH->List bH->Option Nat->St->(bH->St->Option R)->Option R
def yI (k:IntKind):List bH->Option (List Int)
 |[]=>a6 []
 |.val (.int d) a::l=>if k=d then match yI k l with
   |some l=>a6 (a::l)
   |none=>a7
  else a7
 |_=>a7
def jH (T:TT) (cl:Bool) (o:Oper) (b:Builtin) (d:List TypeId) (args:List bH) (st:St) (K:bH->St->Option R):Option R:=
 match b,args with
 |.len,[x]=>match d with
  |[t]=>YP T st.hp t x fun v=>K v st
  |_=>a7
 |.min,.val (.int k) a::l=>match yI k l with
  |some l=>K (.val (.int k) (l.foldl E8 a)) st
  |none=>a7
 |.max,.val (.int k) a::l=>match yI k l with
  |some l=>K (.val (.int k) (l.foldl zu a)) st
  |none=>a7
 |.append,[s,x]=>match d with
  |[t,g]=>bif t==g then Gv T cl o.dst t s x st K else xM T cl o.dst t g s x st K
  |_=>a7
 |.unsafeSliceData,[.slc id f a7]=>match d with
  |[t]=>match dG st.hp id with
   |some (.arr e v _)=>bif v==f&&(T.rowOf t e.size&&T.isPtr o.type)then K (.sd id f) st else a7
   |_=>a7
  |_=>a7
 |.unsafeString,[.sd id f,.val (.int .i64) n]=>match d with
  |[i,_]=>match dG st.hp id with
   |some (.arr (.int .u8) v h)=>bif v==f&&T.isBytes i then kV (bJ n (bD h)) (K (.val .str (ofBytes h)) {st with hp:=iH st.hp id .dead})else a7
   |_=>a7
  |_=>a7
 |_,_=>a7
def dR (T:TT) (cl:Bool) (call:fO R) (o:Oper) (st:St) (K:bH->St->Option R):Option R:=
 match o.op with
 |.move x|.assign x=>K (gy st.fr x) st
 |.pick c a b=>match gy st.fr c with
  |.val .bool t=>bif t then K (gy st.fr a) st else K (gy st.fr b) st
  |_=>a7
 |.alloc t=>bif(T.at t).known then
   (match(T.at t).k,(T.at t).zero with
   |.slice h,[.nils]=>match(T.at h).ty with
    |some e=>bif KZ 0 e.size then alloc cl (a6 (o.dst.getD 0+500000)) (.arr e 0 []) st fun i st=>alloc cl o.dst (.box t [.slc i 0 a7]) st fun id st=>K (.ptr id 0) st
     else a7
    |none=>alloc cl o.dst (.box t (T.at t).zero) st fun id st=>K (.ptr id 0) st
   |.struct _,[.nilp,.nils]=>bif(T.at t).bld then
     alloc cl (a6 (o.dst.getD 0+500000)) (.arr (.int .u8) 0 []) st fun i st=>alloc cl o.dst (.box t [.slf (Bd cl st o.dst),.slc i 0 a7]) st fun id st=>K (.ptr id 0) st
    else alloc cl o.dst (.box t (T.at t).zero) st fun id st=>K (.ptr id 0) st
   |_,z=>alloc cl o.dst (.box t z) st fun id st=>K (.ptr id 0) st)else a7
 |.box t x=>match(gy st.fr x).cells with
  |some D=>bif(T.at t).known&&D.length==(T.at t).size then alloc cl o.dst (.box t D) st fun id st=>K (.ptr id 0) st else a7
  |none=>a7
 |.build t u=>bif !(T.at t).known then a7 else
  match(T.at t).k with
  |.struct G=>match Gw T G (T.at t).zero (u.toList.map fun p=>(p.1,gy st.fr p.2))with
   |some cs=>K (norm (T.at t) cs) st
   |none=>a7
  |_=>a7
 |.buildSlice t n u=>match(T.at t).k with
  |.slice h=>match(T.at h).ty with
   |some e=>match Ej e (T.at h).zero with
    |some d=>bif T.rowOf t e.size&&leN (n*e.size) 1000000 then
      (match Gy e (List.replicate n d) (u.toList.map fun p=>(p.1,gy st.fr p.2))with
      |some I=>alloc cl o.dst (.arr e 0 I) st fun id st=>K (.slc id 0 a7) st
      |none=>a7)else a7
    |none=>a7
   |none=>a7
  |_=>a7
 |.load t a=>IG T st.hp t (gy st.fr a) fun v=>K v st
 |.store t a v=>GG T st t (gy st.fr a) (gy st.fr v) fun J=>YO st.hp J (gy st.fr a) (gy st.fr v) fun st=>K .undef st
 |.nilCheck x=>match gy st.fr x with
  |.ptr id A=>match dG st.hp id with
   |some (.box _ _)=>K (.ptr id A) st
   |_=>a7
  |.cellp t x=>K (.cellp t x) st
  |.ep id ver i A=>match dG st.hp id with
   |some (.arr _ v _)=>bif v==ver then K (.ep id ver i A) st else a7
   |_=>a7
  |_=>a7
 |.binOp op t x y _=>NG T st.hp op t (gy st.fr x) (gy st.fr y) fun v=>K v st
 |.unOp op _ x=>alJ op (gy st.fr x) fun v=>K v st
 |.makeMap t r=>match r,T.mapOf t with
  |none,a6 (j,g)=>alloc cl o.dst (.mp j g []) st fun id st=>K (.mpv id) st
  |_,_=>a7
 |.mapUpdate t m k x=>match T.mapOf t,gy st.fr m with
  |some (j,g),.mpv id=>match dG st.hp id,gy st.fr k,gy st.fr x with
   |some (.mp kk' vk' q),.val (.int B) a,.val (.int L) b=>
    bif decide (kk'=j)&&(decide (B=j)&&(decide (vk'=g)&&decide (L=g)))then K .undef {st with hp:=iH st.hp id (.mp j g (rQ q a b))}else a7
   |_,_,_=>a7
  |_,_=>a7
 |.lookup t m k ok=>match T.mapOf t,gy st.fr m with
  |some (j,g),.mpv id=>match dG st.hp id,gy st.fr k with
   |some (.mp kk' vk' q),.val (.int B) a=>
    bif decide (kk'=j)&&(decide (B=j)&&decide (vk'=g))then
     K (bif ok then .tup [.val (.int g) (oh q a),.val .bool (anP q a)]else .val (.int g) (oh q a)) st else a7
   |_,_=>a7
  |_,_=>a7
 |.convert s d x=>xN T s d (gy st.fr x) st.hp fun v=>K v st
 |.makeFunc f first E=>match f,first.toList with
  |.func f,[]=>K (.fn f (E.toList.map (gy st.fr))) st
  |.func f,l=>bif E.toList.isEmpty then K (.mfn f (l.map (gy st.fr))) st else a7
  |_,_=>a7
 |.makeSlice t l c=>match(T.at t).k with
  |.slice h=>match(T.at h).ty,intOf (gy st.fr l),intOf (gy st.fr c)with
   |some e,a6 l,a6 c=>match Ej e (T.at h).zero with
    |some d=>kV (T.rowOf t e.size&&(decide (0<=l)&&(decide (l<=c)&&decide (c.toNat*(T.at h).bytes<=kF))))
      (alloc cl o.dst (.arr e 0 (List.replicate l.toNat d)) st fun id st=>K (.slc id 0 a7) st)
    |none=>a7
   |_,_,_=>a7
  |_=>a7
 |.slice t x lo hi M=>Gz T st.hp t (gy st.fr x) (lo.map (gy st.fr)) (hi.map (gy st.fr)) (M.map (gy st.fr)) fun v=>K v st
 |.fieldAddr t x f=>qP T st.hp t (gy st.fr x) f fun v=>K v st
 |.field t x f=>Gx T t (gy st.fr x) f fun v=>K v st
 |.indexAddr t x i=>qQ T st.hp t (gy st.fr x) (gy st.fr i) fun v=>K v st
 |.index t x i=>match gy st.fr x,intOf (gy st.fr i)with
  |.val .str s,a6 i=>kV (T.isStr t&&fV s i) (K (.val (.int .u8) (bK s i)) st)
  |_,_=>a7
 |.extract x n=>match gy st.fr x with
  |.tup l=>match l[n]? with
   |some v=>K v st
   |none=>a7
  |_=>a7
 |.call c=>match c.callee with
  |.builtin b=>jH T cl o b c.argTypes.toList (c.args.toList.map (gy st.fr)) st K
  |.value f=>call (gy st.fr f) (c.args.toList.map (gy st.fr)) o.dst st K
  |_=>a7
 |_=>a7
def St.put (st:St) (dst:Option Nat) (v:bH):St:=
 match dst with
 |some d=>{st with fr:=st.fr.set d v}
 |none=>st
def gz (T:TT) (cl:Bool) (call:fO R) (ops:Array Oper) (K:St->Option R):List Oper->St->Option R
 |[],st=>K st
 |o::e,st=>
  match o.guard with
  |none=>dR T cl call o st fun v st=>gz T cl call ops K e (st.put o.dst v)
  |some (j,f)=>match(ops[j]?).bind (·.dst)with
   |none=>a7
   |some d=>match st.fr.getD d .undef with
    |.val .bool b=>
     bif b then
      (bif f then dR T cl call o (st.put (a6 d) (.val .bool true)) fun v st=>gz T cl call ops K e (st.put o.dst v)
      else gz T cl call ops K e ((st.put (a6 d) (.val .bool true)).put o.dst (.tup [])))
     else
      (bif f then gz T cl call ops K e ((st.put (a6 d) (.val .bool false)).put o.dst (.tup []))
      else dR T cl call o (st.put (a6 d) (.val .bool false)) fun v st=>gz T cl call ops K e (st.put o.dst v))
    |.tup []=>gz T cl call ops K e (st.put o.dst (.tup []))
    |_=>a7
mutual
def refs:bH->List Nat
 |.ptr id _=>[id]
 |.slc id _ _=>[id]
 |.ep id _ _ _=>[id]
 |.slf id=>[id]
 |.sd id _=>[id]
 |.yld id=>[id]
 |.tup l=>kD l
 |.agg l=>kD l
 |.fn _ l=>kD l
 |.mfn _ l=>kD l
 |.mpv id=>[id]
 |_=>[]
def kD:List bH->List Nat
 |[]=>[]
 |v::l=>refs v++kD l
end
def pX:List (List bH)->List Nat
 |[]=>[]
 |l::d=>kD l++pX d
def dC.refs:dC->List Nat
 |.box _ cs=>kD cs
 |.lp _ fr _ _ _ _ _ _=>kD fr
 |_=>[]
def uN:fZ->List Nat
 |[]=>[]
 |(_,o)::h=>o.refs++uN h
def U9 (l:List Nat) (i:Nat):Bool:=l.any (Nat.beq i)
def aom (h:fZ):Nat->List Nat->List Nat
 |0,l=>l
 |n+1,l=>aom h n (l++uN (h.filter fun e=>U9 l e.1))
def Bf (d l:List Nat):Bool:=l.all fun i=> !U9 d i
def gc (d:Nat) (v:bH) (st:St):Option St:=
 let h:=st.hp.filter fun e=>Nat.blt e.1 d
 let new:=st.hp.filter fun e=> !Nat.blt e.1 d
 let f:=aom new 3 (refs v++kD st.fr++pX st.stk++uN h)
 let g:=st.hp.filter fun e=>Nat.blt e.1 d||U9 f e.1
 let i:=((st.hp.filter fun e=> !(Nat.blt e.1 d||U9 f e.1)).map (·.1))
 bif Bf i (refs v++kD st.fr++pX st.stk++uN g)then a6 {st with hp:=g}else a7
def av5 (h:fZ) (id:Nat):Option Nat:=
 match dG h id with
 |some (.arr _ v _)=>a6 v
 |_=>a7
def NS (h:fZ) (id d:Nat):Bool:=match av5 h id with
 |some v=>v==d
 |none=>false
mutual
def anew (h:fZ):bH->bH
 |.slc id d e=>bif NS h id d then .slc id 0 e else .undef
 |.ep id d i g=>bif NS h id d then .ep id 0 i g else .undef
 |.sd id d=>bif NS h id d then .sd id 0 else .undef
 |.tup l=>.tup (xE h l)
 |.agg l=>.agg (xE h l)
 |.fn f l=>.fn f (xE h l)
 |.mfn f l=>.mfn f (xE h l)
 |v=>v
def xE (h:fZ):List bH->List bH
 |[]=>[]
 |v::l=>anew h v::xE h l
end
def dC.anew (h:fZ):dC->dC
 |.box t cs=>.box t (xE h cs)
 |.lp f fr ps a b k n p=>.lp f (xE h fr) ps a b k n p
 |.arr t _ d=>.arr t 0 d
 |o=>o
def TQ (st:St):St:=
 {st with fr:=xE st.hp st.fr,stk:=st.stk.map (xE st.hp),hp:=st.hp.map fun e=>(e.1,e.2.anew st.hp)}
structure dZ where
 slots:List Nat
 owns:List (Nat×Ty)
 after:List Nat
 aowns:List (Nat×Ty)
 rets:List Nat
 give:List (Nat×Ty)
def Eg (l:List Nat):Nat->List bH->List bH
 |_,[]=>[]
 |i,v::r=>(bif U9 l i then v else .undef)::Eg l (i+1) r
def vP (s:Nat) (t:Ty) (st:St):Option St:=
 match st.fr.getD s .undef with
 |.nils=>match dG st.hp (1000000*st.stk.length+800000+s)with
  |some _=>a7
  |none=>bif st.nxt.ble (1000000*st.stk.length+800000+s)&&Nat.blt 0 t.size then
    a6 {st with fr:=st.fr.set s (.slc (1000000*st.stk.length+800000+s) 0 a7),hp:=(1000000*st.stk.length+800000+s,.arr t 0 [])::st.hp}else a7
 |.slc id ver d=>match dG st.hp id with
  |some (.arr u w e)=>bif w==ver then
    (match d with
    |none=>a6 st
    |some (lo,f)=>bif lo==0 then
      a6 {st with fr:=st.fr.set s (.slc id (ver+1) a7),hp:=iH st.hp id (.arr u (ver+1) (e.take f.toNat))}else a7)else a7
  |_=>a7
 |_=>a7
def amo (k:Nat) (o:dC):fZ->fZ
 |[]=>[(k,o)]
 |(j,p)::h=>bif Nat.ble j k then(k,o)::(j,p)::h else(j,p)::amo k o h
def kG:fZ->fZ
 |[]=>[]
 |(k,o)::h=>amo k o (kG h)
def OT (id off:Nat) (t:Ty) (st:St):Option St:=
 match dG st.hp id with
 |some (.box bt cs)=>match cs.getD off .undef with
  |.nils=>match t with
   |.pair .unit d=>a6 {st with hp:=iH st.hp id (.box bt (cs.set off (.val (.list d) [])))}
   |t=>match dG st.hp (id+500000+2000*off)with
    |some _=>a7
    |none=>bif st.nxt.ble (id+500000+2000*off)&&Nat.blt 0 t.size then
      a6 {st with hp:=iH ((id+500000+2000*off,.arr t 0 [])::st.hp) id (.box bt (cs.set off (.slc (id+500000+2000*off) 0 a7)))}else a7
  |_=>a6 st
 |_=>a6 st
def LC (id off:Nat) (t:Ty) (st:St):Option St:=
 match OT id off t st with
 |some st=>a6 {st with hp:=kG st.hp}
 |none=>a7
def AB (s:Nat) (t:Ty) (st:St):Option St:=
 match st.fr.getD s .undef with
 |.nils=>a6 {st with fr:=st.fr.set s (.val (.list t) [])}
 |.emp=>a6 {st with fr:=st.fr.set s (.val (.list t) [])}
 |.slc id ver a7=>match dG st.hp id with
  |some (.arr u w d)=>bif w==ver&&Bf ((st.hp.filter fun e=> !(!Nat.beq e.1 id)).map (·.1)) (kD (st.fr.set s .undef)++pX st.stk++uN (st.hp.filter fun e=> !Nat.beq e.1 id))then
    a6 {st with fr:=st.fr.set s (.val (.list u) d),hp:=st.hp.filter fun e=> !Nat.beq e.1 id}else a7
  |_=>a7
 |.slc _ _ (a6 _)=>a7
 |_=>a6 st
def LU (s:Nat) (t:Ty) (st:St):Option St:=
 match st.fr.getD s .undef with
 |.slc id ver a7=>bif Nat.beq id (1000000*st.stk.length+800000+s)then a6 {st with hp:=kG st.hp}else
  match dG st.hp id with
  |some (.arr u w d)=>bif st.nxt.ble (1000000*st.stk.length+800000+s)&&Bf [id,1000000*st.stk.length+800000+s] (kD (st.fr.set s .undef)++pX st.stk++uN (st.hp.filter fun e=> !(Nat.beq e.1 id||Nat.beq e.1 (1000000*st.stk.length+800000+s))))then
    a6 {st with fr:=st.fr.set s (.slc (1000000*st.stk.length+800000+s) ver a7),hp:=kG ((1000000*st.stk.length+800000+s,.arr u w d)::st.hp.filter fun e=> !(Nat.beq e.1 id||Nat.beq e.1 (1000000*st.stk.length+800000+s)))}else a7
  |_=>a7
 |.ptr id 0=>bif Nat.beq id (1000000*st.stk.length+800000+s)then a6 {st with hp:=kG st.hp}else
  match dG st.hp id with
  |some (.box u d)=>bif st.nxt.ble (1000000*st.stk.length+800000+s)&&Bf [id,1000000*st.stk.length+800000+s] (kD (st.fr.set s .undef)++pX st.stk++(kD d++uN (st.hp.filter fun e=> !(Nat.beq e.1 id||Nat.beq e.1 (1000000*st.stk.length+800000+s)))))then
    a6 {st with fr:=st.fr.set s (.ptr (1000000*st.stk.length+800000+s) 0),hp:=kG ((1000000*st.stk.length+800000+s,.box u d)::st.hp.filter fun e=> !(Nat.beq e.1 id||Nat.beq e.1 (1000000*st.stk.length+800000+s)))}else a7
  |_=>a7
 |_=>match vP s t st with
  |some st=>a6 {st with hp:=kG st.hp}
  |none=>a7
def CJ:List (Nat×Ty)->St->Option St
 |[],st=>a6 st
 |(s,t)::l,st=>match AB s t st with
  |some st=>CJ l st
  |none=>a7
def jg:List (Nat×Ty)->St->Option St
 |[],st=>a6 st
 |(s,.pair .unit t)::l,st=>match AB s t st with
  |some st=>jg l st
  |none=>a7
 |(s,.pair (.list .unit) t)::l,st=>match LC (s/100) (s %100) t st with
  |some st=>jg l st
  |none=>a7
 |(s,.pair (.list .bool) t)::l,st=>match LU s t st with
  |some st=>jg l st
  |none=>a7
 |(s,t)::l,st=>match vP s t st with
  |some st=>jg l st
  |none=>a7
def Io (d:List Nat) (e:List (Nat×Ty)) (st:St):Option St:=
 match(match e with
  |[]=>a6 {st with fr:=Eg d 0 st.fr}
  |_=>gc (1000000*st.stk.length) .undef {st with fr:=Eg d 0 st.fr})with
 |some st=>match jg e st with
  |some st=>match gc (1000000*st.stk.length) .undef st with
   |some st=>a6 (TQ st)
   |none=>a7
  |none=>a7
 |none=>a7
def aqE (k:dZ) (st:St):Option St:=
 match CJ k.give {st with fr:=Eg k.rets 0 st.fr}with
 |some st=>match gc (1000000*st.stk.length) .undef st with
  |some st=>a6 (TQ st)
  |none=>a7
 |none=>a7
def iter (kp:Option dZ) (F:St->(Ex->St->Option R)->Option R):Nat->St->(Ex->St->Option R)->Option R
 |0,_,_=>a7
 |n+1,st,K=>F st fun d st=>match d with
  |.normal=>match kp with
   |none=>iter kp F n st K
   |some k=>match Io k.slots k.owns st with
    |some st=>iter kp F n st K
    |none=>a7
  |.ret=>match kp with
   |none=>K .ret st
   |some k=>match aqE k st with
    |some st=>K .ret st
    |none=>a7
  |d=>match kp with
   |none=>K d st
   |some k=>match Io k.after k.aowns st with
    |some st=>K d st
    |none=>a7
def dn:Code->Nat
 |.region id _ _=>id
 |.seq a _=>dn a
 |.block _ c=>dn c
 |.loop c=>dn c
 |.scope c=>dn c
 |.cond _ a _=>dn a
 |_=>0
def bG:Nat:=10000000000000000000000000000000000000000
def Ty.rigid:Ty->Bool
 |.list _=>false
 |.pair a b=>a.rigid&&b.rigid
 |_=>true
structure Sum where
 ps:List Ty
 rs:List (Ty×Bool)
 f:(ps.foldr Ty.pair Ty.unit).den->Option ((rs.map (·.1)).foldr Ty.pair Ty.unit).den
def xF (hp:fZ):(ps:List Ty)->List bH->Option (ps.foldr Ty.pair Ty.unit).den
 |[],[]=>a6 ()
 |t::d,v::e=>match v.as hp t with
  |some x=>match xF hp d e with
   |some y=>a6 (x,y)
   |none=>a7
  |none=>a7
 |_,_=>a7
def Ty.elem:Ty->Ty
 |.list t=>t
 |t=>t
def mQ (id:Nat):(rs:List (Ty×Bool))->((rs.map (·.1)).foldr Ty.pair Ty.unit).den->List bH
 |[],_=>[]
 |(t,false)::rs,y=>.val t y.1::mQ id rs y.2
 |(_,true)::rs,y=>.slc id 0 a7::mQ id rs y.2
def vN:(rs:List (Ty×Bool))->((rs.map (·.1)).foldr Ty.pair Ty.unit).den->Option (Σ e:Ty,List e.den)
 |[],_=>a7
 |(_,false)::rs,y=>vN rs y.2
 |(.list e,true)::_,y=>a6 ⟨e,y.1⟩
 |(_,true)::_,_=>a7
def lD:bH->Bool
 |.slc _ _ _=>true
 |.agg _=>true
 |_=>false
def Jo:List bH->bH
 |[v]=>v
 |vs=>.tup vs
def news:List (Ty×Bool)->Nat
 |[]=>0
 |(_,false)::d=>news d
 |(_,true)::d=>news d+1
def bz {d e:Type} (o:Option d) (k:d->Option e):Option e:=
 match o with
 |some x=>k x
 |none=>a7
def Sum.call (s:Sum) (cl:Bool) (args:List bH) (dst:Option Nat) (st:St) (K:bH->St->Option R):Option R:=
 bif s.rs.all (fun r=>r.1.rigid||(r.2&&r.1.elem.rigid))|| !args.any lD then
  match xF st.hp s.ps args with
  |some x=>bz (s.f x) fun y=>match vN s.rs y with
   |none=>bif Nat.beq (news s.rs) 0 then K (Jo (mQ 0 s.rs y)) st else a7
   |some ⟨e,d⟩=>bif Nat.beq (news s.rs) 1 then alloc cl (a6 (dst.getD 0+100000)) (.arr e 0 d) st fun id st=>K (Jo (mQ id s.rs y)) st else a7
  |none=>a7
 else a7
structure fP where
 bt:TypeId
 cs:List (Ty×Bool)
 ps:List Ty
 rs:List Ty
 f:((cs.map (·.1)).foldr Ty.pair Ty.unit).den->(ps.foldr Ty.pair Ty.unit).den->Option (((cs.map (·.1)).foldr Ty.pair Ty.unit).den×(rs.foldr Ty.pair Ty.unit).den)
def Gu:(d:List Ty)->(d.foldr Ty.pair Ty.unit).den->List bH
 |[],_=>[]
 |t::d,x=>.val t x.1::Gu d x.2
def mJ:List (Ty×Bool)->List bH->List (Nat×Nat)
 |(_,true)::cs,.slc id ver _::d=>(id,ver)::mJ cs d
 |_::cs,_::d=>mJ cs d
 |_,_=>[]
def qN:List (Ty×Bool)->List bH->List Nat
 |(_,false)::cs,v::d=>refs v++qN cs d
 |_::cs,_::d=>qN cs d
 |_,_=>[]
def jo (hp:fZ) (d:Bool):(cs:List (Ty×Bool))->List bH->Option ((cs.map (·.1)).foldr Ty.pair Ty.unit).den
 |[],[]=>a6 ()
 |(t,false)::cs,v::f=>bif d&&(lD v&& !t.rigid)then a7 else match v.as hp t with
  |some x=>match jo hp d cs f with
   |some y=>a6 (x,y)
   |none=>a7
  |none=>a7
 |(.list e,true)::cs,.slc id ver a7::f=>match dG hp id with
  |some (.arr t v g)=>bif v==ver then(match jq (.list e) (t':=.list t) g with
   |some x=>match jo hp d cs f with
    |some y=>a6 (x,y)
    |none=>a7
   |none=>a7)else a7
  |_=>a7
 |_,_=>a7
def DW:(cs:List (Ty×Bool))->List (Nat×Nat)->((cs.map (·.1)).foldr Ty.pair Ty.unit).den->List bH
 |[],_,_=>[]
 |(t,false)::cs,l,y=>.val t y.1::DW cs l y.2
 |(_,true)::cs,(i,v)::l,y=>.slc i v a7::DW cs l y.2
 |(_,true)::cs,[],y=>.undef::DW cs [] y.2
def qK:(cs:List (Ty×Bool))->List (Nat×Nat)->((cs.map (·.1)).foldr Ty.pair Ty.unit).den->fZ
 |[],_,_=>[]
 |(_,false)::cs,l,y=>qK cs l y.2
 |(.list e,true)::cs,(i,v)::l,y=>(i,.arr e v y.1)::qK cs l y.2
 |(_,true)::cs,l,y=>qK cs l y.2
def J7:fZ->fZ->fZ
 |[],h=>h
 |(i,o)::l,h=>J7 l (iH h i o)
def iP:List (Ty×Bool)->Nat->List (Nat×Nat)
 |[],_=>[]
 |(_,true)::cs,n=>(n,0)::iP cs (n+1)
 |(_,false)::cs,n=>iP cs n
def OL:List Nat->Bool
 |[]=>true
 |i::l=> !U9 l i&&OL l
def fP.rigid (s:fP):Bool:=s.cs.all (fun c=>c.1.rigid||(c.2&&c.1.elem.rigid))&&s.rs.all Ty.rigid
def qj (cl:Bool):Nat->List (Ty×Bool)->List bH->St->(List bH->St->Option R)->Option R
 |n,(.list e,true)::cs,.nils::d,st,K=>bif KZ 0 e.size then alloc cl (a6 n) (.arr e 0 []) st fun id st=>qj cl (n+1) cs d st fun l st=>K (.slc id 0 a7::l) st else a7
 |n,_::cs,v::d,st,K=>qj cl (n+1) cs d st fun l st=>K (v::l) st
 |_,_,l,st,K=>K l st
def fP.go (s:fP) (id:Nat) (d:List bH) (st:St) (K:bH->St->Option R):Option R:=
 match dG st.hp id with
 |some (.box t cells)=>
  bif Nat.beq t s.bt&&((OL ((mJ s.cs cells).map (·.1))&&Bf (id::(mJ s.cs cells).map (·.1)) (kD d++qN s.cs cells))&&(s.rigid|| !d.any lD))then
   match jo st.hp (!s.rigid) s.cs cells with
   |some x=>match xF st.hp s.ps d with
    |some y=>bz (s.f x y) fun z=>K (Jo (Gu s.rs z.2))
      {st with hp:=iH (J7 (qK s.cs ((mJ s.cs cells).map fun p=>(p.1,p.2+1)) z.1) st.hp) id (.box t (DW s.cs ((mJ s.cs cells).map fun p=>(p.1,p.2+1)) z.1))}
    |none=>a7
   |none=>a7
  else a7
 |_=>a7
def fP.call (s:fP) (cl:Bool) (args:List bH) (st:St) (K:bH->St->Option R):Option R:=
 match args with
 |.ptr id 0::d=>match dG st.hp id with
  |some (.box t cells)=>bif cells.any (fun v=>match v with|.nils=>true|_=>false)then
    qj cl (200000+20*(id %5000)) s.cs cells st fun cells st=>s.go id d {st with hp:=iH st.hp id (.box t cells)} K
   else s.go id d st K
  |_=>a7
 |_=>a7
inductive Job where
 |call (f:FuncId) (args:List bH)
 |yield (id:Nat) (args:List bH)
structure dm where
 V:Type
 A:V->Type
 B:V->Type
 get:St->Option V
 spec:(v:V)->Option (A v⊕B v)
 exA:V->Ex
 stA:St->(v:V)->A v->St
 stB:St->(v:V)->B v->St
 dep:Nat:=0
 exB:V->Ex:=fun _=>.ret
def dL {e h d:Type} (o:e⊕h) (f:e->d) (g:h->d):d:=
 match o with
 |.inl a=>f a
 |.inr b=>g b
structure Env where
 P:Program
 T:TT
 cl:Bool
 kp:FuncId->Nat->Option dZ
 sg:FuncId->Option Sum
 lp:FuncId->Nat->Option dm
 rf:FuncId->Nat->Bool:=fun _ _=>false
 bf:FuncId->Bool:=fun _=>false
 em:TypeId->Nat->Nat->Bool:=fun _ _ _=>false
 il:FuncId->Bool:=fun _=>false
 np:FuncId->Bool:=fun _=>false
 dp:Nat:=0
 sb:FuncId->Option fP:=fun _=>a7
def Env.at (E:Env) (n:Nat):Env:={E with dp:=n}
def Nh (em:TypeId->Nat->Nat->Bool) (T:TT) (args:List bH) (st:St) (K:bH->St->Option R):Option R:=
 match args with
 |[.ptr id d]=>match dG st.hp id with
  |some (.box t (.slf i:: .slc _ _ _::[]))=>bif Nat.beq d 0&&(Nat.beq i id&&((T.at t).known&&(T.at t).bld))then K (.tup []) st else a7
  |some (.box t cs)=>bif em t d cs.length then(match cs.getD d .undef with
    |.nilp=>K (.tup []) {st with hp:=iH st.hp id (.box t (cs.take d++[.ptr id d]++cs.drop (d+1)))}
    |.ptr i o=>bif Nat.beq i id&&Nat.beq o d then K (.tup []) st else a7
    |_=>a7)else a7
  |_=>a7
 |_=>a7
abbrev lI (R:Type):=Job->St->(bH->St->Option R)->Option R
structure TP where
 q:Job->St->Option bH
 s:lI St
 u:lI Unit
def Rj:Ty:=.pair .str (.pair .str .unit)
def ah4 {d:Type} (l:List d) (i:Nat) (x:List d):List d:=l.take i++x++l.drop i
def awY:bH->Option Int
 |.val (.int .i64) n=>a6 n
 |_=>a7
def UL (args:List bH) (st:St) (K:bH->St->Option R):Option R:=
 match args with
 |[.slc id ver a7,g,.slc i2 v2 a7]=>match awY g with
  |some i=>match dG st.hp id with
   |some (.arr e v d)=>match dG st.hp i2 with
    |some (.arr e2 u f)=>bif(v==ver&&u==v2)&& !Nat.beq id i2 then
      (match jq (t':=.list e) (.list Rj) d with
      |some d=>match jq (t':=.list e2) (.list Rj) f with
       |some f=>bif Nat.beq f.length 1&&(leI 0 i&&(leI i (bD d)&&dN d 64))then
         K (.slc id (ver+1) a7) {st with hp:=iH st.hp id (.arr Rj (ver+1) (ah4 d i.toNat f))}else a7
       |none=>a7
      |none=>a7)else a7
    |_=>a7
   |_=>a7
  |none=>a7
 |_=>a7
def uo (E:Env) (f:lI R):fO R:=fun i d j st K=>
 match i with
 |.fn g e=>match E.sg g with
  |some s=>s.call E.cl (d++e) j st K
  |none=>match E.sb g with
   |some s=>s.call E.cl (d++e) st K
   |none=>bif E.bf g then Nh E.em E.T (d++e) st K else bif E.il g then UL (d++e) st K else f (.call g (d++e)) st K
 |.mfn g h=>match E.sb g with
  |some s=>s.call E.cl (h++d) st K
  |none=>f (.call g (h++d)) st K
 |.yld id=>f (.yield id d) st K
 |_=>a7
def bH.rigid:bH->Bool
 |.val t _=>t.rigid
 |_=>false
def bH.calm:bH->Bool
 |.val _ _=>true
 |_=>false
def bH.rigidR:bH->Bool
 |.tup l=>l.all bH.rigid
 |v=>v.rigid
def QX (hp:fZ):bH->Option bH
 |.val t x=>a6 (.val t x)
 |.nils=>a6 .nils
 |.slc id ver d=>match dG hp id with
  |some (.arr t v e)=>bif v==ver then a6 (.val (.list t) (Yn e d))else a7
  |_=>a7
 |_=>a7
def MV (hp:fZ):List bH->Option (List bH)
 |[]=>a6 []
 |v::l=>match QX hp v with
  |some v=>match MV hp l with
   |some l=>a6 (v::l)
   |none=>a7
  |none=>a7
def Nq (E:Env) (e:Job->St->Option bH):fO R:=fun f d h st K=>
 match f with
 |.fn g []=>match E.sg g with
  |some s=>bif s.rs.all (fun r=> !r.2&&r.1.rigid)then s.call E.cl d h st K else a7
  |none=>match MV st.hp d with
   |some d=>match e (.call g d) ⟨[],[],[],st.nxt⟩with
    |some v=>bif v.rigidR then K v st else a7
    |none=>a7
   |none=>a7
 |_=>a7
def jm:Op->Bool
 |.move _|.assign _|.pick _ _ _|.load _ _|.nilCheck _|.binOp _ _ _ _ _|.unOp _ _ _|.slice _ _ _ _ _|.fieldAddr _ _ _|.field _ _ _|.indexAddr _ _ _|.index _ _ _|.extract _ _|.build _ _|.convert _ _ _=>true
 |.call c=>match c.callee with
  |.builtin .len=>true
  |.builtin .min=>true
  |.builtin .max=>true
  |.value _=>true
  |_=>false
 |_=>false
def gG:Op->Bool
 |.call c=>match c.callee with
  |.builtin .len=>true
  |.builtin .min=>true
  |.builtin .max=>true
  |_=>false
 |o=>jm o
def FM:Op->Bool
 |.move _|.assign _|.pick _ _ _|.nilCheck _|.binOp _ _ _ _ _|.unOp _ _ _|.slice _ _ _ _ _|.fieldAddr _ _ _|.field _ _ _|.indexAddr _ _ _|.index _ _ _|.extract _ _=>true
 |.call c=>match c.callee with
  |.builtin .len=>true
  |.builtin .min=>true
  |.builtin .max=>true
  |_=>false
 |_=>false
def Lp:Op->Bool
 |.move _|.assign _|.pick _ _ _|.load _ _|.index _ _ _|.extract _ _|.alloc _|.box _ _=>true
 |.call c=>match c.callee with
  |.builtin .len=>true
  |.builtin .unsafeSliceData=>true
  |_=>false
 |_=>false
def lw (ops:Array Oper):Bool:=ops.toList.all fun o=>match o.op with|.defer _=>false|.select _ _=>false|_=>true
def Sl (l:List Nat) (i:Nat):Bool:=l.any (Nat.beq i)
def BZ (ops:Array Oper) (j:Nat) (D:List Nat):Bool:=match ops[j]? with
 |some d=>d.after.any fun e=>Region.binds .any e&&Sl D e.on
 |none=>false
def aA0 (ops:Array Oper) (d:Array Bool) (n:Nat) (D:List Nat):List Nat:=(List.range n).foldl (fun D j=>cond (!d.getD j true&&(!Sl D j&&BZ ops j D)) (j::D) D) D
def P7 (ops:Array Oper) (d:Array Bool) (i:Nat) (pure:Bool):Bool:=match ops[i]? with
 |some f=>let D:=aA0 ops d ops.size [i]
  Sl D i&&(D.all (fun j=> !d.getD j true&&(Nat.beq j i||BZ ops j D))&&(List.range ops.size).all fun j=>d.getD j true||(Sl D j||(match ops[j]? with
   |some e=>f.apart ops e&&(pure||Lp e.op)
   |none=>true)))
 |none=>false
def acp (ops:Array Oper) (f:Op->Bool) (i:Nat):Bool:=match ops[i]? with
 |some o=>f o.op
 |none=>false
def uw {d:Type} (f:d->d->Bool):List d->List d->Bool
 |[],[]=>true
 |x::l,y::m=>f x y&&uw f l m
 |_,_=>false
def Uo:(t:Ty)->t.den->t.den->Bool
 |.unit,_,_=>true
 |.bool,x,y=>x==y
 |.int _,x,y=>bJ x y
 |.str,x,y=>eX x y
 |.list t,x,y=>uw (Uo t) x y
 |.pair a b,x,y=>Uo a x.1 y.1&&Uo b x.2 y.2
def abj:Option (Int×Int)->Option (Int×Int)->Bool
 |none,a7=>true
 |some a,a6 b=>bJ a.1 b.1&&bJ a.2 b.2
 |_,_=>false
mutual
def Qi (a b:bH):Bool:=
 match a with
 |.undef=>match b with|.undef=>true|_=>false
 |.val t x=>match b with
  |.val u y=>(match jq t y with|some y=>Uo t x y|none=>false)
  |_=>false
 |.nils=>match b with|.nils=>true|_=>false
 |.nilp=>match b with|.nilp=>true|_=>false
 |.nilfn=>match b with|.nilfn=>true|_=>false
 |.emp=>match b with|.emp=>true|_=>false
 |.tup l=>match b with|.tup m=>EN l m|_=>false
 |.agg l=>match b with|.agg m=>EN l m|_=>false
 |.cellp t x=>match b with
  |.cellp u y=>(match jq t y with|some y=>Uo t x y|none=>false)
  |_=>false
 |.lst t x n=>match b with
  |.lst u y m=>n==m&&(match jq (.list t) (t':=.list u) y with|some y=>Uo (.list t) x y|none=>false)
  |_=>false
 |.ptr i o=>match b with|.ptr j p=>Nat.beq i j&&Nat.beq o p|_=>false
 |.slc i v w=>match b with|.slc j u x=>Nat.beq i j&&(Nat.beq v u&&abj w x)|_=>false
 |.ep i v n o=>match b with|.ep j u m p=>Nat.beq i j&&(Nat.beq v u&&(eqN n m&&Nat.beq o p))|_=>false
 |.fn f l=>match b with|.fn g m=>Nat.beq f g&&EN l m|_=>false
 |.mfn f l=>match b with|.mfn g m=>Nat.beq f g&&EN l m|_=>false
 |.mpv i=>match b with|.mpv j=>Nat.beq i j|_=>false
 |.yld i=>match b with|.yld j=>Nat.beq i j|_=>false
 |.slf i=>match b with|.slf j=>Nat.beq i j|_=>false
 |.sd i v=>match b with|.sd j u=>Nat.beq i j&&Nat.beq v u|_=>false
def EN:List bH->List bH->Bool
 |[],m=>match m with|[]=>true|_=>false
 |a::l,m=>match m with|b::m=>Qi a b&&EN l m|_=>false
end
def awI (a b:Ex):Bool:=match a with
 |.normal=>match b with|.normal=>true|_=>false
 |.exit i=>match b with|.exit j=>Nat.beq i j|_=>false
 |.goto i=>match b with|.goto j=>Nat.beq i j|_=>false
 |.ret=>match b with|.ret=>true|_=>false
def alE:Option Ex->Option Ex->Bool
 |none,a7=>true
 |some a,a6 b=>awI a b
 |_,_=>false
def eqO (a b:dC):Bool:=
 match a with
 |.box t l=>match b with|.box u m=>Nat.beq t u&&EN l m|_=>false
 |.arr t v x=>match b with
  |.arr u w y=>Nat.beq v w&&(match jq (.list t) (t':=.list u) y with|some y=>Uo (.list t) x y|none=>false)
  |_=>false
 |.lp f fr ps _ _ k n p=>match b with
  |.lp g fs qs _ _ h m q=>Nat.beq f g&&(EN fr fs&&(uw Nat.beq ps qs&&((match k,h with|some k,a6 h=>Nat.beq k h|_,_=>false)&&(Nat.beq n m&&alE p q))))
  |_=>false
 |.dead=>match b with|.dead=>true|_=>false
 |.mp k v l=>match b with
  |.mp k' v' m=>decide (k=k')&&(decide (v=v')&&decide (l=m))
  |_=>false
def eqH:fZ->fZ->Bool
 |[],h=>match h with|[]=>true|_=>false
 |(i,a)::h,g=>match g with
  |(j,b)::g=>Nat.beq i j&&(eqO a b&&eqH h g)
  |[]=>false
def alG (a b:St):Bool:=EN a.fr b.fr&&(uw EN a.stk b.stk&&(eqH a.hp b.hp&&Nat.beq a.nxt b.nxt))
def Qc (d:fZ) (i:Nat) (a:dC):Option dC:=match a with
 |.lp f fr ps _ _ (a6 k) n p=>match dG d i with
  |some (.lp g _ _ asg bd (a6 h) _ _)=>bif Nat.beq f g&&Nat.beq k h then a6 (.lp f fr ps asg bd (a6 k) n p)else a7
  |_=>a7
 |.lp _ _ _ _ _ a7 _ _=>a7
 |a=>a6 a
def P9 (d:fZ):fZ->Option fZ
 |[]=>a6 []
 |(i,a)::h=>match Qc d i a with
  |some a=>match P9 d h with
   |some h=>a6 ((i,a)::h)
   |none=>a7
  |none=>a7
def qw:fZ->Bool
 |[]=>true
 |(k,_)::h=> !h.any (fun e=>Nat.beq e.1 k)&&qw h
def OC (d:fZ):List (Option St)->Option St
 |some a::l=>bif(a6 a::l).all (fun b=>match b with|some b=>alG a b&&qw b.hp|none=>false)then
   (match P9 d a.hp with|some h=>a6 {a with hp:=h}|none=>a7)else a7
 |_=>a7
def tidy (cl:Bool) (st:St):St:=cond cl st {st with hp:=kG st.hp}
def qG (ops:Array Oper) (i k:Nat):Bool:=match ops[i]? with
 |some d=>d.after.any fun e=>Region.binds .any e&&Nat.beq e.on k
 |none=>false
def CQ (ops:Array Oper) (x y:Oper):Bool:=match y.dst with
 |some d=> !(x.looksAt ops).contains d&&x.dst !=a6 d
 |none=>true
def Jg (ops:Array Oper) (log:List Nat) (i:Nat):Bool:=match ops[i]? with
 |some d=>CQ ops {d with dst:=a7} d&&log.all fun k=>match ops[k]? with
  |some ok=>CQ ops ok d&&(qG ops i k||ok.apart ops d)
  |none=>false
 |none=>false
def an0 (ops:Array Oper) (log:List Nat) (i:Nat):Bool:=match ops[i]? with
 |some d=>log.all fun k=>match ops[k]? with
  |some ok=>qG ops i k||ok.apart ops d
  |none=>false
 |none=>false
def mX (ops:Array Oper):List Nat->List bH->List bH
 |[],e=>e
 |i::l,e=>match(ops[i]?).bind (·.dst)with
  |some d=>(mX ops l e).set d .undef
  |none=>mX ops l e
def sameAt (dst:Option Nat) (z:bH) (st:St):Bool:=match dst with
 |some d=>Qi z (st.fr.getD d .undef)
 |none=>true
def H6 (s:Sum):Bool:=s.rs.all fun r=> !r.2&&r.1.rigid
def DZ (sg:FuncId->Option Sum) (cl:Bool):fO R:=fun e d f st K=>match e with
 |.fn g []=>match sg g with
  |some s=>bif H6 s&&d.all bH.calm then s.call cl d f st K else a7
  |none=>a7
 |_=>a7
def sO (sg:FuncId->Option Sum) (o:Op):Bool:=match o with
 |.call c=>match c.callee with
  |.builtin _=>true
  |.value (.func g)=>match sg g with
   |some s=>H6 s
   |none=>false
  |_=>false
 |_=>true
def MM:List (Option Unit)->Option R->Option R
 |[],k=>k
 |o::l,k=>bz o fun _=>MM l k
def settle (d:fZ) (a:St):Option St:=match P9 d a.hp with
 |some h=>a6 {a with hp:=h}
 |none=>a7
def jf (o:Oper) (fr:List bH):List bH:=match o.op with
 |.call c=>match c.callee with
  |.value v=>gy fr v::c.args.toList.map (gy fr)
  |_=>[]
 |_=>[]
def UO (sg:FuncId->Option Sum) (ops:Array Oper) (fr:List bH) (i:Nat):Bool:=match ops[i]? with
 |some o=>match jf o fr with
  |.fn g []::e=>match sg g with
   |some s=>(H6 s&&e.all bH.calm)&&(match o.dst with|some d=>KZ d fr.length|none=>true)
   |none=>false
  |_=>false
 |none=>false
def xu (dst:Option Nat) (fr:List bH):List bH:=match dst with
 |some d=>[fr.getD d .undef]
 |none=>[]
def wo (T:TT) (cl:Bool) (call:fO R) (ops:Array Oper) (e:List bH):List Nat->St->(St->Option R)->Option R
 |[],st,K=>K st
 |i::l,st,K=>match ops[i]? with
  |some d=>bif gG d.op then(dR T cl call d st fun z _=>bif sameAt d.dst z st then wo T cl call ops e l st K else a7)
   else bif EN (jf d e) (jf d st.fr)&&EN (xu d.dst e) (xu d.dst st.fr)then wo T cl call ops e l st K else a7
  |none=>a7
def qU (T:TT) (cl:Bool) (call:fO R) (ops:Array Oper) (j:Nat) (log:List Nat) (st:St) (K:St->Option R):Option R:=
 match ops[j]? with
 |some d=>bif d.guard.isNone&&an0 ops log j then
   dR T cl call d {st with fr:=mX ops (log.filter fun i=> !qG ops j i) st.fr,stk:=st.fr::st.stk} fun z g=>match g.stk with
    |e::f=>wo T cl call ops st.fr (log.filter fun i=> !qG ops j i).reverse ({g with fr:=e,stk:=f}.put d.dst z) K
    |[]=>a7
  else a7
 |none=>a7
def lm (T:TT) (cl:Bool) (sg:FuncId->Option Sum) (d:fO St) (e:fO Unit) (ops:Array Oper):Nat->{R:Type}->fO R->Array Bool->List Nat->St->(St->Option R)->Option R
  |0,_,_,_,_,_,_=>a7
  |n+1,_,call,f,log,st,K=>match Region.ready .any ops f with
    |[]=>K st
    |k::rs=>match(k::rs).find? fun i=>acp ops gG i&&Jg ops log i with
      |some i=>match ops[i]? with
        |some g=>bif g.guard.isNone&&Jg ops log i then
            dR T cl call g st fun z st=>lm T cl sg d e ops n call (f.setIfInBounds i true) (i::log) (st.put g.dst z) K else a7
        |none=>a7
      |none=>match(k::rs).find? fun i=>UO sg ops st.fr i with
       |some i=>match ops[i]? with
        |some g=>bif g.guard.isNone&&Jg ops log i then
            dR T cl (DZ sg cl) g st fun z st=>lm T cl sg d e ops n call (f.setIfInBounds i true) (i::log) (st.put g.dst z) K else a7
        |none=>a7
       |none=>match rs with
        |[]=>qU T cl call ops k log st fun st=>lm T cl sg d e ops n call (f.setIfInBounds k true) log st K
        |_=>bif cl|| !ops.toList.all (fun o=>sO sg o.op)then(match OC st.hp ((k::rs).map fun j=>qU T cl d ops j log st fun st=>lm T cl sg d e ops n d (f.setIfInBounds j true) log st fun st=>a6 (tidy cl st))with
          |some st=>K st
          |none=>a7)else
          qU T cl call ops k log st fun h=>lm T cl sg d e ops n call (f.setIfInBounds k true) log h fun st1=>
            bif qw (tidy cl st1).hp then(match settle st.hp (tidy cl st1)with
              |some m=>MM (rs.map fun j=>qU T cl e ops j log st fun h=>lm T cl sg d e ops n e (f.setIfInBounds j true) log h fun b=>
                  bif alG (tidy cl st1) (tidy cl b)&&qw (tidy cl b).hp then a6 ()else a7) (K m)
              |none=>a7)else a7
def qY (ops:Array Oper):Nat->Array Bool->Option (List Nat)
 |0,d=>bif(Region.ready .any ops d).isEmpty then a6 []else a7
 |n+1,d=>match Region.ready .any ops d with
  |[]=>a6 []
  |k::e=>match(k::e).find? fun i=>acp ops FM i&&P7 ops d i true with
   |some i=>match qY ops n (d.setIfInBounds i true)with
    |some l=>a6 (i::l)
    |none=>a7
   |none=>match(k::e).find? fun i=>acp ops gG i&&P7 ops d i false with
    |some i=>match qY ops n (d.setIfInBounds i true)with
     |some l=>a6 (i::l)
     |none=>a7
    |none=>match e with
     |[]=>match qY ops n (d.setIfInBounds k true)with
      |some l=>a6 (k::l)
      |none=>a7
     |_=>a7
def adl (ops:Array Oper):Option (List Oper):=bif lw ops then(match qY ops ops.size (Array.replicate ops.size false)with
 |some l=>a6 (l.filterMap fun i=>ops[i]?)
 |none=>a7)else a7
def ayF (sb:FuncId->Option fP) (d:FuncId->Bool) (o:Op):Bool:=match o with
 |.call c=>match c.callee with
  |.value (.func g)=>(sb g).isNone&& !d g
  |.value _=>false
  |_=>true
 |_=>true
def HY (ops:Array Oper):Bool:=ops.toList.all (fun o=>jm o.op)&&Region.lexB .any ops
def aA5 (d:St->(Ex->St->Option R)->Option R) (K:Ex->St->Option R):Ex->St->Option R:=fun e st=>match e with
 |.normal=>d st K
 |e=>K e st
def rF (id:Nat) (K:Ex->St->Option R):Ex->St->Option R:=fun e st=>match e with
 |.exit i=>bif i==id then K .normal st else K (.exit i) st
 |e=>K e st
def Am (F:St->(Ex->St->Option R)->Option R):St->(Ex->St->Option R)->Option R:=fun st K=>F st fun e st=>match e with
 |.normal=>K (.exit 999999) st
 |.exit i=>bif Nat.beq i 999999 then a7 else K (.exit i) st
 |e=>K e st
def cutAt (E:Env) (f:FuncId) (k:Nat) (F:St->(Ex->St->Option R)->Option R) (st:St) (K:Ex->St->Option R):Option R:=
 match E.lp f k with
 |some L=>bif L.dep.ble E.dp then(match L.get st with
  |some v=>bz (L.spec v) fun o=>dL o (fun a=>rF 999999 K (L.exA v) (L.stA st v a)) fun b=>rF 999999 K (L.exB v) (L.stB st v b)
  |none=>a7)else a7
 |none=>match E.kp f k with
  |none=>F st K
  |some d=>match Io d.slots d.owns st with
   |some st=>iter (a6 d) (Am F) bG st (rF 999999 K)
   |none=>a7
def amZ (K:Ex->St->Option R):Ex->St->Option R:=fun e st=>match e with
 |.goto _=>a7
 |e=>K e st
def Du (k:Option dZ) (st:St):St:=match k with
 |some k=>{st with fr:=Eg k.slots 0 st.fr}
 |none=>st
def run (E:Env) (d:lI R) (h:TP) (f:FuncId):Code->St->(Ex->St->Option R)->Option R
 |.skip,st,K=>K .normal st
 |.label _,st,K=>K .normal st
 |.region id ops m,st,K=>
  let st:=Du (E.kp f (600000+id)) st
  bif m then(bif HY ops&&ops.toList.all (fun o=>gG o.op)then gz E.T E.cl (Nq E h.q) ops (K .normal) ops.toList st else match adl ops with
   |some l=>gz E.T E.cl (uo E d) ops (K .normal) l st
   |none=>bif HY ops&&ops.toList.all (fun o=>ayF E.sb E.np o.op)then gz E.T E.cl (Nq E h.q) ops (K .normal) ops.toList st else bif lw ops then lm E.T E.cl E.sg (uo E h.s) (uo E h.u) ops (ops.size+1) (uo E d) (Array.replicate ops.size false) [] st (K .normal)else a7)
  else gz E.T E.cl (uo E d) ops (K .normal) ops.toList st
 |.seq a b,st,K=>run E d h f a st (aA5 (cutAt E f (800000+dn b) (run E d h f b)) K)
 |.cond c x y,st,K=>match gy st.fr c with
  |.val .bool b=>bif b then run E d h f x st K else run E d h f y st K
  |_=>a7
 |.block id c,st,K=>run E d h f c st (rF id K)
 |.loop c,st,K=>match E.lp f (dn c)with
  |some L=>bif L.dep.ble E.dp then(match L.get st with
   |some v=>bz (L.spec v) fun o=>dL o (fun a=>K (L.exA v) (L.stA st v a)) fun b=>K (L.exB v) (L.stB st v b)
   |none=>a7)else a7
  |none=>match E.kp f (dn c)with
   |none=>iter a7 (run E d h f c) bG st K
   |some k=>match Io k.slots k.owns st with
    |some st=>iter (a6 k) (run E d h f c) bG st K
    |none=>a7
 |.exit id,st,K=>K (.exit id) st
 |.goto l,st,K=>K (.goto l) st
 |.ret,st,K=>K .ret st
 |.scope c,st,K=>run E d h f c st (amZ K)
 |.rangeFunc fv ps asg j,st,K=>match gy st.fr fv with
  |.fn g p=>
   let st:=Du (E.kp f (500000+dn j)) st
   alloc E.cl (a6 (700000+ps.toList.headD 0)) (.lp f st.fr ps.toList asg j (bif E.rf f (dn j)then a6 (dn j)else a7) 0 a7) st fun id st=>
    d (.call g (.yld id::p)) {st with stk:=[.yld id]::st.stk} fun _ st=>match st.stk with
     |[.yld id]::i=>match dG st.hp id with
      |some (.lp _ _ _ _ _ _ 0 a7)=>K .normal {st with stk:=i,hp:=iH st.hp id .dead}
      |some (.lp _ _ _ _ _ _ 1 (a6 e))=>K e {st with stk:=i,hp:=iH st.hp id .dead}
      |_=>a7
     |_=>a7
  |_=>a7
 |.refuse _,_,_=>a7
def pY (T:TT) (st:St):List ResultVar->(List bH->Option R)->Option R
 |[],K=>K []
 |.tmp t::l,K=>pY T st l fun d=>K (st.fr.getD t .undef::d)
 |.cell a t::l,K=>IG T st.hp t (st.fr.getD a .undef) fun v=>pY T st l fun d=>K (v::d)
def tY (fr:List bH):List Nat->List bH->List bH
 |p::d,v::e=>tY (fr.set p v) d e
 |_,_=>fr
def pop (st:St) (K:St->Option R):Option R:=
 match st.stk with
 |d::e=>K {st with fr:=d,stk:=e}
 |[]=>a7
def Env.keyed (E:Env):Option Nat->Env
 |some _=>E
 |none=>{E with lp:=fun _ _=>a7,rf:=fun _ _=>false}
def jS (E:Env):Nat->{R:Type}->lI R
 |0,_,_,_,_=>a7
 |n+1,R,.call f h,st,K=>match E.P.funcs[f]? with
  |none=>a7
  |some fn=>match fn.body with
   |none=>a7
   |some c=>bif h.length.ble fn.ntmps then
     (run (E.at n) (jS E n) ⟨fun j st=>jS E n (R:=bH) j st fun v _=>a6 v,jS E n,jS E n⟩ f c {fr:=h++List.replicate (fn.ntmps-h.length) (.tup []),stk:=st.fr::st.stk,hp:=st.hp,nxt:=st.nxt} fun e d=>
      match e with
      |.normal|.ret=>pY E.T d fn.results.toList fun l=>
       let v:=match l with
        |[v]=>v
        |l=>.tup l
       match gc (bif E.cl then st.nxt else 1000000*d.stk.length) v {d with fr:=[]}with
       |some g=>pop g (K v)
       |none=>a7
      |_=>a7)else a7
 |n+1,R,.yield id h,st,K=>match dG st.hp id with
  |some (.lp f fr0 ps asg bd m 0 a7)=>bif h.length==ps.length then
    (run ((E.at n).keyed m) (jS E n) ⟨fun j st=>jS E n (R:=bH) j st fun v _=>a6 v,jS E n,jS E n⟩ f asg {fr:=tY fr0 ps h,stk:=[.yld id]::st.fr::st.stk,hp:=st.hp,nxt:=st.nxt} fun e d=>match e,d.stk with
     |.normal,[.yld id]::_=>match dG d.hp id with
      |some (.lp f1 fr1 ps1 asg1 bd1 p 0 a7)=>run ((E.at n).keyed m) (jS E n) ⟨fun j st=>jS E n (R:=bH) j st fun v _=>a6 v,jS E n,jS E n⟩ f bd {d with hp:=iH d.hp id (.lp f1 fr1 ps1 asg1 bd1 p 2 a7)} fun e g=>match g.stk with
       |[.yld id]::i=>match dG g.hp id with
        |some (.lp f2 fr2 ps2 asg2 bd2 o 2 a7)=>
         match gc (bif E.cl then st.nxt else 1000000*g.stk.length) .undef {g with fr:=[],stk:=i,hp:=iH g.hp id (match e with|.normal=>.lp f2 fr2 ps2 asg2 bd2 o 0 a7|e=>.lp f2 fr2 ps2 asg2 bd2 o 1 (a6 e))}with
         |some q=>pop q (K (.val .bool (match e with|.normal=>true|_=>false)))
         |none=>a7
        |_=>a7
       |_=>a7
      |_=>a7
     |_,_=>a7)else a7
  |_=>a7
end
end
section
open Option renaming some → a6, none → a7
open List renaming append_assoc → ax, drop_of_length_le → aB, length_append → aI, length_cons → aJ, nil_append → aO, eq_nil_of_length_eq_zero → bi
open Nat renaming le_refl → af, lt_or_ge → aF
open Tryz
open Go.RowKit
def lS:TypeId:=5
def Q3:TypeId:=125
def FO:Code->Nat->Option (Code×Code)
 |.rangeFunc _ _ asg d,k=>if dn d=k then a6 (asg,d)else match FO asg k with
  |some x=>a6 x
  |none=>FO d k
 |.seq a b,k=>match FO a k with
  |some x=>a6 x
  |none=>FO b k
 |.cond _ a b,k=>match FO a k with
  |some x=>a6 x
  |none=>FO b k
 |.block _ c,k=>FO c k
 |.loop c,k=>FO c k
 |.scope c,k=>FO c k
 |_,_=>a7
def ayI (P:Program) (f:FuncId) (k:Nat):Option (Code×Code):=
 match P.funcs[f]? with
 |some fn=>match fn.body with
  |some c=>FO c k
  |none=>a7
 |none=>a7
noncomputable def rq (f:FuncId) (k:Nat):Option (Code×Code):=ayI prog f k
def gp (w:World) (b o:Nat) (d:List Value):Prop:= ∀j (h:j<d.length),w.cell? ⟨b,o+j,a7⟩=a6 d[j]
theorem gp.of_block {w w':World} {b o:Nat} {d:List Value} (h:gp w b o d) (hb:w'.heap[b]? =w.heap[b]?):gp w' b o d:=
 fun j e=>(World.cell?_of_block (w:=w) (a:=⟨b,o+j,a7⟩) hb).trans (h j e)
theorem gp.append {w:World} {b o:Nat} {xs e:List Value}:gp w b o (xs++e)↔gp w b o xs/\gp w b (o+xs.length) e:=by
 constructor
 .intro h;refine⟨fun j d=> ?_,fun j d=> ?_⟩
  .have:=h j (by simp;omega);simp_all
  .have:=h (xs.length+j) (by simp;omega)
   grind
 .rintro ⟨f,g⟩ j d;rcases aF j xs.length with h|h
  .rw[List.getElem_append_left h];exact f j h
  .rw[List.getElem_append_right h];have:=g (j-xs.length) (by simp at d;omega)
   grind
def eY {e:Type} (R:e->List Value->Prop) (size:Nat):List e->List Value->Prop
 |[],d=>d=[]
 |x::g,d=> ∃c f,d=c++f/\c.length=size/\R x c/\eY R size g f
theorem eY.mono {d:Type} {R e:d->List Value->Prop} {size:Nat} (h: ∀x c,R x c->e x c): ∀(xs:List d) (f:List Value),eY R size xs f->eY e size xs f
 |[],_,i=>i
 |_::xs,_,⟨c,g,j,l,m,o⟩=>⟨c,g,j,l,h _ _ m,eY.mono h xs g o⟩
theorem eY.length {d:Type} {R:d->List Value->Prop} {size:Nat}: ∀(xs:List d) (e:List Value),eY R size xs e->e.length=xs.length*size
 |[],_,f=>by cases f;simp
 |_::xs,_,⟨c,g,h,i,l,j⟩=>by
  subst h;simp only[aI,aJ,i,eY.length xs g j,Nat.add_mul,Nat.one_mul];omega
theorem eY.append {e:Type} {R:e->List Value->Prop} {size:Nat}: ∀(xs:List e) (f:List Value) (d:List e) (us:List Value),eY R size xs f->eY R size d us->eY R size (xs++d) (f++us)
 |[],_,d,us,i,h=>by cases i;exact h
 |x::xs,_,d,us,⟨c,g,j,l,m,o⟩,h=>by
  subst j;exact⟨c,g++us,by simp,l,m,eY.append xs g d us o h⟩
theorem eY.take {d:Type} {R:d->List Value->Prop} {size:Nat}: ∀(k:Nat) (xs:List d) (e:List Value),eY R size xs e->eY R size (xs.take k) (e.take (k*size))
 |0,_,_,_=>by simp[eY]
 |k+1,[],_,g=>by cases g;simp[eY]
 |k+1,x::xs,_,⟨c,f,h,i,j,l⟩=>by
  subst h;refine⟨c,f.take (k*size), ?_,i,j,eY.take k xs f l⟩;simp_all [List.take_append,List.take_of_length_le,Nat.add_mul]
theorem eY.drop {e:Type} {R:e->List Value->Prop} {size:Nat}: ∀(k:Nat) (xs:List e) (f:List Value),eY R size xs f->eY R size (xs.drop k) (f.drop (k*size))
 |0,_,_,h=>by simpa using h
 |k+1,[],_,i=>by cases i;simp[eY]
 |k+1,x::xs,_,⟨c,d,j,g,m,l⟩=>by
  subst j;have:(c++d).drop ((k+1)*size)=d.drop (k*size):=by
   rw[List.drop_append,aB (by rw[g,Nat.add_mul];omega),aO,g,Nat.add_mul];congr 1;omega
  rw[this,List.drop_succ_cons];exact eY.drop k xs d l
theorem eY.at_ {f:Type} {R:f->List Value->Prop} {size:Nat}: ∀(i:Nat) (xs:List f) (g:List Value) (hi:i<xs.length),eY R size xs g->
  ∃c,c.length=size/\R xs[i] c/\ ∃d h,g=d++c++h/\d.length=i*size
 |i,[],_,hi,_=>by simp at hi
 |0,x::xs,_,_,⟨c,e,j,l,m,o⟩=>⟨c,l,m,[],e,by simp[j],by simp⟩
 |i+1,x::xs,_,hi,⟨c,e,j,l,m,o⟩=>by
  obtain⟨p,q,s,d,h,u,v⟩:=eY.at_ i xs e (by simpa using hi) o
  grind
theorem eY.set {h:Type} {R:h->List Value->Prop} {size:Nat} (y:h) (d:List Value) (hd:d.length=size) (o:R y d): ∀(i:Nat) (xs:List h) (e c f:List Value),
  i<xs.length->eY R size xs (e++c++f)->e.length=i*size->c.length=size->eY R size (xs.set i y) (e++d++f)
 |i,[],_,_,_,j,_,_,_=>by simp at j
 |0,x::xs,e,c,f,_,⟨p,z,g,l,q,s⟩,u,m=>by
  have:e=[]:=bi (by simpa using u);subst this;simp only[aO]at g ⊢;obtain⟨A,v⟩:=List.append_inj g (by rw[m,l]);subst v;exact⟨d,f,rfl,hd,o,s⟩
 |i+1,x::xs,e,c,f,j,⟨p,z,g,l,q,s⟩,u,m=>by
  have D:size<=e.length:=by grind
  have B:e=e.take size++e.drop size:=(List.take_append_drop size e).symm;rw[B,ax,ax]at g;obtain⟨A,v⟩:=List.append_inj g (by grind);have:=eY.set y d hd o i xs (e.drop size) c f (by simpa using j) (by grind) (by grind) m;refine⟨p,e.drop size++d++f, ?_,l,q,this⟩
  grind
def dY (w:World) (fr:Nat->Prop):(t:Ty)->t.den->List Value->Prop
 |.unit,_,cs=>cs=[]
 |.bool,x,cs=>cs=[.bool x]
 |.int k,x,cs=>cs=[.int k x]
 |.str,x,cs=>cs=[.string ⟨x.toArray⟩]
 |.list t,d,cs=> ∃a c e,cs=[.slice a d.length c]/\d.length<=c/\eY (dY w fr t) t.size d e/\(e=[]\/ ∃b f,a=a6 ⟨b,f,a7⟩/\fr b/\gp w b f e)
 |.pair a b,x,cs=> ∃g h,cs=g++h/\dY w fr a x.1 g/\dY w fr b x.2 h
theorem dY.mono {w w':World} {fr i:Nat->Prop} (h: ∀b,fr b->i b/\w'.heap[b]? =w.heap[b]?): ∀(t:Ty) (x:t.den) (cs:List Value),dY w fr t x cs->dY w' i t x cs
 |.unit,_,_,d=>d
 |.bool,_,_,d=>d
 |.int _,_,_,d=>d
 |.str,_,_,d=>d
 |.list t,p,_,⟨a,c,j,e,f,g,q⟩=>⟨a,c,j,e,f,eY.mono (dY.mono h t) p j g,q.imp id fun⟨b,s,u,l,v⟩=>⟨b,s,u,(h b l).1,v.of_block (h b l).2⟩⟩
 |.pair a b,x,_,⟨m,o,e,f,g⟩=>⟨m,o,e,dY.mono h a x.1 m f,dY.mono h b x.2 o g⟩
theorem dY.length {w:World} {fr:Nat->Prop}: ∀(t:Ty) (x:t.den) (cs:List Value),dY w fr t x cs->cs.length=t.size
 |.unit,_,_,d=>by cases d;rfl
 |.bool,_,_,d=>by cases d;rfl
 |.int _,_,_,d=>by cases d;rfl
 |.str,_,_,d=>by cases d;rfl
 |.list t,j,_,⟨a,c,l,e,_⟩=>by subst e;rfl
 |.pair a b,x,_,⟨f,g,e,h,i⟩=>by subst e;simp[Ty.size,dY.length a x.1 f h,dY.length b x.2 g i]
theorem dY.one {w:World} {fr:Nat->Prop}: ∀(t:Ty) (x:t.den) (cs:List Value),dY w fr t x cs-> ∀v∈cs,v.oneCell'=true
 |.unit,_,_,d=>by cases d;simp
 |.bool,_,_,d=>by cases d;simp[Value.oneCell']
 |.int _,_,_,d=>by cases d;simp[Value.oneCell']
 |.str,_,_,d=>by cases d;simp[Value.oneCell']
 |.list t,l,_,⟨a,c,m,f,_⟩=>by subst f;simp[Value.oneCell']
 |.pair a b,x,_,⟨g,h,f,i,j⟩=>by
  subst f;intro v e;rcases List.mem_append.1 e with e|e
  .exact dY.one a x.1 g i v e
  .exact dY.one b x.2 h j v e
structure Loc where
 blk:Nat
 v:Value
structure Cx where
 mu:Nat->Loc
 hp:fZ
 nxt:Nat
 w:World
 mks:List Nat
 bar:Nat->Prop
def dC.blk:dC->Loc->Option Nat
 |.box _ _,l=>a6 l.blk
 |.arr _ _ _,l=>l.v.ownBlock
 |.lp _ _ _ _ _ _ _ _,l=>a6 l.blk
 |.dead,_=>a7
 |.mp _ _ _,l=>a6 l.blk
def Cx.own (c:Cx) (b:Nat):Prop:= ∃id o,dG c.hp id=a6 o/\o.blk (c.mu id)=a6 b
def Cx.free (c:Cx) (b:Nat):Prop:=b<c.w.heap.size/\ ¬c.own b/\b∉c.mks/\ ¬c.bar b
def Cx.out (c:Cx) (b:Nat):Prop:=b<c.w.heap.size/\ ¬c.own b/\b∉c.mks
def Cx.known (c:Cx) (id:Nat):Prop:=(∃o,dG c.hp id=a6 o)\/id<c.nxt
def VD (c:Cx) (t:Ty) (x:t.den) (v:Value):Prop:=
 (t.isAgg=true-> ∃cs,v=.agg cs/\dY c.w c.free t x cs.toList)/\(t.isAgg=false->dY c.w c.free t x [v])
def iJ (size:Nat) (s:Value):Option (Int×Int)->Value->Prop
 |none,v=>v=s
 |some (lo,d),v=> ∃a n c,s=.slice a n c/\0<=lo/\lo<=d/\d<=n/\v=.slice (if c=lo.toNat then a else a.map (·.add (lo.toNat*size))) (d.toNat-lo.toNat) (c-lo.toNat)
mutual
def bI (c:Cx):bH->Value->Prop
 |.undef,_=>True
 |.val t x,v=>VD c t x v
 |.nils,v=>v=.slice a7 0 0
 |.emp,v=> ∃a,v=.slice a 0 0
 |.lst e j b,v=>VD c (.list e) j v/\ ∃a n m,v=.slice a n m/\b=a.isNone
 |.nilp,v=>v=.pointer a7
 |.nilfn,v=>v=.nilFunc
 |.tup l,v=> ∃d,v=.tuple d/\bC c l d.toList
 |.agg l,v=> ∃d,v=.agg d/\bC c l d.toList/\ ∀u∈d.toList,u.oneCell'=true
 |.cellp t x,v=> ∃b o s,v=.pointer (a6 ⟨b,o,a7⟩)/\c.free b/\gp c.w b o s/\dY c.w c.free t x s
 |.ptr id q,v=>v.oneCell'=true/\c.known id/\ ∀t cs,dG c.hp id=a6 (.box t cs)->v=.pointer (a6 ⟨(c.mu id).blk,q,a7⟩)
 |.slf id,v=>v.oneCell'=true/\c.known id/\ ∀t cs,dG c.hp id=a6 (.box t cs)->v=.pointer a7\/v=.pointer (a6 ⟨(c.mu id).blk,0,a7⟩)
 |.sd id h,v=>v.oneCell'=true/\c.known id/\ ∀t u j,dG c.hp id=a6 (.arr t u j)->h<=u/\(u=h->(∃p,v=.pointer p)/\ ∀a n cp,(c.mu id).v=.slice a n cp->n≠0->v=.pointer a)
 |.slc id h y,v=>v.oneCell'=true/\c.known id/\ ∀t u j,dG c.hp id=a6 (.arr t u j)->h<=u/\(u=h->iJ t.size (c.mu id).v y v)
 |.ep id h i q,v=>v.oneCell'=true/\c.known id/\ ∀t u j,dG c.hp id=a6 (.arr t u j)->h<=u/\(u=h-> ∃g n cp,(c.mu id).v=.slice (a6 ⟨g,0,a7⟩) n cp/\v=.pointer (a6 ⟨g,i*t.size+q,a7⟩))
 |.fn f l,v=> ∃d,v=.func (.func f) #[] d/\bC c l d.toList
 |.mfn f l,v=> ∃d,v=.func (.func f) d #[]/\bC c l d.toList
 |.mpv id,v=>v.oneCell'=true/\c.known id/\ ∀z A B,dG c.hp id=a6 (.mp z A B)->v=.map (a6 (c.mu id).blk)
 |.yld id,v=>v.oneCell'=true/\c.known id/\ ∀f D E G I J n p,dG c.hp id=a6 (.lp f D E G I J n p)->v=.func (.yield (c.mu id).blk) #[] #[]
def bC (c:Cx):List bH->List Value->Prop
 |[],[]=>True
 |v::l,x::d=>bI c v x/\bC c l d
 |_,_=>False
end
def dC.like:dC->Loc->dC->Loc->Prop
 |.box _ _,l,.box _ _,d=>d.blk=l.blk
 |.lp _ _ _ _ _ _ _ _,l,.lp _ _ _ _ _ _ _ _,d=>d.blk=l.blk
 |.mp _ _ _,l,.mp _ _ _,d=>d.blk=l.blk
 |_,_,.dead,_=>True
 |.arr t v _,l,.arr t' v' _,d=>v<=v'/\(v=v'->t=t'/\d.v=l.v)
 |_,_,_,_=>False
structure Cx.Le0 (c c':Cx):Prop where
 out: ∀b,c.out b->c'.out b/\c'.w.heap[b]? =c.w.heap[b]?
 ref: ∀id,c.known id->c'.known id
 obj: ∀id o',c.known id->dG c'.hp id=a6 o'-> ∃o,dG c.hp id=a6 o/\o.like (c.mu id) o' (c'.mu id)
 bar:c'.bar=c.bar
structure Cx.Le (c c':Cx):Prop where
 out: ∀b,c.out b->c'.out b/\c'.w.heap[b]? =c.w.heap[b]?
 ref: ∀id,c.known id->c'.known id
 obj: ∀id o',c.known id->dG c'.hp id=a6 o'-> ∃o,dG c.hp id=a6 o/\o.like (c.mu id) o' (c'.mu id)
 mks: ∀r,r∈c.mks->r∈c'.mks
 lp: ∀(b:Nat) (L:Loop),c.w.heap[b]? =a6 (Obj.loop L)-> ∃L':Loop,c'.w.heap[b]? =a6 (Obj.loop L')
 size:c.w.heap.size<=c'.w.heap.size
 bar:c'.bar=c.bar
theorem Cx.Le0.free {c c':Cx} (h:c.Le0 c') (b:Nat) (hb:c.free b):c'.free b/\c'.w.heap[b]? =c.w.heap[b]? :=
 let⟨⟨d,e,f⟩,g⟩:=h.out b ⟨hb.1,hb.2.1,hb.2.2.1⟩
 ⟨⟨d,e,f,by rw[h.bar];exact hb.2.2.2⟩,g⟩
theorem Cx.Le.free {c c':Cx} (h:c.Le c') (b:Nat) (hb:c.free b):c'.free b/\c'.w.heap[b]? =c.w.heap[b]? :=
 let⟨⟨d,e,f⟩,g⟩:=h.out b ⟨hb.1,hb.2.1,hb.2.2.1⟩
 ⟨⟨d,e,f,by rw[h.bar];exact hb.2.2.2⟩,g⟩
theorem dC.like_refl (o:dC) (l:Loc):o.like l o l:=by cases o<;>simp[dC.like]
theorem dC.like_trans {a b d:dC} {l m n:Loc} (h:a.like l b m) (k:b.like m d n):a.like l d n:=by
 cases d with
 |dead=>cases a<;>simp[dC.like]
 |arr t'' v'' e=>
  cases b with
  |arr t' v' f=>
   cases a with
   |arr t v g=>
    grind [dC.like]
   |_=>simp[dC.like]at h
  |_=>simp[dC.like]at k
 |box _ _=>cases b<;>cases a<;>simp_all [dC.like]
 |lp _ _ _ _ _ _ _ _=>cases b<;>cases a<;>simp_all [dC.like]
 |mp _ _ _=>cases b<;>cases a<;>simp_all [dC.like]
theorem Cx.Le.refl (c:Cx):c.Le c:=⟨fun _ h=>⟨h,rfl⟩,fun _ h=>h,fun id o h d=>⟨o,d,o.like_refl _⟩,fun _ h=>h,fun b L h=>⟨L,h⟩,af _,rfl⟩
theorem VD.le0 {c c':Cx} (h:c.Le0 c') {t:Ty} {x:t.den} {v:Value} (d:VD c t x v):VD c' t x v:=
 ⟨fun e=>let⟨cs,f,g⟩:=d.1 e;⟨cs,f,dY.mono h.free t x _ g⟩,fun e=>dY.mono h.free t x _ (d.2 e)⟩
mutual
theorem bI.le0 {c c':Cx} (h:c.Le0 c'): ∀(v:bH) (x:Value),bI c v x->bI c' v x
 |.undef,_,_=>by simp[bI]
 |.val t x,v,d=>by simp only[bI]at d ⊢;exact d.le0 h
 |.nils,_,d=>by assumption
 |.emp,_,d=>by assumption
 |.lst e y b,v,d=>by simp only[bI]at d ⊢;exact⟨d.1.le0 h,d.2⟩
 |.nilp,_,d=>by assumption
 |.nilfn,_,d=>by assumption
 |.tup l,v,d=>by simp only[bI]at d ⊢;obtain⟨s,j,g⟩:=d;exact⟨s,j,bC.le0 h l _ g⟩
 |.agg l,v,d=>by simp only[bI]at d ⊢;obtain⟨s,j,g,z⟩:=d;exact⟨s,j,bC.le0 h l _ g,z⟩
 |.cellp t x,v,d=>by
  simp only[bI]at d ⊢;obtain⟨b,o,D,j,g,z,E⟩:=d;exact⟨b,o,D,j,(h.free b g).1,z.of_block (h.free b g).2,dY.mono h.free t x _ E⟩
 |.ptr id G,v,d=>by
  simp only[bI]at d ⊢;obtain⟨m,d⟩:=d;refine⟨m,h.ref id d.1,fun t cs q=> ?_⟩;obtain⟨o,j,g⟩:=h.obj id _ d.1 q;cases o<;>simp only[dC.like]at g;simp_all
 |.slf id,v,d=>by
  simp only[bI]at d ⊢;obtain⟨m,d⟩:=d;refine⟨m,h.ref id d.1,fun t cs q=> ?_⟩;obtain⟨o,j,g⟩:=h.obj id _ d.1 q;cases o<;>simp only[dC.like]at g;simp_all
 |.sd id A,v,d=>by
  simp only[bI]at d ⊢;obtain⟨m,d⟩:=d;refine⟨m,h.ref id d.1,fun t u y q=> ?_⟩;obtain⟨o,j,g⟩:=h.obj id _ d.1 q;cases o with
  |arr t' v' B=>
   grind [dC.like]
  |box _ _=>simp[dC.like]at g
  |lp _ _ _ _ _ _ _ _=>simp[dC.like]at g
  |dead=>simp[dC.like]at g
  |mp _ _ _=>simp[dC.like]at g
 |.slc id A I,v,d=>by
  simp only[bI]at d ⊢;obtain⟨m,d⟩:=d;refine⟨m,h.ref id d.1,fun t u y q=> ?_⟩;obtain⟨o,j,g⟩:=h.obj id _ d.1 q;cases o with
  |arr t' v' B=>
   grind [dC.like]
  |box _ _=>simp[dC.like]at g
  |lp _ _ _ _ _ _ _ _=>simp[dC.like]at g
  |dead=>simp[dC.like]at g
  |mp _ _ _=>simp[dC.like]at g
 |.ep id A i G,v,d=>by
  simp only[bI]at d ⊢;obtain⟨m,d⟩:=d;refine⟨m,h.ref id d.1,fun t u y q=> ?_⟩;obtain⟨o,j,g⟩:=h.obj id _ d.1 q;cases o with
  |arr t' v' B=>
   grind [dC.like]
  |box _ _=>simp[dC.like]at g
  |lp _ _ _ _ _ _ _ _=>simp[dC.like]at g
  |dead=>simp[dC.like]at g
  |mp _ _ _=>simp[dC.like]at g
 |.fn f l,v,d=>by simp only[bI]at d ⊢;obtain⟨s,j,g⟩:=d;exact⟨s,j,bC.le0 h l _ g⟩
 |.mfn f l,v,d=>by simp only[bI]at d ⊢;obtain⟨s,j,g⟩:=d;exact⟨s,j,bC.le0 h l _ g⟩
 |.mpv id,v,d=>by
  simp only[bI]at d ⊢;obtain⟨m,d⟩:=d;refine⟨m,h.ref id d.1,fun J K L q=> ?_⟩;obtain⟨o,j,g⟩:=h.obj id _ d.1 q;cases o<;>simp only[dC.like]at g;simp_all
 |.yld id,v,d=>by
  simp only[bI]at d ⊢;obtain⟨m,d⟩:=d;refine⟨m,h.ref id d.1,fun f M N O S U n p q=> ?_⟩;obtain⟨o,j,g⟩:=h.obj id _ d.1 q;cases o<;>simp only[dC.like]at g;simp_all
theorem bC.le0 {c c':Cx} (h:c.Le0 c'): ∀(l:List bH) (xs:List Value),bC c l xs->bC c' l xs
 |[],[],_=>by simp[bC]
 |v::l,x::xs,d=>by simp only[bC]at d ⊢;exact⟨bI.le0 h v x d.1,bC.le0 h l xs d.2⟩
 |[],_::_,d=>by simp[bC]at d
 |_::_,[],d=>by simp[bC]at d
end
theorem Cx.Le.le0 {c c':Cx} (h:c.Le c'):c.Le0 c':=⟨h.out,h.ref,h.obj,h.bar⟩
theorem VD.le {c c':Cx} (h:c.Le c') {t:Ty} {x:t.den} {v:Value} (d:VD c t x v):VD c' t x v:=d.le0 h.le0
theorem bI.le {c c':Cx} (h:c.Le c') (v:bH) (x:Value) (d:bI c v x):bI c' v x:=bI.le0 h.le0 v x d
theorem bC.le {c c':Cx} (h:c.Le c') (l:List bH) (xs:List Value) (d:bC c l xs):bC c' l xs:=bC.le0 h.le0 l xs d
end
section
open Go.RowKit
def ajB (w:World):Prop:=True
theorem ajB.below {w w':World} (hb:Below w.heap.size w w') (h:ajB w):ajB w':=trivial
def ajA (w:World):Prop:= ∃m,w.cell? ⟨0,0,none⟩=some (.int .i64 m)
theorem ajA.below {w w':World} (hb:Below w.heap.size w w') (h:ajA w):ajA w':=by
 obtain⟨m,d⟩:=h;exact⟨m,(hb.cell (World.block_lt_of_cell? w _ d)).trans d⟩
def Phi (w:World):Prop:=ajB w/\ajA w
theorem Phi.below {w w':World} (hb:Below w.heap.size w w') (h:Phi w):Phi w':=⟨h.1.below hb,h.2.below hb⟩
end
section
open Option renaming some → a6, none → a7
open Nat renaming le_trans → aG, lt_of_lt_of_le → aX
open Go.RowKit
theorem Cx.Le.trans {a b c:Cx} (h:a.Le b) (k:b.Le c):a.Le c:=
 ⟨fun x e=>⟨(k.out x (h.out x e).1).1,(k.out x (h.out x e).1).2.trans (h.out x e).2⟩,fun i d=>k.ref i (h.ref i d),fun i o d g=>by
  obtain⟨p,f,s⟩:=k.obj i o (h.ref i d) g;obtain⟨q,u,v⟩:=h.obj i p d f
  grind [dC.like_trans],fun r j=>k.mks r (h.mks r j),fun b L l=>let⟨m,f⟩:=h.lp b L l;k.lp b m f,aG h.size k.size,k.bar.trans h.bar⟩
theorem dQ (k:Nat) (o:dC) (h:fZ) (i:Nat):dG ((k,o)::h) i=if k=i then a6 o else dG h i:=by
 simp_all [dG]
theorem iV: ∀(h:fZ) (i:Nat) (o:dC) (j:Nat),dG (iH h i o) j=if i=j then(dG h i).map fun _=>o else dG h j
 |[],i,o,j=>by simp[iH,dG]
 |(k,p)::h,i,o,j=>by
  simp only[iH];by_cases e:k=i
  .simp_all [dQ]
  .have d:(k==i)=false:=by simpa using e
   simp only[d,ac,dQ,iV h i o j]
   grind
theorem NV {h:fZ} {i:Nat} {o p:dC} (hi:dG h i=a6 p):dG (iH h i o) i=a6 o:=by rw[iV];simp[hi]
theorem arT {h:fZ} {i j:Nat} {o:dC} (hi:i≠j):dG (iH h i o) j=dG h j:=by rw[iV];simp[hi]
def upd (mu:Nat->Loc) (id:Nat) (l:Loc):Nat->Loc:=fun j=>if j=id then l else mu j
theorem upd_same (mu:Nat->Loc) (id:Nat) (l:Loc):upd mu id l id=l:=by simp[upd]
theorem upd_ne (mu:Nat->Loc) {id j:Nat} (l:Loc) (h:j≠id):upd mu id l j=mu j:=by simp[upd,h]
def Ex.code:Ex->Option Code
 |.normal=>a7
 |.exit id=>a6 (.exit id)
 |.goto l=>a6 (.goto l)
 |.ret=>a6 .ret
def ajz:Nat->Option Ex->Loop->Prop
 |0,a7,L=>L.state=.ready/\L.pending=a7
 |1,a6 e,L=>L.state=.done/\L.pending=e.code/\e.code≠a7
 |2,a7,L=>L.state=.busy
 |_,_,_=>False
def Cx.ORel (B:Nat) (c:Cx) (id:Nat):dC->Prop
 |.box e cs=>B<=(c.mu id).blk/\ ∃d,c.w.heap[(c.mu id).blk]? =a6 (.cells d e (0,0))/\bC c cs d.toList/\ ∀u∈d.toList,u.oneCell'=true
 |.arr t ver g=>0<t.size/\ ∃e h,c.w.ownsRow B e t.size (c.mu id).v g.length h/\eY (dY c.w c.free t) t.size g h/\(t=.int .u8->e=lS)
 |.lp f fr ps asg bd ky n p=>(∀k,ky=a6 k->rq f k=a6 (asg,bd))/\B<=(c.mu id).blk/\ ∃L:Loop,c.w.heap[(c.mu id).blk]? =a6 (Obj.loop L)/\bC c fr L.tmps.toList/\L.params.toList=ps/\L.assign=asg/\L.body=bd/\ajz n p L
 |.dead=>True
 |.mp kk vk j=>B<=(c.mu id).blk/\ ∃i l,c.w.heap[(c.mu id).blk]? =a6 (.map i l)/\i.toList.map (fun e=>(e.key,e.val))=j.map fun p=>(Value.int kk p.1,Value.int vk p.2)
structure Cx.Ok (W0:World) (c:Cx):Prop where
 bel:Below W0.heap.size W0 c.w
 obj: ∀id o,dG c.hp id=a6 o->c.ORel W0.heap.size id o
 inj: ∀i j o p b,dG c.hp i=a6 o->dG c.hp j=a6 p->o.blk (c.mu i)=a6 b->p.blk (c.mu j)=a6 b->i=j
 mks: ∀r,r∈c.mks->W0.heap.size<=r/\c.w.heap[r]? =a6 (.deferred (a6 []))
 bar: ∀b,c.bar b->c.out b
 phi:Phi W0
theorem Cx.Ok.phiw {W0:World} {c:Cx} (h:c.Ok W0):Phi c.w:=Phi.below h.bel h.phi
theorem Cx.ORel.lt {B:Nat} {c:Cx} {id:Nat} {o:dC} (h:c.ORel B id o) {b:Nat} (hb:o.blk (c.mu id)=a6 b):B<=b/\b<c.w.heap.size:=by
 cases o with
 |box e cs=>
  simp only[dC.blk,Option.some.injEq]at hb;subst hb;obtain⟨d,g,f,_⟩:=h
  grind
 |arr t ver i=>
  simp only[dC.blk]at hb;obtain⟨_,e,j,d,_⟩:=h;exact World.ownsRow.lt d b hb
 |lp _ _ _ _ _ _ _ _=>
  simp only[dC.blk,Option.some.injEq]at hb;subst hb;obtain⟨_,d,L,f,_⟩:=h
  grind
 |dead=>cases hb
 |mp _ _ _=>
  simp only[dC.blk,Option.some.injEq]at hb;subst hb;obtain⟨d,l,cl,f,_⟩:=h
  grind
theorem Cx.ORel.no_mark {B:Nat} {c:Cx} {id:Nat} {o:dC} (h:c.ORel B id o) {b:Nat} (hb:o.blk (c.mu id)=a6 b) {d:Option (List Deferred)}:c.w.heap[b]? ≠a6 (.deferred d):=by
 intro hd;cases o with
 |box e cs=>
  simp only[dC.blk,Option.some.injEq]at hb;subst hb;obtain⟨f,l,j,_⟩:=h;simp_all
 |arr t ver m=>
  simp only[dC.blk]at hb;obtain⟨_,e,p,f,_⟩:=h;rcases f.2 with ⟨i,_⟩|⟨g,q,s,i,_,u,_⟩
  .rw[i]at hb;cases hb
  .rw[i]at hb;cases hb;simp_all
 |lp _ _ _ _ _ _ _ _=>
  simp only[dC.blk,Option.some.injEq]at hb;subst hb;obtain⟨_,f,L,j,_⟩:=h;simp_all
 |dead=>cases hb
 |mp _ _ _=>
  simp only[dC.blk,Option.some.injEq]at hb;subst hb;obtain⟨f,v,cl,j,_⟩:=h;simp_all
theorem Cx.ORel.no_loop {B:Nat} {c:Cx} {id:Nat} {o:dC} (h:c.ORel B id o) (u: ∀f fr j l m q n p,o≠ .lp f fr j l m q n p) {b:Nat} (hb:o.blk (c.mu id)=a6 b) {L:Loop}:c.w.heap[b]? ≠a6 (Obj.loop L):=by
 intro hd;cases o with
 |box e cs=>
  simp only[dC.blk,Option.some.injEq]at hb;subst hb;obtain⟨d,v,s,_⟩:=h;simp_all
 |arr t ver x=>
  simp only[dC.blk]at hb;obtain⟨_,e,y,d,_⟩:=h;rcases d.2 with ⟨i,_⟩|⟨g,z,A,i,_,D,_⟩
  .rw[i]at hb;cases hb
  .rw[i]at hb;cases hb;simp_all
 |lp _ _ _ _ _ _ _ _=>grind
 |dead=>cases hb
 |mp _ _ _=>
  simp only[dC.blk,Option.some.injEq]at hb;subst hb;obtain⟨d,E,cl,s,_⟩:=h;simp_all
theorem Cx.Ok.mark_lt {W0:World} {c:Cx} (h:c.Ok W0) {r:Nat} (d:r∈c.mks):r<c.w.heap.size:=(Array.getElem?_eq_some_iff.1 (h.mks r d).2).1
theorem Cx.Ok.mark_own {W0:World} {c:Cx} (h:c.Ok W0) {r:Nat} (d:r∈c.mks): ¬c.own r:=by
 rintro ⟨id,o,e,f⟩;exact(h.obj id o e).no_mark f (h.mks r d).2
theorem Cx.Ok.own_lt {W0:World} {c:Cx} (h:c.Ok W0) {b:Nat} (hb:c.own b):W0.heap.size<=b/\b<c.w.heap.size:=by
 obtain⟨id,o,d,e⟩:=hb;exact(h.obj id o d).lt e
theorem Cx.Ok.size {W0:World} {c:Cx} (h:c.Ok W0):W0.heap.size<=c.w.heap.size:=h.bel.size
theorem Cx.Ok.free_old {W0:World} {c:Cx} (h:c.Ok W0) {b:Nat} (hb:b<W0.heap.size) (d: ¬c.bar b):c.free b:=
 ⟨aX hb h.size,fun e=>by have:=(h.own_lt e).1;omega,fun f=>by have:=(h.mks b f).1;omega,d⟩
theorem yc {w w':World} {B:Nat} {e:TypeId} {size n:Nat} {v:Value} {xs:List Value} (h:w.ownsRow B e size v n xs) (hb: ∀b,v.ownBlock=a6 b->w'.heap[b]? =w.heap[b]?):w'.ownsRow B e size v n xs:=by
 refine⟨h.1, ?_⟩;rcases h.2 with d|⟨g,i,j,f,d,l,m⟩
 .exact .inl d
 .refine .inr ⟨g,i,j,f,d, ?_,m⟩;rw[hb g (by rw[f];rfl)];exact l
theorem Cx.ORel.le {B:Nat} {c c':Cx} {id:Nat} {o:dC} (h:c.ORel B id o) (hl:c.Le c') (d:c'.mu id=c.mu id) (hb: ∀b,o.blk (c.mu id)=a6 b->c'.w.heap[b]? =c.w.heap[b]?):c'.ORel B id o:=by
 cases o with
 |box e cs=>
  obtain⟨g,q,i,j,l⟩:=h;refine⟨by rw[d];exact g,q,by rw[d,hb _ rfl];exact i,bC.le hl _ _ j,l⟩
 |arr t ver x=>
  obtain⟨m,e,s,g,i,j⟩:=h;refine⟨m,e,s, ?_,eY.mono (dY.mono hl.free t) _ _ i,j⟩;rw[d];exact yc g fun b u=>hb b u
 |lp f fr ps asg bd ky n p=>
  obtain⟨m,g,L,i,j,l⟩:=h;exact⟨m,by rw[d];exact g,L,by rw[d,hb _ rfl];exact i,bC.le hl _ _ j,l⟩
 |dead=>trivial
 |mp kk vk y=>
  obtain⟨g,v,cl,i,j⟩:=h;exact⟨by rw[d];exact g,v,cl,by rw[d,hb _ rfl];exact i,j⟩
def Cx.at_ (c:Cx) (w:World):Cx:={c with w:=w}
theorem Cx.Le.ext {c:Cx} {w:World} (h:Below c.w.heap.size c.w w):c.Le (c.at_ w):=
 ⟨fun b d=>⟨⟨aX d.1 h.size,d.2⟩,h.block b d.1⟩,fun _ h=>h,fun id o _ f=>⟨o,f,o.like_refl _⟩,fun _ h=>h,
  fun b L e=>⟨L,(h.block b (Array.getElem?_eq_some_iff.1 e).1).trans e⟩,h.size,rfl⟩
theorem Cx.Ok.ext {W0:World} {c:Cx} {w:World} (d:c.Ok W0) (h:Below c.w.heap.size c.w w):(c.at_ w).Ok W0:=
 ⟨d.bel.trans (h.mono d.size),fun id o g=>(d.obj id o g).le (Cx.Le.ext h) rfl fun b e=>h.block b ((d.obj id o g).lt e).2,d.inj,
  fun r f=>⟨(d.mks r f).1,(h.block r (d.mark_lt f)).trans (d.mks r f).2⟩,fun b e=>((Cx.Le.ext h).out b (d.bar b e)).1,d.phi⟩
def Cx.push (c:Cx) (id:Nat) (o:dC) (l:Loc) (nxt:Nat) (w:World):Cx:=⟨upd c.mu id l,(id,o)::c.hp,nxt,w,c.mks,c.bar⟩
theorem Cx.Le.push {c:Cx} {id:Nat} {o:dC} {l:Loc} {nxt:Nat} {w:World} (v: ¬c.known id) (x:c.nxt<=nxt) (q:c.w.heap.size<=w.heap.size)
  (hb: ∀b,b<c.w.heap.size->w.heap[b]? =c.w.heap[b]?) (hl: ∀b,o.blk l=a6 b->c.w.heap.size<=b):c.Le (c.push id o l nxt w):=by
 have hk: ∀j,c.known j->j≠id:=fun j d e=>v (e▸d);refine⟨fun b f=>⟨⟨aX f.1 q, ?_,f.2.2⟩,hb b f.1⟩,fun j d=> ?_,fun j p d m=> ?_,fun _ h=>h,fun b L s=>⟨L,(hb b (Array.getElem?_eq_some_iff.1 s).1).trans s⟩,q,rfl⟩
 .rintro ⟨j,p,i,g⟩;simp only[Cx.push,dQ]at i g;split at i
  .rename_i e
   subst e;cases i;rw[upd_same]at g;have:=hl b g;have:=f.1;omega
  .rename_i e
   rw[upd_ne _ _ (Ne.symm e)]at g;exact f.2.1 ⟨j,p,i,g⟩
 .rcases d with ⟨p,m⟩|d
  .left;simp only[Cx.push,dQ]
   grind
  .right;exact aX d x
 .have u:=hk j d;simp only[Cx.push,dQ,ap (Ne.symm u)]at m ⊢;exact⟨p,m,by rw[upd_ne _ _ u];exact p.like_refl _⟩
theorem Cx.Ok.push {W0:World} {c:Cx} {id:Nat} {o:dC} {l:Loc} {nxt:Nat} {w:World} (d:c.Ok W0) (y: ¬c.known id) (E:c.nxt<=nxt) (h:Below c.w.heap.size c.w w)
  (hl: ∀b,o.blk l=a6 b->c.w.heap.size<=b) (J:(c.push id o l nxt w).ORel W0.heap.size id o):(c.push id o l nxt w).Ok W0:=by
 have z:=Cx.Le.push (o:=o) y E h.size h.block hl;have hk: ∀j p,dG c.hp j=a6 p->j≠id:=fun j p G e=>y (e▸ .inl ⟨p,G⟩);refine⟨d.bel.trans (h.mono d.size),fun j p I=> ?_,fun i j p q b A B f g=> ?_,fun r m=>⟨(d.mks r m).1,(h.block r (d.mark_lt m)).trans (d.mks r m).2⟩,fun b s=>(z.out b (d.bar b s)).1,d.phi⟩
 .by_cases e:j=id
  .simp_all [Cx.push,dQ]
  .have D:dG c.hp j=a6 p:=by simpa [Cx.push,dQ,Ne.symm e] using I
   exact(d.obj j p D).le z (upd_ne _ _ e) fun b s=>h.block b ((d.obj j p D).lt s).2
 .by_cases e1:i=id<;>by_cases e2:j=id
  .rw[e1,e2]
  .subst e1;have u:p=o:=by grind [Cx.push,dQ]
   have v:dG c.hp j=a6 q:=by simpa [Cx.push,dQ,Ne.symm e2] using B
   subst u;simp only[Cx.push,upd_same,upd_ne _ _ e2]at f g;have:=hl b f;have:=((d.obj j q v).lt g).2;omega
  .subst e2;have u:q=o:=by grind [Cx.push,dQ]
   have x:dG c.hp i=a6 p:=by simpa [Cx.push,dQ,Ne.symm e1] using A
   subst u;simp only[Cx.push,upd_same,upd_ne _ _ e1]at f g;have:=hl b g;have:=((d.obj i p x).lt f).2;omega
  .have x:dG c.hp i=a6 p:=by simpa [Cx.push,dQ,Ne.symm e1] using A
   have v:dG c.hp j=a6 q:=by simpa [Cx.push,dQ,Ne.symm e2] using B
   simp only[Cx.push,upd_ne _ _ e1,upd_ne _ _ e2]at f g;exact d.inj i j p q b x v f g
def Cx.put (c:Cx) (id:Nat) (o:dC) (l:Loc) (w:World):Cx:=⟨upd c.mu id l,iH c.hp id o,c.nxt,w,c.mks,c.bar⟩
theorem Cx.put_get {c:Cx} {id:Nat} {o p:dC} {l:Loc} {w:World} (hp:dG c.hp id=a6 p):dG (c.put id o l w).hp id=a6 o:=NV hp
theorem Cx.Le.put {W0:World} {c:Cx} {id:Nat} {o o':dC} {l:Loc} {w:World} (y:c.Ok W0) (m:dG c.hp id=a6 o) (hk:o.like (c.mu id) o' l) (s:c.w.heap.size<=w.heap.size)
  (hb: ∀b,b<c.w.heap.size->o.blk (c.mu id)≠a6 b->w.heap[b]? =c.w.heap[b]?) (hl: ∀b,o'.blk l=a6 b->o.blk (c.mu id)=a6 b\/c.w.heap.size<=b)
  (v: ∀(b:Nat) (L:Loop),o.blk (c.mu id)=a6 b->c.w.heap[b]? =a6 (Obj.loop L)-> ∃x:Loop,w.heap[b]? =a6 (Obj.loop x)):c.Le (c.put id o' l w):=by
 refine⟨fun b d=>⟨⟨aX d.1 s, ?_,d.2.2⟩,hb b d.1 fun e=>d.2.1 ⟨id,o,m,e⟩⟩,fun j i=> ?_,fun j p i hp=> ?_,fun _ h=>h,fun b L q=> ?_,s,rfl⟩
 rotate_left 3
 .by_cases e:o.blk (c.mu id)=a6 b
  .exact v b L e q
  .exact⟨L,(hb b (Array.getElem?_eq_some_iff.1 q).1 e).trans q⟩
 .rintro ⟨j,p,f,g⟩;simp only[Cx.put,iV]at f g;split at f
  .rename_i e
   subst e;rw[m]at f;cases f;rw[upd_same]at g;rcases hl b g with u|u
   .exact d.2.1 ⟨id,o,m,u⟩
   .have:=d.1;omega
  .rename_i e
   rw[upd_ne _ _ (Ne.symm e)]at g;exact d.2.1 ⟨j,p,f,g⟩
 .rcases i with ⟨p,hp⟩|i
  .left
   grind [Cx.put,iV]
  .right;exact i
 .simp only[Cx.put,iV]at hp ⊢;split at hp
  .simp_all [upd_same]
  .rename_i e
   exact⟨p,hp,by rw[upd_ne _ _ (Ne.symm e)];exact p.like_refl _⟩
theorem Cx.Ok.put {W0:World} {c:Cx} {id:Nat} {o o':dC} {l:Loc} {w:World} (d:c.Ok W0) (s:dG c.hp id=a6 o) (hk:o.like (c.mu id) o' l) (K:Below W0.heap.size W0 w)
  (M:c.w.heap.size<=w.heap.size) (hb: ∀b,b<c.w.heap.size->o.blk (c.mu id)≠a6 b->w.heap[b]? =c.w.heap[b]?) (hl: ∀b,o'.blk l=a6 b->o.blk (c.mu id)=a6 b\/c.w.heap.size<=b)
  (N: ∀(b:Nat) (L:Loop),o.blk (c.mu id)=a6 b->c.w.heap[b]? =a6 (Obj.loop L)-> ∃O:Loop,w.heap[b]? =a6 (Obj.loop O)) (S:(c.put id o' l w).ORel W0.heap.size id o'):(c.put id o' l w).Ok W0:=by
 have G:=Cx.Le.put (w:=w) d s hk M hb hl N;refine⟨K,fun j p hp=> ?_,fun i j p q b A B g m=> ?_,fun r v=>⟨(d.mks r v).1,(hb r (d.mark_lt v) fun e=>(d.obj id o s).no_mark e (d.mks r v).2).trans (d.mks r v).2⟩,fun b hb=>(G.out b (d.bar b hb)).1,d.phi⟩
 .by_cases e:id=j
  .grind [Cx.put_get]
  .have D:dG c.hp j=a6 p:=by grind [Cx.put,iV]
   refine(d.obj j p D).le G (upd_ne _ _ (Ne.symm e)) fun b I=>hb b ((d.obj j p D).lt I).2 fun f=>e (d.inj id j o p b s D f I)
 .have x: ∀i p,dG (c.put id o' l w).hp i=a6 p->id≠i->dG c.hp i=a6 p:=fun i p h e=>by simpa [Cx.put,iV,e] using h
  have J: ∀p,dG (c.put id o' l w).hp id=a6 p->p=o':=fun p h=>by grind [Cx.put_get]
  by_cases e1:id=i<;>by_cases f:id=j
  .rw[<-e1,<-f]
  .subst e1;have E:=J p A;have y:=x j q B f;subst E;simp only[Cx.put,upd_same,upd_ne _ _ (Ne.symm f)]at g m;rcases hl b g with u|u
   .exact d.inj id j o q b s y u m
   .have:=((d.obj j q y).lt m).2;omega
  .subst f;have E:=J q B;have z:=x i p A e1;subst E;simp only[Cx.put,upd_same,upd_ne _ _ (Ne.symm e1)]at g m;rcases hl b m with u|u
   .exact d.inj i id p o b z s g u
   .have:=((d.obj i p z).lt g).2;omega
  .have z:=x i p A e1;have y:=x j q B f;simp only[Cx.put,upd_ne _ _ (Ne.symm e1),upd_ne _ _ (Ne.symm f)]at g m;exact d.inj i j p q b z y g m
theorem bC.length {c:Cx}: ∀(l:List bH) (xs:List Value),bC c l xs->l.length=xs.length
 |[],[],_=>rfl
 |v::l,x::xs,h=>by simp only[bC]at h;simp[bC.length l xs h.2]
 |[],_::_,h=>by simp[bC]at h
 |_::_,[],h=>by simp[bC]at h
theorem bC.get {c:Cx}: ∀(l:List bH) (xs:List Value),bC c l xs-> ∀(i:Nat) (h:i<l.length) (f:i<xs.length),bI c l[i] xs[i]
 |v::l,x::xs,h,0,_,_=>by simp_all [bC]
 |v::l,x::xs,h,i+1,d,e=>by simp only[bC]at h;exact bC.get l xs h.2 i (by simpa using d) (by simpa using e)
 |[],_,_,_,d,_=>by simp at d
 |_::_,[],h,_,_,_=>by simp[bC]at h
theorem bC.append {c:Cx}: ∀(l m:List bH) (xs d:List Value),bC c l xs->bC c m d->bC c (l++m) (xs++d)
 |[],m,[],d,_,h=>h
 |v::l,m,x::xs,d,h,k=>by simp only[bC,List.cons_append]at h ⊢;exact⟨h.1,bC.append l m xs d h.2 k⟩
 |[],_,_::_,_,h,_=>by simp[bC]at h
 |_::_,_,[],_,h,_=>by simp[bC]at h
theorem bC.take {c:Cx}: ∀(k:Nat) (l:List bH) (xs:List Value),bC c l xs->bC c (l.take k) (xs.take k)
 |0,_,_,_=>by simp[bC]
 |k+1,[],[],_=>by simp[bC]
 |k+1,v::l,x::xs,h=>by simp only[bC,List.take_succ_cons]at h ⊢;exact⟨h.1,bC.take k l xs h.2⟩
 |_+1,[],_::_,h=>by simp[bC]at h
 |_+1,_::_,[],h=>by simp[bC]at h
theorem bC.drop {c:Cx}: ∀(k:Nat) (l:List bH) (xs:List Value),bC c l xs->bC c (l.drop k) (xs.drop k)
 |0,_,_,h=>by simpa using h
 |k+1,[],[],_=>by simp[bC]
 |k+1,v::l,x::xs,h=>by simp only[bC,List.drop_succ_cons]at h ⊢;exact bC.drop k l xs h.2
 |_+1,[],_::_,h=>by simp[bC]at h
 |_+1,_::_,[],h=>by simp[bC]at h
theorem bC.set {c:Cx} {v:bH} {x:Value} (d:bI c v x): ∀(i:Nat) (l:List bH) (xs:List Value),bC c l xs->bC c (l.set i v) (xs.set i x)
 |_,[],[],_=>by simp[bC]
 |0,u::l,y::xs,h=>by simp_all [bC]
 |i+1,u::l,y::xs,h=>by simp only[bC,List.set_cons_succ]at h ⊢;exact⟨h.1,bC.set d i l xs h.2⟩
 |_,[],_::_,h=>by simp[bC]at h
 |_,_::_,[],h=>by simp[bC]at h
theorem bC.split {c:Cx}: ∀(l m:List bH) (xs:List Value),bC c (l++m) xs-> ∃d e,xs=d++e/\bC c l d/\bC c m e
 |[],m,xs,h=>⟨[],xs,rfl,by simp[bC],h⟩
 |v::l,m,x::xs,h=>by
  simp only[bC,List.cons_append]at h;obtain⟨d,e,f,g,i⟩:=bC.split l m xs h.2;exact⟨x::d,e,by rw[f];rfl,by simp only[bC];exact⟨h.1,g⟩,i⟩
 |v::l,m,[],h=>by simp[bC]at h
theorem VD.leaf {c:Cx} {t:Ty} {x:t.den} {v:Value} (h:t.isAgg=false):VD c t x v↔dY c.w c.free t x [v]:=⟨fun d=>d.2 h,fun d=>⟨(fun e=>by rw[h]at e;cases e),(fun _=>d)⟩⟩
theorem VD.agg {c:Cx} {t:Ty} {x:t.den} {v:Value} (h:t.isAgg=true):VD c t x v↔ ∃cs,v=.agg cs/\dY c.w c.free t x cs.toList:=⟨fun d=>d.1 h,fun d=>⟨(fun _=>d),(fun e=>by rw[h]at e;cases e)⟩⟩
theorem VD.cells {c:Cx} {t:Ty} {x:t.den} {v:Value} (h:VD c t x v):dY c.w c.free t x v.cells.toList:=by
 by_cases e:t.isAgg=true
 .obtain⟨cs,rfl,d⟩:=h.1 e;exact d
 .have f:t.isAgg=false:=by simpa using e
  have d:=h.2 f;have g:=dY.one _ _ _ d v (by simp);cases v<;>simp_all [Value.cells,Value.oneCell']
theorem Au {c:Cx}: ∀(t:Ty) (x:t.den) (cs:List Value),dY c.w c.free t x cs->bC c (flat t x) cs
 |.unit,_,_,h=>by cases h;simp[flat,bC]
 |.bool,x,cs,h=>by simp only[dY]at h;subst h;simp only[flat,bC,bI];exact⟨(VD.leaf rfl).2 rfl,trivial⟩
 |.int k,x,cs,h=>by simp only[dY]at h;subst h;simp only[flat,bC,bI];exact⟨(VD.leaf rfl).2 rfl,trivial⟩
 |.str,x,cs,h=>by simp only[dY]at h;subst h;simp only[flat,bC,bI];exact⟨(VD.leaf rfl).2 rfl,trivial⟩
 |.list t,x,cs,h=>by
  have e:=h;obtain⟨a,n,l,d,_⟩:=h;subst d;simp only[flat,bC,bI];exact⟨(VD.leaf rfl).2 e,trivial⟩
 |.pair a b,x,cs,⟨f,g,d,i,j⟩=>by
  subst d;exact bC.append _ _ _ _ (Au a x.1 f i) (Au b x.2 g j)
theorem kW {t' t:Ty} {x:t'.den} {y:t.den} (h:jq t x=a6 y): ∃e:t'=t,y=cast (congrArg Ty.den e) x:=by
 grind [jq]
theorem fF {t:Ty} (x:t.den):jq t x=a6 x:=by simp[jq]
theorem gI {t' t:Ty} {x:t'.den} {y:t.den} (h:jq t x=a6 y):t'=t:=(kW h).1
theorem G5 {c:Cx} {t:Ty} (e:t.isAgg=false) {v:bH} {x:t.den} (h:leaf t v=a6 x) {u:Value} (d:bI c v u):dY c.w c.free t x [u]:=by
 cases v with
 |val t' y=>
  grind [leaf,kW,bI,VD.leaf]
 |nils=>
  cases t<;>simp only[leaf]at h
  case list t=>
   cases h;simp only[bI]at d;subst d;exact⟨a7,0,[],rfl,by simp,rfl,.inl rfl⟩
  all_goals cases h
 |_=>simp[leaf]at h
theorem ach {c:Cx}: ∀(t:Ty) (l:List bH) (x:t.den) (e:List bH) (vs:List Value),mk t l=a6 (x,e)->bC c l vs->
  ∃cs g,vs=cs++g/\dY c.w c.free t x cs/\bC c e g
 |.unit,l,x,e,vs,h,d=>by
  simp only[mk,Option.some.injEq,Prod.mk.injEq]at h;obtain⟨_,rfl⟩:=h;exact⟨[],vs,rfl,rfl,d⟩
 |.pair a b,l,x,e,vs,h,d=>by
  simp only[mk]at h;split at h
  .rename_i y i o
   split at h
   .rename_i z G p
    cases h;obtain⟨j,q,I,s,A⟩:=ach a l y i vs o d;obtain⟨m,B,J,D,E⟩:=ach b i z e q p A;exact⟨j++m,B,by simp_all,⟨j,m,rfl,s,D⟩,E⟩
   .cases h
  .cases h
 |.bool,[],_,_,_,h,_=>by simp[mk]at h
 |.int _,[],_,_,_,h,_=>by simp[mk]at h
 |.str,[],_,_,_,h,_=>by simp[mk]at h
 |.list _,[],_,_,_,h,_=>by simp[mk]at h
 |.bool,v::l,x,e,u::vs,h,d=>by
  simp only[bC]at d;simp only[mk]at h;split at h
  .rename_i y f;cases h;exact⟨[u],vs,rfl,G5 rfl f d.1,d.2⟩
  .cases h
 |.int k,v::l,x,e,u::vs,h,d=>by
  simp only[bC]at d;simp only[mk]at h;split at h
  .rename_i y f;cases h;exact⟨[u],vs,rfl,G5 rfl f d.1,d.2⟩
  .cases h
 |.str,v::l,x,e,u::vs,h,d=>by
  simp only[bC]at d;simp only[mk]at h;split at h
  .rename_i y f;cases h;exact⟨[u],vs,rfl,G5 rfl f d.1,d.2⟩
  .cases h
 |.list t,v::l,x,e,u::vs,h,d=>by
  simp only[bC]at d;simp only[mk]at h;split at h
  .rename_i y f;cases h;exact⟨[u],vs,rfl,G5 rfl f d.1,d.2⟩
  .cases h
 |.bool,_::_,_,_,[],_,d=>by simp[bC]at d
 |.int _,_::_,_,_,[],_,d=>by simp[bC]at d
 |.str,_::_,_,_,[],_,d=>by simp[bC]at d
 |.list _,_::_,_,_,[],_,d=>by simp[bC]at d
theorem mF {c:Cx} {t:Ty} {l:List bH} {x:t.den} {vs:List Value} (h:Ej t l=a6 x) (d:bC c l vs):dY c.w c.free t x vs:=by
 grind [Ej,ach,bC]
theorem Iw {c:Cx} {v:bH} {l:List bH} (h:v.cells=a6 l) {x:Value} (d:bI c v x):bC c l x.cells.toList/\ ∀u∈x.cells.toList,u.oneCell'=true:=by
 cases v with
 |val t y=>
  simp only[bH.cells,Option.some.injEq]at h;subst h;simp only[bI]at d;exact⟨Au t y _ d.cells,dY.one _ _ _ d.cells⟩
 |agg i=>
  simp only[bH.cells,Option.some.injEq]at h;subst h;simp only[bI]at d;obtain⟨j,rfl,e,f⟩:=d;exact⟨e,f⟩
 |undef=>simp[bH.cells]at h
 |tup _=>simp[bH.cells]at h
 |_=>
  simp only[bH.cells,Option.some.injEq]at h;subst h;have g:x.oneCell'=true:=by
   simp only[bI]at d
   first
    |(subst d;rfl)
    |exact d.1
    |(obtain⟨_,_,_,rfl,_⟩:=d;rfl)
    |(obtain⟨_,rfl,_⟩:=d;rfl)
    |(obtain⟨_,_,_,_,rfl,_⟩:=d;rfl)
  have e:x.cells= #[x]:=by cases x<;>simp_all [Value.cells,Value.oneCell']
  rw[e];simp only[bC];exact⟨⟨d,trivial⟩,by simpa using g⟩
end
section
open Option renaming some → a6, none → a7
open Bool renaming not_eq_true → aV
open List renaming map_cons → aj
open Option renaming map_some → aU
open Go.RowKit
def jU:TypeDesc->Option TK
 |.bool=>a6 .bool
 |.int k=>a6 (.int k)
 |.string=>a6 .str
 |.slice e=>a6 (.slice e)
 |.struct d=>a6 (.struct (d.toList.map fun f=>(f.offset,f.type)))
 |.func _ _ _=>a6 .fn
 |.pointer e=>a6 (.ptr e)
 |.map k e=>a6 (.map k e)
 |.array _ _=>a7
 |_=>a6 .other
def ji (T:TT):Nat->List (Nat×TypeId)->Option Ty
 |_,[]=>a6 .unit
 |e,(o,d)::f=>if o=e then match(T.at d).ty with
   |some a=>if a.size=(T.at d).size/\(T.at d).known=true then match ji T (e+a.size) f with
    |some b=>a6 (.pair a b)
    |none=>a7
    else a7
   |none=>a7
  else a7
def kH (T:TT):TK->Option Ty
 |.bool=>a6 .bool
 |.int k=>a6 (.int k)
 |.str=>a6 .str
 |.slice e=>(T.at e).ty.map .list
 |.struct d=>ji T 0 d
 |_=>a7
def awf (P:Program) (T:TT) (t:TypeId) (i:TI):Prop:=
 i.known=true->(P.info? t).map (fun f=>(f.size,f.bytes,f.zero.map fun z=>(z.cells.toList.map ut,z.cells.toList.all Value.oneCell')))=a6 (i.size,i.bytes,a6 (i.zero,true))/\
  (P.underlying t).map jU=a6 (a6 i.k)/\(i.ty=a7\/i.ty=kH T i.k)/\(∀y,i.ty=a6 y->y.size=i.size)/\(i.isAgg=true\/i.size=1)/\
  (i.eq=true->P.eqGuardType P.depth t=false/\P.stoodInHeld t=false/\(P.underlying t).map (fun d=>match d with|.struct fs=>fs.toList.all fun f=>f.name != "_" |_=>false)=a6 true)/\
  (P.underlying t).map (fun d=>match d with|.struct fs=>fs.toList.all fun f=>(P.info? f.type).isSome|_=>true)=a6 true/\i.zero.length=i.size/\(i.ty=a6 (.int .u8)->t=lS)/\(i.bld=true->t=Q3)/\(∀k,i.k=.int k-> ∀j,P.info? t=a6 j->j.zero=a6 (.int k 0))
def TOk (P:Program) (T:TT):Prop:= ∀t,awf P T t (T.at t)
def TT.All (p:Nat->TI->Prop):TT->Prop
 |.nil=>True
 |.node k i l r=>p k i/\l.All p/\r.All p
theorem TT.All.at_ {p:Nat->TI->Prop} (hd: ∀t,p t default): ∀(T:TT),T.All p-> ∀t,p t (T.at t)
 |.nil,_,t=>hd t
 |.node k i l r,⟨j,d,f⟩,t=>by
  simp only[TT.at];by_cases e:Nat.beq k t=true
  .simp_all
  .have g:Nat.beq k t=false:=(aV _).mp e;simp only[g,ac];by_cases e2:Nat.blt t k=true
   .simp only[e2,aa];exact TT.All.at_ hd l d t
   .have h:Nat.blt t k=false:=(aV _).mp e2;simp only[h,ac];exact TT.All.at_ hd r f t
theorem TOk.of_all {P:Program} {T:TT} (h:T.All (awf P T)):TOk P T:=TT.All.at_ (fun t h=>by cases h) T h
section types
variable {P:Program} {T:TT} (hT:TOk P T) {t:TypeId} (hk:(T.at t).known=true)
theorem TOk.info (hT:TOk P T) (hk:(T.at t).known=true): ∃i z,P.info? t=a6 i/\i.size=(T.at t).size/\i.bytes=(T.at t).bytes/\i.zero=a6 z/\z.cells.toList.map ut=(T.at t).zero/\z.cells.toList.all Value.oneCell'=true:=by
 have h:=(hT t hk).1;simp_all
theorem TOk.und (hT:TOk P T) (hk:(T.at t).known=true): ∃d,P.underlying t=a6 d/\jU d=a6 (T.at t).k:=by
 have h:=(hT t hk).2.1;simp_all
theorem TOk.slice (hT:TOk P T) (hk:(T.at t).known=true) {e:TypeId} (h:(T.at t).k=.slice e):P.underlying t=a6 (.slice e):=by
 obtain⟨d,g,f⟩:=hT.und hk;rw[h]at f;cases d<;>simp[jU]at f;subst f;exact g
theorem TOk.str (hT:TOk P T) (hk:(T.at t).known=true) (h:(T.at t).k=.str):P.underlying t=a6 .string:=by
 obtain⟨d,f,e⟩:=hT.und hk;rw[h]at e;cases d<;>simp[jU]at e;exact f
theorem TOk.int (hT:TOk P T) (hk:(T.at t).known=true) {k:IntKind} (h:(T.at t).k=.int k):P.underlying t=a6 (.int k):=by
 obtain⟨d,f,e⟩:=hT.und hk;rw[h]at e;cases d<;>simp[jU]at e;subst e;exact f
theorem TOk.struct (hT:TOk P T) (hk:(T.at t).known=true) {e:List (Nat×TypeId)} (h:(T.at t).k=.struct e): ∃g,P.underlying t=a6 (.struct g)/\g.toList.map (fun f=>(f.offset,f.type))=e:=by
 obtain⟨d,j,i⟩:=hT.und hk;rw[h]at i;cases d<;>simp[jU]at i;simp_all
theorem TOk.isAgg (hT:TOk P T) (hk:(T.at t).known=true) (w:World):(Go.isAgg t).run P w=.ok (T.at t).isAgg w:=by
 obtain⟨d,f,e⟩:=hT.und hk;have:(Go.isAgg t).run P w=.ok (match d with|.struct _|.array _ _=>true|_=>false) w:=by
  simp only[Go.isAgg,Sem.run_bind,run_underlying f,Result.andThen_ok];cases d<;>rfl
 rw[this];unfold TI.isAgg;cases d<;>simp only[jU,Option.some.injEq,reduceCtorEq]at e<;>simp[<-e]
theorem TOk.sizeOf (hT:TOk P T) (hk:(T.at t).known=true) (w:World):(Go.sizeOf t).run P w=.ok (T.at t).size w:=by
 obtain⟨i,z,d,e,_⟩:=hT.info hk;simp[Go.sizeOf,typeInfo,d,e]
theorem TOk.ty_agg (hT:TOk P T) (hk:(T.at t).known=true) {y:Ty} (h:(T.at t).ty=a6 y):y.isAgg=(T.at t).isAgg:=by
 rcases(hT t hk).2.2.1 with d|d
 .simp_all
 .rw[h]at d;unfold TI.isAgg;cases hkk:(T.at t).k with
  |struct g=>
   rw[hkk]at d;simp only[kH]at d;cases g with
   |nil=>simp only[ji,Option.some.injEq]at d;subst d;rfl
   |cons f r=>
    obtain⟨o,i⟩:=f;simp only[ji]at d
    repeat' split at d
    all_goals first|cases d|skip
    rfl
  |bool=>rw[hkk]at d;simp only[kH,Option.some.injEq]at d;subst d;rfl
  |int k=>rw[hkk]at d;simp only[kH,Option.some.injEq]at d;subst d;rfl
  |str=>rw[hkk]at d;simp only[kH,Option.some.injEq]at d;subst d;rfl
  |slice e=>
   rw[hkk]at d;simp only[kH]at d;cases he:(T.at e).ty with
   |none=>simp_all
   |some j=>rw[he]at d;simp only[aU,Option.some.injEq]at d;subst d;rfl
  |other=>rw[hkk]at d;cases d
  |ptr e=>rw[hkk]at d;cases d
  |fn=>rw[hkk]at d;cases d
  |map a b=>rw[hkk]at d;cases d
theorem TOk.ty_size (hT:TOk P T) (hk:(T.at t).known=true) {y:Ty} (h:(T.at t).ty=a6 y):y.size=(T.at t).size:=(hT t hk).2.2.2.1 y h
theorem TOk.zlen (hT:TOk P T) (hk:(T.at t).known=true):(T.at t).zero.length=(T.at t).size:=(hT t hk).2.2.2.2.2.2.2.1
theorem TOk.byte (hT:TOk P T) (hk:(T.at t).known=true) (h:(T.at t).ty=a6 (.int .u8)):t=lS:=(hT t hk).2.2.2.2.2.2.2.2.1 h
theorem TOk.bldr (hT:TOk P T) (hk:(T.at t).known=true) (h:(T.at t).bld=true):t=Q3:=(hT t hk).2.2.2.2.2.2.2.2.2.1 h
theorem TOk.ptr (hT:TOk P T) (hk:(T.at t).known=true) {e:TypeId} (h:(T.at t).k=.ptr e):P.underlying t=a6 (.pointer e):=by
 obtain⟨d,g,f⟩:=hT.und hk;rw[h]at f;cases d<;>simp[jU]at f;subst f;exact g
theorem TOk.zero_int (hT:TOk P T) (hk:(T.at t).known=true) {k:IntKind} (h:(T.at t).k=.int k) {i:TypeInfo} (hi:P.info? t=a6 i):i.zero=a6 (.int k 0):=(hT t hk).2.2.2.2.2.2.2.2.2.2 k h i hi
theorem TOk.zero_byte (hT:TOk P T) (hk:(T.at t).known=true) (h:(T.at t).k=.int .u8) {i:TypeInfo} (hi:P.info? t=a6 i):i.zero=a6 (.int .u8 0):=hT.zero_int hk h hi
theorem TOk.map (hT:TOk P T) (hk:(T.at t).known=true) {a e:TypeId} (h:(T.at t).k=.map a e):P.underlying t=a6 (.map a e):=by
 obtain⟨d,g,f⟩:=hT.und hk;rw[h]at f;cases d<;>simp[jU]at f;simp_all
theorem TOk.one (hT:TOk P T) (hk:(T.at t).known=true):(T.at t).isAgg=true\/(T.at t).size=1:=(hT t hk).2.2.2.2.1
end types
theorem Nv (c:Cx) (v:Value):bI c (ut v) v:=by
 unfold ut;split<;>simp only[bI]
 .exact(VD.leaf rfl).2 rfl
 .exact(VD.leaf rfl).2 rfl
 .refine(VD.leaf rfl).2 ?_;simp[dY]
theorem qM (c:Cx): ∀(l:List Value),bC c (l.map ut) l
 |[]=>by simp[bC]
 |v::l=>by simp only[aj,bC];exact⟨Nv c v,qM c l⟩
theorem bC.setL {c:Cx} {z:bH}: ∀(s:Nat) (fr:List bH) (xs:List Value),bC c fr xs->(∀h:s<xs.length,bI c z xs[s])->bC c (fr.set s z) xs
 |s,[],[],_,_=>by simp[bC]
 |0,v::fr,x::xs,h,d=>by
  simp_all [bC]
 |s+1,v::fr,x::xs,h,d=>by
  simp only[bC,List.set_cons_succ]at h ⊢;exact⟨h.1,bC.setL s fr xs h.2 fun e=>d (by simpa using e)⟩
 |s,[],_::_,h,_=>by simp[bC]at h
 |s,_::_,[],h,_=>by simp[bC]at h
theorem bC.getD {c:Cx} {l:List bH} {xs:Array Value} (h:bC c l xs.toList) (t:Nat):bI c (l.getD t .undef) (xs.getD t undef):=by
 have e:l.length=xs.size:=by grind [bC.length,Array.length_toList]
 by_cases ht:t<l.length
 .have d:t<xs.size:=by omega
  have f:=bC.get _ _ h t ht (by simpa using d);simp_all
 simp_all [bI]
theorem dH {c:Cx} {fr:List bH} {a:Act} (h:bC c fr a.tmps.toList) (x:Operand):bI c (gy fr x) (a.eval x):=by
 cases x with
 |tmp t=>exact h.getD t
 |const v=>
  cases v with
  |agg cs=>
   simp only[gy,Act.eval,Uk];cases e:cs.toList.all Value.oneCell'
   .simp[bI]
   .simp only[aa,bI];exact⟨cs,rfl,qM c _,fun u d=>List.all_eq_true.1 e u d⟩
  |tuple _=>simp[gy,Uk,bI]
  |_=>simp only[gy,Act.eval,Uk];exact Nv c _
 |global g=>simp[gy,bI]
 |func f=>simp only[gy,Act.eval,bI];exact⟨#[],rfl,by simp[bC]⟩
end
section
open Option renaming some → a6, none → a7
open Bool renaming false_eq_true → ah, not_true → ak
open List renaming append_assoc → ax, mem_of_mem_take → aW
open Go.RowKit
theorem di {R:Type} {b:Bool} {x:Option R} {r:R} (h:(bif b then x else a7)=a6 r):b=true/\x=a6 r:=by
 grind
theorem fK {R:Type} {b:Bool} {x:Option R} {r:R} (h:kV b x=a6 r):b=true/\x=a6 r:=di h
abbrev DU (c:Cx) (w:World):Prop:=Below c.w.heap.size c.w w
def valOf (agg:Bool) (d:List Value):Value:=if agg then .agg d.toArray else d.headD undef
theorem jG (b o n:Nat):(⟨b,o,a7⟩:Addr).add n=⟨b,o+n,a7⟩:=by
 simp_all [Addr.add]
section
variable {P:Program} {T:TT} {W0:World} {c:Cx} {R:Type} {r:R} {t:TypeId}
theorem H9 (hT:TOk P T) (hk:(T.at t).known=true) {w:World} {b o:Nat} {d:List Value} (g:gp w b o d) (hl:d.length=(T.at t).size):
  (loadVar t ⟨b,o,a7⟩).run P w=.ok (valOf (T.at t).isAgg d) w:=by
 have i:=hT.isAgg hk w;have l:=hT.sizeOf hk w;have f: ∀j v,d[j]? =a6 v->w.cell? ((⟨b,o,a7⟩:Addr).add j)=a6 v:=fun j v m=>by
  rw[jG];obtain⟨p,q⟩:=List.getElem?_eq_some_iff.1 m;rw[g j p,q]
 simp only[loadVar,Sem.run_bind,i,Result.andThen_ok];cases e:(T.at t).isAgg
 .have s:d.length=1:=by
   rcases hT.one hk with h|h
   all_goals simp_all
  match d,s with
  |[z],_=>
   have u:=f 0 z rfl;simp_all [jG,valOf]
 .simp only[if_true,Sem.run_bind,l,Result.andThen_ok,<-hl,run_loadCells_list (P:=P) w ⟨b,o,a7⟩ d f,Sem.run_pure,valOf]
theorem qc (hT:TOk P T) (hk:(T.at t).known=true) {w:World} {b o:Nat} {d:List Value} (e:gp w b o d) (hl:d.length=(T.at t).size):
  (Instr.loadAt t (.pointer (a6 ⟨b,o,a7⟩))).run P w=.ok (valOf (T.at t).isAgg d) w:=by
 grind [Instr.loadAt,Instr.sureAddr,H9]
theorem aaF (hT:TOk P T) (hk:(T.at t).known=true) {y:Ty} (g:(T.at t).ty=a6 y) {x:y.den} {d:List Value} (h:dY c.w c.free y x d):VD c y x (valOf (T.at t).isAgg d):=by
 have f:=hT.ty_agg hk g;cases e:(T.at t).isAgg
 .rw[e]at f;refine(VD.leaf f).2 ?_;have i:=dY.length _ _ _ h;have j:d.length=1:=by
   rw[i];cases y<;>first|rfl|(simp[Ty.isAgg]at f)
  match d,j with
  |[z],_=>exact h
 .rw[e]at f;exact(VD.agg f).2 ⟨d.toArray,rfl,by simpa using h⟩
theorem Ho (hT:TOk P T) (hk:(T.at t).known=true) {l:List bH} {d:List Value} (h:bC c l d) (m: ∀u∈d,u.oneCell'=true):bI c (norm (T.at t) l) (valOf (T.at t).isAgg d):=by
 unfold norm valOf TI.isAgg;have e:bI c (.agg l) (.agg d.toArray):=by simp only[bI];simp_all
 cases hkk:(T.at t).k with
 |struct o=>
  simp only[if_true];split
  .rename_i y g
   split
   .rename_i x i
    rw[cond_eq_ite];split
    .exact e
    simp only[bI];have j:=mF i h;have f:=hT.ty_agg hk g;rw[TI.isAgg,hkk]at f;exact(VD.agg f).2 ⟨d.toArray,rfl,by simpa using j⟩
   .exact e
  .exact e
 |_=>
  simp only[ah,if_false];split
  .rename_i v
   match d,h with
   |[z],h=>simp only[bC]at h;exact h.1
   |[],h=>simp[bC]at h
   |_::_::_,h=>simp[bC]at h
  .simp[bI]
theorem yP {cs l:List bH} {off k:Nat} (h:Gm cs off k=a6 l):off+k<=cs.length/\l=(cs.drop off).take k:=by
 unfold Gm at h;obtain⟨d,e⟩:=di h;simp_all
theorem gp.sub {w:World} {b o:Nat} {d:List Value} (h:gp w b o d) (off k:Nat):gp w b (o+off) ((d.drop off).take k):=by
 intro j e;have f:off+j<d.length:=by simp at e;omega
 rw[Nat.add_assoc,h (off+j) f];simp
theorem gp.of_block_cells {w:World} {b:Nat} {vs:Array Value} {e:TypeId} {f:Nat×Nat} (h:w.heap[b]? =a6 (.cells vs e f)):gp w b 0 vs.toList:=by
 intro j d;simp_all [World.cell?]
theorem DU.cells {c:Cx} {w:World} (h:DU c w) {b o:Nat} {d:List Value} (hb:b<c.w.heap.size) (e:gp c.w b o d):gp w b o d:=e.of_block (h.block b hb)
theorem aoo (o:c.Ok W0) {id p:Nat} {y:Ty} {xs:List y.den} (h:dG c.hp id=a6 (.arr y p xs)) {i:Nat} (hi:i<xs.length):
  ∃g n cp f,(c.mu id).v=.slice (a6 ⟨g,0,a7⟩) n cp/\c.own g/\dY c.w c.free y xs[i] f/\gp c.w g (i*y.size) f:=by
 obtain⟨L,e,f,q,s,M⟩:=o.obj id _ h;obtain⟨d,N,u,O,S,x,z⟩:=eY.at_ i xs f hi s;rcases q.2 with ⟨l,A⟩|⟨g,U,B,l,A,D,V,W,X,E⟩
 .omega
 .refine⟨g,_,_,d,l,⟨id,_,h,by simp[dC.blk,l,Value.ownBlock]⟩,u, ?_⟩;have G:=gp.of_block_cells D;intro j I;have m:f[i*y.size+j]? =a6 d[j]:=by
   rw[x,ax,List.getElem?_append_right (by omega),z,Nat.add_sub_cancel_left,List.getElem?_append_left I];simp
  have J:i*y.size+j<f.length:=(List.getElem?_eq_some_iff.1 m).1;rw[<-E]at m J;have K:i*y.size+j<B.toList.length:=by grind
  have:=G (i*y.size+j) K
  grind
theorem aol (hT:TOk P T) (s:c.Ok W0) {av:bH} {v:Value} {K:bH->Option R} (h:IG T c.hp t av K=a6 r) (d:bI c av v):
  ∃z u,K z=a6 r/\bI c z u/\ ∀w',DU c w'->(Instr.loadAt t v).run P w'=.ok u w':=by
 unfold IG at h;cases hk:(T.at t).known
 .simp_all
 rw[hk]at h;simp only[ak,ac]at h;cases av with
 |cellp y x=>
  simp only at h;split at h
  .rename_i y' S
   split at h
   .rename_i x' A
    obtain⟨e,B⟩:=kW A;subst e;subst B;simp only[bI]at d;obtain⟨b,o,U,rfl,V,f,hd⟩:=d;refine⟨_,_,h, ?_,fun w' j=>qc hT hk (j.cells V.1 f) ?_⟩
    .grind [bI,aaF]
    .rw[dY.length _ _ _ hd,hT.ty_size hk S]
   .cases h
  .cases h
 |ptr id m=>
  simp only at h;split at h
  .rename_i bt cs I
   split at h
   .rename_i l D
    obtain⟨p,rfl⟩:=yP D;simp only[bI]at d;have W:=d.2.2 _ _ I;subst W;obtain⟨hB,vs,q,J,X⟩:=s.obj id _ I;have Y:=bC.length _ _ J;have f:=(gp.of_block_cells q).sub m (T.at t).size;rw[Nat.zero_add]at f;refine⟨_,_,h,Ho hT hk (bC.take _ _ _ (bC.drop m _ _ J)) (fun u E=>X u (List.mem_of_mem_drop (aW E))),fun w' j=>qc hT hk (j.cells (Array.getElem?_eq_some_iff.1 q).1 f) ?_⟩
    grind
   .cases h
  .cases h
 |ep id ver i m=>
  simp only at h;split at h
  .rename_i y u G L
   replace h:=di h;obtain⟨p,h⟩:=h;replace h:=di h;obtain⟨B,h⟩:=h;have p:u=ver:=by simpa using p
   subst p;have M:i<G.length:=by simpa [KZ] using B
   split at h
   .rename_i l D
    obtain⟨q,rfl⟩:=yP D;simp only[bI]at d;obtain⟨g',n',ae,Z,e2⟩:=(d.2.2 _ _ _ L).2 rfl;obtain⟨g,n,cp,U,N,ab,hd,f⟩:=aoo s L M;rw[Z]at N;cases N;subst e2;have A:G.getD i y.dflt=G[i]:=by simp[List.getD,M]
    rw[A]at h q;have O:=Au y _ _ hd;have Y:=bC.length _ _ O;have ad:=f.sub m (T.at t).size;refine⟨_,_,h,Ho hT hk (bC.take _ _ _ (bC.drop m _ _ O)) (fun u E=>dY.one _ _ _ hd u (List.mem_of_mem_drop (aW E))),fun w' j=>qc hT hk (j.cells (s.own_lt ab).2 ad) ?_⟩;simp;omega
   .cases h
  .cases h
 |_=>cases h
end
end
section
open Option renaming some → a6, none → a7
open Bool renaming and_eq_true → ae, false_eq_true → ah, not_true → ak
open List renaming map_cons → aj, drop_eq_getElem_cons → au, all_cons → aP
open Option renaming map_some → aU
open Go.RowKit
section
variable {P:Program} {T:TT} {W0:World} {c:Cx} {R:Type} {r:R} {t:TypeId}
theorem VD.int_inv {k:IntKind} {n:Int} {v:Value} (h:VD c (.int k) n v):v=.int k n:=by
 have:=h.2 rfl;simp_all [dY]
theorem VD.bool_inv {b:Bool} {v:Value} (h:VD c .bool b v):v=.bool b:=by
 have:=h.2 rfl;simp_all [dY]
theorem VD.str_inv {s:List UInt8} {v:Value} (h:VD c .str s v):v=.string ⟨s.toArray⟩:=by
 have:=h.2 rfl;simp_all [dY]
theorem VD.int_mk {k:IntKind} {n:Int}:VD c (.int k) n (.int k n):=(VD.leaf rfl).2 rfl
theorem VD.bool_mk {b:Bool}:VD c .bool b (.bool b):=(VD.leaf rfl).2 rfl
theorem VD.str_mk {s:List UInt8}:VD c .str s (.string ⟨s.toArray⟩):=(VD.leaf rfl).2 rfl
theorem CS (hT:TOk P T) (h:T.isStr t=true):P.underlying t=a6 .string:=by
 unfold TT.isStr at h;split at h
 .rename_i e;exact hT.str h e
 .cases h
theorem kP (hT:TOk P T) {n:Nat} (h:T.rowOf t n=true): ∃e,P.underlying t=a6 (.slice e)/\(T.at e).known=true/\(T.at e).size=n/\0<n/\(T.at t).k=.slice e/\0<(T.at e).bytes:=by
 unfold TT.rowOf at h;split at h
 .rename_i e d
  simp only[ae,beq_iff_eq,KZ,decide_eq_true_eq]at h;exact⟨e,hT.slice h.1 d,h.2.1,h.2.2.1,h.2.2.2.1,d,h.2.2.2.2⟩
 .cases h
theorem _root_.Go.Proofs.YtjgoejaajmhllaaGreatDoor.TOk.isPtr (hT:TOk P T) (h:T.isPtr t=true): ∃e,P.underlying t=a6 (.pointer e):=by
 unfold TT.isPtr at h;split at h
 .rename_i e hk;exact⟨e,hT.ptr h hk⟩
 .cases h
theorem _root_.Go.Proofs.YtjgoejaajmhllaaGreatDoor.TOk.isBytes (hT:TOk P T) (h:T.isBytes t=true):P.underlying t=a6 (.pointer lS)/\P.cellsOf lS=1:=by
 unfold TT.isBytes at h;split at h
 .rename_i e hk
  simp only[ae]at h;obtain⟨g,d,f⟩:=h;split at f
  .rename_i j
   have:=hT.byte d j;subst this;refine⟨hT.ptr g hk, ?_⟩;obtain⟨i,z,l,m,_⟩:=hT.info d;simp_all [Program.cellsOf]
  .cases f
 .cases h
theorem Hw (hT:TOk P T) (hk:(T.at t).known=true) (w:World) (cs:Array Value) (off:Nat) (h:off+(T.at t).size<=cs.size):
  (part t cs off).run P w=.ok (valOf (T.at t).isAgg ((cs.toList.drop off).take (T.at t).size)) w:=by
 have d:=hT.isAgg hk w;have f:=hT.sizeOf hk w;simp only[part,Sem.run_bind,d,Result.andThen_ok];cases e:(T.at t).isAgg
 .have g:(T.at t).size=1:=by
   rcases hT.one hk with h|h
   all_goals simp_all
  have i:off<cs.size:=by omega
  simp_all [au,valOf]
 .simp only[if_true,Sem.run_bind,f,Result.andThen_ok,Sem.run_pure,valOf];congr 2
  grind
theorem yT (hT:TOk P T): ∀(n:Nat) (t:TypeId),T.eqOk n t=true-> ∀(y:Ty),(T.at t).ty=a6 y-> ∀(x j:y.den) (l m:List Value),dY c.w c.free y x l->dY c.w c.free y j m->
  ∀(w:World) (d:Nat),n<=d->(Op.equalIn d t (valOf (T.at t).isAgg l) (valOf (T.at t).isAgg m)).run P w=.ok (y.same x j) w
 |0,_,h,_,_,_,_,_,_,_,_,_,_,_=>by simp[TT.eqOk]at h
 |n+1,t,h,y,z,x,j,l,m,W,X,w,d,hd=>by
  obtain⟨d,rfl⟩: ∃e,d=e+1:=⟨d-1,by omega⟩;simp only[TT.eqOk,ae]at h;obtain⟨hk,h⟩:=h;have i:(T.at t).ty=kH T (T.at t).k:=by
   rcases(hT t hk).2.2.1 with g|g
   all_goals simp_all
  cases hkk:(T.at t).k with
  |bool=>
   rw[z,hkk]at i;simp only[kH,Option.some.injEq]at i;subst i;obtain⟨Y,o,q⟩:=hT.und hk;rw[hkk]at q;cases Y<;>simp[jU]at q;simp_all [dY,TI.isAgg,valOf,run_equalIn_bool,Ty.same]
  |int k=>
   rw[z,hkk]at i;simp only[kH,Option.some.injEq]at i;subst i;have o:=hT.int hk hkk;simp_all [dY,TI.isAgg,valOf,run_equalIn_int,Ty.same]
  |str=>
   rw[z,hkk]at i;simp only[kH,Option.some.injEq]at i;subst i;have o:=hT.str hk hkk;simp_all [dY,TI.isAgg,valOf,run_equalIn_string,Ty.same]
  |struct fs=>
   rw[hkk]at h;simp only[ae]at h;obtain⟨K,L⟩:=h;have M:(T.at t).isAgg=true:=by simp[TI.isAgg,hkk]
   rw[z,hkk]at i;simp only[kH]at i;obtain⟨G,o,q⟩:=hT.struct hk hkk;obtain⟨_,N,I⟩:=(hT t hk).2.2.2.2.2.1 K;rw[o]at I;simp only[aU,Option.some.injEq]at I;have J:P.fieldsOf t=G:=by simp[Program.fieldsOf,o]
   simp only[valOf,M,if_true];rw[run_equalIn_struct w d t _ _ (by rw[J];exact o) N,J];clear J N o z;rw[<-q]at i L;generalize G.toList=p at*;clear q G hkk K M hk;have Z: ∀(p:List Field) (s:Nat) (y:Ty) (x j:y.den) (l m u v:List Value),ji T s (p.map fun f=>(f.offset,f.type))=a6 y->(p.map fun f=>(f.offset,f.type)).all (fun f=>T.eqOk n f.2)=true->
     (p.all fun f=>f.name != "_")=true->dY c.w c.free y x l->dY c.w c.free y j m->u.length=s->v.length=s->
     (Op.eqFields d (u++l).toArray (v++m).toArray p).run P w=.ok (y.same x j) w:=by
    intro p
    induction p with
    |nil=>
     intro s y x j l m u v g _ _ A B _ _;simp only[List.map_nil,ji,Option.some.injEq]at g;subst g;rfl
    |cons f p ih=>
     intro s y x j l m u v g A B h4 h5 h6 h7;simp only[aj,ji]at g;split at g
     .rename_i ab
      split at g
      .rename_i a ha
       split at g
       .rename_i O
        split at g
        .rename_i b hb
         cases g;simp only[aj,aP,ae]at A B;obtain⟨D,S,o,q,e3⟩:=h4;obtain⟨E,U,e4,V,e6⟩:=h5;subst o;subst e4;have ad:=dY.length _ _ _ q;have af:=dY.length _ _ _ V;have n1:(f.name≠ "_"):=by simpa using B.1
         have p1:(part f.type (u++(D++S)).toArray f.offset).run P w=.ok (valOf (T.at f.type).isAgg D) w:=by
          rw[Hw hT O.2 w _ _ (by simp;omega)];simp_all
         have p2:(part f.type (v++(E++U)).toArray f.offset).run P w=.ok (valOf (T.at f.type).isAgg E) w:=by
          rw[Hw hT O.2 w _ _ (by simp;omega)];simp_all
         have p3:=yT hT n f.type A.1 a ha x.1 j.1 D E q V w d (by omega);simp only[Op.eqFields,am n1,Sem.run_bind,p1,p2,p3,Result.andThen_ok,Ty.same];cases a.same x.1 j.1
         .simp
         .simp only[ak,ah,if_false,Bool.true_and];have:=ih (s+a.size) b x.2 j.2 S U (u++D) (v++E) hb A.2 B.2 e3 e6 (by simp;omega) (by simp;omega);simpa using this
        .cases g
       .cases g
      .cases g
     .cases g
   have:=Z p 0 y x j l m [] [] i.symm L I W X rfl rfl;simpa using this
  |_=>simp_all
theorem X8 (w:World) (d:BinOp) (a b:List UInt8) (h:d=.eql\/d=.neq\/d=.lss\/d=.leq\/d=.gtr\/d=.geq):
  ∃u,bI c (Ua d a b) u/\ ∀w,(Op.stringOp d ⟨a.toArray⟩ ⟨b.toArray⟩).run P w=.ok u w:=by
 rcases h with rfl|rfl|rfl|rfl|rfl|rfl<;>
  exact⟨_,by simp only[Ua,bI];exact VD.bool_mk,fun w=>by simp[Op.stringOp,eX,Ag]⟩
theorem lg (d:BinOp) (t:TypeId) (ox oy:Operand) (x y:Value) (w:World) (h:x.oneCell'=true) (h2:x≠ .nilIface):(eqGuard d t ox oy x y).run P w=.ok () w:=by
 unfold eqGuard;cases x<;>first
  |(simp[Value.oneCell']at h;done)
  |exact absurd rfl h2
  |(cases d<;>simp)
theorem Ce {y:Ty} {v:bH} {x:y.den} (h:v.as [] y=a6 x) (d:y.isAgg=true) {u:Value} (f:bI c v u): ∃cs,u=.agg cs/\dY c.w c.free y x cs.toList:=by
 cases v with
 |val t' z=>
  grind [bH.as,kW,bI,VD.agg]
 |nils=>cases y<;>simp_all [bH.as,Ty.isAgg]
 |emp=>cases y<;>simp_all [bH.as,Ty.isAgg]
 |lst t' z b=>
  simp only[bH.as]at h;obtain⟨e,_⟩:=kW h;subst e;cases d
 |slc id ver j=>cases y<;>simp_all [bH.as,Ty.isAgg]
 |agg l=>
  simp only[bH.as,d,aa]at h;simp only[bI]at f;obtain⟨g,rfl,i,_⟩:=f;exact⟨g,rfl,mF h i⟩
 |_=>simp[bH.as]at h
theorem aBZ (hT:TOk P T) {f:BinOp} {ox oy:Operand} {x y:bH} {D E:Value} {K:bH->Option R} (h:YN T f t x y K=a6 r) (hx:bI c x D) (i:bI c y E):
  ∃z u,K z=a6 r/\bI c z u/\ ∀w,(do eqGuard f t ox oy D E;binOp f t D E:Sem Value).run P w=.ok u w:=by
 unfold YN at h;split at h
 .
  rename_i k a U b
  simp only[bI]at hx i;obtain rfl:=hx.int_inv;obtain rfl:=i.int_inv;split at h
  .rename_i hk
   subst hk;have l: ∀w,(eqGuard f t ox oy (.int k a) (.int k b)).run P w=.ok () w:=fun w=>lg f t ox oy _ _ w rfl (by simp);cases f<;>simp only[reduceCtorEq]at h
   case quo=>
    replace h:=fK h;obtain⟨g,h⟩:=h;have g:b≠0:=by simpa [bJ] using g
    exact⟨_,_,h,by simp only[bI];exact VD.int_mk,fun w=>by simp_all [binOp,Op.intDiv,aAk]⟩
   case rem=>
    replace h:=fK h;obtain⟨g,h⟩:=h;have g:b≠0:=by simpa [bJ] using g
    exact⟨_,_,h,by simp only[bI];exact VD.int_mk,fun w=>by simp_all [binOp,Op.intDiv]⟩
   case add=>exact⟨_,_,h,by simp only[wF,bI];exact VD.int_mk,fun w=>by simp_all [binOp,Op.intArith,bZ]⟩
   case sub=>exact⟨_,_,h,by simp only[wF,bI];exact VD.int_mk,fun w=>by simp_all [binOp,Op.intArith,ed]⟩
   case mul=>exact⟨_,_,h,by simp only[wF,bI];exact VD.int_mk,fun w=>by simp_all [binOp,Op.intArith,air]⟩
   case eql=>exact⟨_,_,h,by simp only[wF,bI];exact VD.bool_mk,fun w=>by simp_all [binOp,Op.intCmp,bJ]⟩
   case neq=>exact⟨_,_,h,by simp only[wF,bI];exact VD.bool_mk,fun w=>by simp_all [binOp,Op.intCmp,bJ,bne]⟩
   case lss=>exact⟨_,_,h,by simp only[wF,bI];exact VD.bool_mk,fun w=>by simp_all [binOp,Op.intCmp,gJ]⟩
   case leq=>exact⟨_,_,h,by simp only[wF,bI];exact VD.bool_mk,fun w=>by simp_all [binOp,Op.intCmp,leI]⟩
   case gtr=>exact⟨_,_,h,by simp only[wF,bI];exact VD.bool_mk,fun w=>by simp_all [binOp,Op.intCmp,gJ]⟩
   case geq=>exact⟨_,_,h,by simp only[wF,bI];exact VD.bool_mk,fun w=>by simp_all [binOp,Op.intCmp,leI]⟩
   case and=>exact⟨_,_,h,by simp only[bI];exact VD.int_mk,fun w=>by simp_all [binOp,Op.intBits,ajN]⟩
   case or=>exact⟨_,_,h,by simp only[bI];exact VD.int_mk,fun w=>by simp_all [binOp,Op.intBits,ajN]⟩
   case xor=>exact⟨_,_,h,by simp only[bI];exact VD.int_mk,fun w=>by simp_all [binOp,Op.intBits,ajN]⟩
   case andNot=>exact⟨_,_,h,by simp only[bI];exact VD.int_mk,fun w=>by simp_all [binOp,Op.intBits,ajN]⟩
   case shl=>
    obtain⟨g,h⟩:=fK h;have g: ¬b<0:=by simpa [leI] using g
    exact⟨_,_,h,by simp only[bI];exact VD.int_mk,fun w=>by simp[Sem.run_bind,l,binOp,Op.shift,g,aty]⟩
   case shr=>
    obtain⟨g,h⟩:=fK h;have g: ¬b<0:=by simpa [leI] using g
    exact⟨_,_,h,by simp only[bI];exact VD.int_mk,fun w=>by simp[Sem.run_bind,l,binOp,Op.shift,g,adu]⟩
  .have l: ∀w,(eqGuard f t ox oy (.int k a) (.int U b)).run P w=.ok () w:=fun w=>lg f t ox oy _ _ w rfl (by simp);split at h
   .obtain⟨g,h⟩:=fK h;have g: ¬b<0:=by simpa [leI] using g
    exact⟨_,_,h,by simp only[bI];exact VD.int_mk,fun w=>by simp[Sem.run_bind,l,binOp,Op.shift,g,aty]⟩
   .obtain⟨g,h⟩:=fK h;have g: ¬b<0:=by simpa [leI] using g
    exact⟨_,_,h,by simp only[bI];exact VD.int_mk,fun w=>by simp[Sem.run_bind,l,binOp,Op.shift,g,adu]⟩
   .cases h
 .
  rename_i a b
  simp only[bI]at hx i;obtain rfl:=hx.bool_inv;obtain rfl:=i.bool_inv;replace h:=di h;obtain⟨hk,h⟩:=h;have l: ∀w,(eqGuard f t ox oy (.bool a) (.bool b)).run P w=.ok () w:=fun w=>lg f t ox oy _ _ w rfl (by simp);have v:(T.at t).k=.bool->P.underlying t=a6 .bool:=fun e=>by
   obtain⟨d,o,p⟩:=hT.und hk;rw[e]at p;cases d<;>simp[jU]at p;exact o
  split at h
  .rename_i e
   have o:=v e;exact⟨_,_,h,by simp only[bI];exact VD.bool_mk,fun w=>by simp_all [binOp,Op.equal,Op.maxDepth,run_equalIn_bool]⟩
  .rename_i e
   have o:=v e;exact⟨_,_,h,by simp only[bI];exact VD.bool_mk,fun w=>by simp_all [binOp,Op.equal,Op.maxDepth,run_equalIn_bool]⟩
  .cases h
 .
  rename_i a b
  simp only[bI]at hx i;obtain rfl:=hx.str_inv;obtain rfl:=i.str_inv;have l: ∀w,(eqGuard f t ox oy (.string ⟨a.toArray⟩) (.string ⟨b.toArray⟩)).run P w=.ok () w:=fun w=>lg f t ox oy _ _ w rfl (by simp);have A:binOp f t (.string ⟨a.toArray⟩) (.string ⟨b.toArray⟩)=Op.stringOp f ⟨a.toArray⟩ ⟨b.toArray⟩:=by cases f<;>rfl
  have Y:(f=.eql\/f=.neq\/f=.lss\/f=.leq\/f=.gtr\/f=.geq)->K (Ua f a b)=a6 r->
    ∃z u,K z=a6 r/\bI c z u/\ ∀w,(do eqGuard f t ox oy (.string ⟨a.toArray⟩) (.string ⟨b.toArray⟩);binOp f t (.string ⟨a.toArray⟩) (.string ⟨b.toArray⟩):Sem Value).run P w=.ok u w:=fun V Z=>by
   obtain⟨u,g,N⟩:=X8 (P:=P) (c:=c) default f a b V
   grind [Sem.run_bind,Result.andThen_ok]
  cases f<;>simp only[reduceCtorEq]at h
  case add=>
   replace h:=fK h;obtain⟨g,h⟩:=h;refine⟨_,_,h,by simp only[bI];exact VD.str_mk,fun w=> ?_⟩;have g:a.length+b.length<=kF:=by simpa using g
   have N: ¬((a.length:Int)+(b.length:Int)>IntKind.i64.max):=by
    grind [IntKind.max,IntKind.bits,kF]
   have o:(⟨a.toArray⟩:ByteArray)++⟨b.toArray⟩=⟨(a++b).toArray⟩:=by
    rfl
   simp_all [ByteArray.size,Op.stringOp]
  all_goals simp_all
 .
  rename_i e xs b
  simp only[bI]at hx i;obtain⟨ab,s,n,m,rfl,rfl⟩:=hx;subst i;replace h:=di h;obtain⟨hk,h⟩:=h;have l: ∀w,(eqGuard f t ox oy (.slice s n m) (.slice a7 0 0)).run P w=.ok () w:=fun w=>lg f t ox oy _ _ w rfl (by simp);have v: ∀j,(T.at t).k=.slice j->P.underlying t=a6 (.slice j):=fun j e=>by
   obtain⟨d,o,p⟩:=hT.und hk;rw[e]at p;cases d<;>simp[jU]at p;rw[o,p]
  have q: ∀j,(T.at t).k=.slice j-> ∀w,(Op.equal t (.slice s n m) (.slice a7 0 0)).run P w=.ok s.isNone w:=fun j e w=>by
   have o:=v j e;show(Op.equalIn (9999+1) t (.slice s n m) (.slice a7 0 0)).run P w=_;unfold Op.equalIn;rw[Sem.run_bind,run_underlying o,Result.andThen_ok];cases s<;>rfl
  split at h
  .rename_i j e
   exact⟨_,_,h,by simp only[bI];exact VD.bool_mk,fun w=>by simp_all [binOp]⟩
  .rename_i j e
   exact⟨_,_,h,by simp only[bI];exact VD.bool_mk,fun w=>by simp_all [binOp]⟩
  .cases h
 .
  rename_i h0 g N O
  cases q:T.eqOk 6 t
  .simp_all
  rw[q]at h;simp only[ak,ac]at h;split at h
  .rename_i fs G S I
   have W:(T.at t).isAgg=true:=by simp[TI.isAgg,S]
   have hk:(T.at t).known=true:=by simp_all [TT.eqOk]
   have B:G.isAgg=true:=by rw[hT.ty_agg hk I,W]
   have ad:P.eqGuardType P.depth t=false:=by
    simp only[TT.eqOk,ae,S]at q;exact((hT t hk).2.2.2.2.2.1 q.2.1).1
   split at h
   .rename_i a b J A
    obtain⟨cs,rfl,L⟩:=Ce J B hx;obtain⟨X,rfl,M⟩:=Ce A B i;refine⟨_,_,h,by simp only[bI];exact VD.bool_mk,fun w=> ?_⟩;have O:=yT (P:=P) hT 6 t q G I a b _ _ L M w 10000 (by omega);simp_all [valOf,run_eqGuard_agg,run_eql_struct]
   .rename_i a b J A
    obtain⟨cs,rfl,L⟩:=Ce J B hx;obtain⟨X,rfl,M⟩:=Ce A B i;refine⟨_,_,h,by simp only[bI];exact VD.bool_mk,fun w=> ?_⟩;have O:=yT (P:=P) hT 6 t q G I a b _ _ L M w 10000 (by omega);simp_all [valOf,run_eqGuard_agg,run_neq_struct]
   .cases h
  .cases h
theorem aok {W0:World} (hT:TOk P T) (G:c.Ok W0) {i:BinOp} {ox oy:Operand} {x y:bH} {o q:Value} {K:bH->Option R} (h:NG T c.hp i t x y K=a6 r) (hx:bI c x o) (l:bI c y q):
  ∃z u,K z=a6 r/\bI c z u/\ ∀w,(do eqGuard i t ox oy o q;binOp i t o q:Sem Value).run P w=.ok u w:=by
 unfold NG at h;rw[cond_eq_ite]at h;split at h
 .rename_i f
  unfold ao7 at f;split at f
  .split at f
   .split at f
    .rename_i id W I J L e v X D
     simp only[ae,beq_iff_eq,KZ,decide_eq_true_eq]at f;obtain⟨rfl,Y⟩:=f;simp only[bI]at hx l;subst l;have M:=(hx.2.2 _ _ _ D).2 rfl;obtain⟨_,Z,zs,N,_,_⟩:=G.obj id _ D;obtain⟨s,n,m,rfl⟩: ∃a n m,o=.slice (a6 a) n m:=by
      rcases N.2 with ⟨_,h0⟩|⟨g,ab,ad,E,_⟩
      .omega
      .cases I with
       |none=>simp_all [iJ]
       |some O=>
        obtain⟨lo,hi⟩:=O;simp only[iJ]at M
        grind
     obtain⟨hk,h⟩:=di h;have S: ∀w,(eqGuard i t ox oy (.slice (a6 s) n m) (.slice a7 0 0)).run P w=.ok () w:=fun w=>lg i t ox oy _ _ w rfl (by simp);have U: ∀j,(T.at t).k=.slice j-> ∀w,(Op.equal t (.slice (a6 s) n m) (.slice a7 0 0)).run P w=.ok false w:=fun j e w=>by
      have p:P.underlying t=a6 (.slice j):=by
       obtain⟨d,p,A⟩:=hT.und hk;rw[e]at A;cases d<;>simp[jU]at A;rw[p,A]
      show(Op.equalIn (9999+1) t (.slice (a6 s) n m) (.slice a7 0 0)).run P w=_;unfold Op.equalIn;rw[Sem.run_bind,run_underlying p,Result.andThen_ok];rfl
     split at h
     .exact⟨_,_,h,by simp only[bI];exact VD.bool_mk,fun w=>by simp_all [binOp]⟩
     .exact⟨_,_,h,by simp only[bI];exact VD.bool_mk,fun w=>by simp_all [binOp]⟩
     .cases h
    .cases f
   .cases f
  .cases f
 .rw[cond_eq_ite]at h;split at h
  .rename_i f
   unfold aoi at f;split at f
   .split at f
    .split at f
     .rename_i id B y0 J L bt cs V
      simp only[bI]at hx l;subst l;have E:=hx.2.2 _ _ V;subst E;obtain⟨hk,h⟩:=di h;have S: ∀w,(eqGuard i t ox oy (.pointer (a6 ⟨(c.mu id).blk,B,a7⟩)) (.pointer a7)).run P w=.ok () w:=fun w=>lg i t ox oy _ _ w rfl (by simp);have U: ∀j,(T.at t).k=.ptr j-> ∀w,(Op.equal t (.pointer (a6 ⟨(c.mu id).blk,B,a7⟩)) (.pointer a7)).run P w=.ok false w:=fun j e w=>by
       have p:=hT.ptr hk e;show(Op.equalIn (9999+1) t (.pointer (a6 ⟨(c.mu id).blk,B,a7⟩)) (.pointer a7)).run P w=_;unfold Op.equalIn;simp_all [run_underlying]
      split at h
      .exact⟨_,_,h,by simp only[bI];exact VD.bool_mk,fun w=>by simp_all [binOp]⟩
      .exact⟨_,_,h,by simp only[bI];exact VD.bool_mk,fun w=>by simp_all [binOp]⟩
      .cases h
     .cases f
    .cases f
   .cases f
  .exact aBZ hT h hx l
theorem aB0 {d:UnOp} {x:bH} {v:Value} {K:bH->Option R} (h:alJ d x K=a6 r) (hx:bI c x v):
  ∃z u,K z=a6 r/\bI c z u/\ ∀w,(Op.unary d v).run P w=.ok u w:=by
 unfold alJ at h;split at h
 .simp only[bI]at hx;obtain rfl:=hx.bool_inv;exact⟨_,_,h,by simp only[bI];exact VD.bool_mk,fun w=>rfl⟩
 .simp only[bI]at hx;obtain rfl:=hx.int_inv;exact⟨_,_,h,by simp only[bI];exact VD.int_mk,fun w=>by rfl⟩
 .cases h
end
end
section
open Option renaming some → a6, none → a7
open Bool renaming and_eq_true → ae, false_eq_true → ah
open Nat renaming le_refl → af
open Go.RowKit
section
variable {P:Program} {T:TT} {W0:World} {c:Cx} {R:Type} {r:R} {t:TypeId}
theorem pJ {v:bH} {n:Int} (h:intOf v=a6 n) {u:Value} (d:bI c v u): ∃k,u=.int k n:=by
 cases v with
 |val t x=>
  cases t<;>simp only[intOf,reduceCtorEq]at h;cases h;simp only[bI]at d;exact⟨_,d.int_inv⟩
 |_=>simp[intOf]at h
def kM (c:Cx):Option bH->Option Value->Prop
 |none,a7=>True
 |some v,a6 u=>bI c v u
 |_,_=>False
theorem kM.map {fr:List bH} {a:Act} (h:bC c fr a.tmps.toList) (x:Option Operand):kM c (x.map (gy fr)) (x.map a.eval):=by
 cases x with
 |none=>trivial
 |some x=>exact dH h x
theorem kM.none_inv {u:Option Value} (h:kM c a7 u):u=a7:=by
 cases u with
 |none=>rfl
 |some _=>exact h.elim
theorem l7 {d l:Int} {x:Option bH} {u:Option Value} (h:bound d x=a6 l) (e:kM c x u):(u=a7/\l=d)\/ ∃k,u=a6 (.int k l):=by
 cases x with
 |none=>
  cases u with
  |none=>simp only[bound,Option.some.injEq]at h;simp_all
  |some _=>exact e.elim
 |some x=>
  cases u with
  |none=>exact e.elim
  |some u=>
   obtain⟨k,rfl⟩:=pJ h e;simp
theorem nO {w:World} {isS:Bool} {n cap:Nat} {l h:Int} {lo hi:Option Value} (hl:(lo=a7/\l=0)\/ ∃k,lo=a6 (.int k l)) (d:(hi=a7/\h=(n:Int))\/ ∃k,hi=a6 (.int k h))
  (g:0<=l) (i:l<=h) (h2:h<=(n:Int)) (j:n<=cap):(Instr.sliceBounds isS n cap lo hi a7).run P w=.ok (l.toNat,h.toNat,cap) w:=by
 have e: ∀k code,(Instr.sliceBound (.int k h) cap code).run P w=.ok h.toNat w:=fun k code=>by
  simp only[Instr.sliceBound,asIntOf,Sem.run_bind,Sem.run_pure,Result.andThen_ok];rw[am ⟨by omega,by omega⟩];rfl
 have f: ∀k code,(Instr.sliceBound (.int k l) h.toNat code).run P w=.ok l.toNat w:=fun k code=>by
  simp only[Instr.sliceBound,asIntOf,Sem.run_bind,Sem.run_pure,Result.andThen_ok];rw[am ⟨by omega,by omega⟩];rfl
 rcases hl with ⟨rfl,rfl⟩|⟨k,rfl⟩<;>rcases d with ⟨rfl,rfl⟩|⟨m,rfl⟩<;>simp[Instr.sliceBounds,Sem.run_bind,e,f]
 simp_all
theorem Js {w:World} {n cap:Nat} {lo:Option Value} {q k:IntKind} (hl:(lo=a7/\(0:Int)=0)\/ ∃k,lo=a6 (.int k 0)):
  (Instr.sliceBounds true n cap lo (a6 (.int q 0)) (a6 (.int k 0))).run P w=.ok (0,0,0) w:=by
 have d: ∀k c code,(Instr.sliceBound (.int k 0) c code).run P w=.ok 0 w:=fun k c code=>by
  rfl
 rcases hl with ⟨rfl,_⟩|⟨e,rfl⟩<;>simp[Instr.sliceBounds,Sem.run_bind,d]
theorem Fz {n lo hi:Int} (h:eG n lo hi=true):0<=lo/\lo<=hi/\hi<=n:=by
 simp_all [eG]
theorem FX {d:Type} (l:List d) {lo hi:Int} (e:0<=lo) (h2:lo<=hi) (f:hi<=(l.length:Int)):(sub l lo hi).length=hi.toNat-lo.toNat:=by
 grind [sub]
theorem lX {e:Ty} {xs:List e.den} {v:Value} (h:VD c (.list e) xs v): ∃a n d,v=.slice a xs.length n/\xs.length<=n/\eY (dY c.w c.free e) e.size xs d/\(d=[]\/ ∃b off,a=a6 ⟨b,off,a7⟩/\c.free b/\gp c.w b off d):=by
 obtain⟨a,n,d,f,g,i,j⟩:=h.2 rfl
 grind
theorem VD.sub_list {e:Ty} {xs:List e.den} {a:Option Addr} {n:Nat} {d:List Value} (h2:xs.length<=n) (g:eY (dY c.w c.free e) e.size xs d) (f:d=[]\/ ∃b off,a=a6 ⟨b,off,a7⟩/\c.free b/\gp c.w b off d)
  {l h:Int} (i:0<=l) (j:l<=h) (m:h<=(xs.length:Int)):
  VD c (.list e) (sub xs l h) (.slice (if n=l.toNat then a else a.map (·.add (l.toNat*e.size))) (h.toNat-l.toNat) (n-l.toNat)):=by
 refine(VD.leaf rfl).2 ⟨_,_,(d.take (h.toNat*e.size)).drop (l.toNat*e.size),by rw[FX xs i j m],by grind [FX],eY.drop _ _ _ (eY.take _ _ _ g), ?_⟩;by_cases hn:n=l.toNat
 .grind
 .rw[ap hn];rcases f with f|⟨b,off,o,p,q⟩
  .left;rw[f];simp
  .right;refine⟨b,off+l.toNat*e.size,by rw[o];simp[jG],p, ?_⟩;have:=q.sub (l.toNat*e.size) (h.toNat*e.size-l.toNat*e.size)
   grind [List.drop_take]
theorem afZ (hT:TOk P T) (ab:c.Ok W0) {x:bH} {v:Value} {lo hi Y:Option bH} {Z O A:Option Value} {K:bH->Option R} (h:Gz T c.hp t x lo hi Y K=a6 r) (hx:bI c x v)
  (J:kM c lo Z) (G:kM c hi O) (I:kM c Y A): ∃z u,K z=a6 r/\bI c z u/\ ∀w,(Instr.sliceAt t v Z O A).run P w=.ok u w:=by
 unfold Gz at h;split at h
 .rename_i s
  split at h
  .rename_i l p f i
   replace h:=fK h;obtain⟨d,h⟩:=h;simp only[ae]at d;obtain⟨B,D,j⟩:=Fz d.2;simp only[bI]at hx;obtain rfl:=hx.str_inv;have E:A=a7:=kM.none_inv I;subst E;have m:=CS hT d.1;refine⟨_,.string ⟨(sub s l p).toArray⟩,h,by simp only[bI];exact VD.str_mk,fun w=> ?_⟩;have hs:(⟨s.toArray⟩:ByteArray).size=s.length:=by rfl
   have o:=nO (P:=P) (w:=w) (isS:=false) (cap:=s.length) (l7 f J) (l7 i G) B D j (af _);have he:(⟨s.toArray⟩:ByteArray).extract l.toNat p.toNat=⟨(sub s l p).toArray⟩:=by
    apply ByteArray.ext;simp_all [sub,List.drop_take]
   simp only[Instr.sliceAt,Instr.slice,Sem.run_bind,run_underlying m,Result.andThen_ok,Option.isSome_none,ah,if_false,hs,o,Sem.run_pure,he]
  .cases h
 .rename_i e y
  split at h
  .rename_i l p f i
   replace h:=fK h;obtain⟨d,h⟩:=h;simp only[ae]at d;obtain⟨B,D,j⟩:=Fz d.2;simp only[bD]at j;simp only[bI]at hx;obtain⟨a,n,zs,rfl,S,h3,h4⟩:=lX hx;have E:A=a7:=kM.none_inv I;subst E;obtain⟨U,m,hk,M,_,_⟩:=kP hT d.1;refine⟨_,_,h,by simp only[bI];exact VD.sub_list S h3 h4 B D j,fun w=> ?_⟩;have o:=nO (P:=P) (w:=w) (isS:=true) (n:=y.length) (cap:=n) (l7 f J) (l7 i G) B D j S;simp only[Instr.sliceAt,Instr.slice,Sem.run_bind,run_underlying m,Result.andThen_ok,o,hT.sizeOf hk w,Sem.run_pure,M]
  .cases h
 .rename_i e y mv
  split at h
  .rename_i l p k f i ad
   replace h:=fK h;obtain⟨d,h⟩:=h;simp only[ae,beq_iff_eq]at d;obtain⟨d,rfl,rfl,rfl⟩:=d;simp only[bI]at hx;obtain⟨a,n,zs,rfl,S,h3,h4⟩:=lX hx;obtain⟨U,m,hk,M,_,_⟩:=kP hT d;obtain⟨N,rfl,ag⟩:=Option.bind_eq_some_iff.1 i;cases hmx':A with
   |none=>simp_all [kM]
   |some m2=>
    rw[hmx']at I;cases hhi':O with
    |none=>simp_all [kM]
    |some ai=>
     rw[hhi']at G;obtain⟨q,rfl⟩:=pJ ag (show bI c N ai from G);obtain⟨k',rfl⟩:=pJ ad (show bI c mv m2 from I);refine⟨_,.slice a 0 0,h,by simp only[bI];exact⟨a,rfl⟩,fun w=> ?_⟩;have o:=Js (P:=P) (w:=w) (n:=y.length) (cap:=n) (q:=q) (k:=k') (l7 f J);simp only[Instr.sliceAt,Instr.slice,Sem.run_bind,run_underlying m,Result.andThen_ok,o,hT.sizeOf hk w,Sem.run_pure];simp
  .cases h
 .split at h
  .rename_i l p f i
   replace h:=fK h;obtain⟨d,h⟩:=h;simp only[ae,bJ,beq_iff_eq]at d;obtain⟨d,rfl,rfl⟩:=d;simp only[bI]at hx;subst hx;have E:A=a7:=kM.none_inv I;subst E;obtain⟨U,m,hk,M,_,_⟩:=kP hT d;refine⟨_,.slice a7 0 0,h,by simp only[bI],fun w=> ?_⟩;have o:=nO (P:=P) (w:=w) (isS:=true) (n:=0) (cap:=0) (l7 f J) (l7 i G) (Int.le_refl _) (Int.le_refl _) (Int.le_refl _) (af _);simp only[Instr.sliceAt,Instr.slice,Sem.run_bind,run_underlying m,Result.andThen_ok,o,hT.sizeOf hk w,Sem.run_pure];simp
  .cases h
 .rename_i id aj
  split at h
  .rename_i e u y V
   replace h:=di h;obtain⟨W,h⟩:=h;have W:u=aj:=by simpa using W
   subst W;split at h
   .rename_i l p f i
    replace h:=fK h;obtain⟨d,h⟩:=h;simp only[ae]at d;obtain⟨B,D,j⟩:=Fz d.2;simp only[bD]at j;simp only[bI]at hx;have X:=(hx.2.2 _ _ _ V).2 rfl;simp only[iJ]at X;have E:A=a7:=kM.none_inv I;subst E;obtain⟨U,m,hk,M,_,_⟩:=kP hT d.1;obtain⟨_,e',zs,ak,hL,al⟩:=ab.obj id _ V;obtain⟨a,n,N,hn⟩: ∃a n,(c.mu id).v=.slice a y.length n/\y.length<=n:=by
     rcases ak.2 with ⟨e1,e2⟩|⟨g,L,an,e1,_,_,e2,_⟩
     all_goals grind
    rw[N]at X;subst X;refine⟨_,.slice (if n=l.toNat then a else a.map (·.add (l.toNat*e.size))) (p.toNat-l.toNat) (n-l.toNat),h, ?_,fun w=> ?_⟩
    .simp only[bI];refine⟨rfl,hx.2.1,fun t' u' ao h'=> ?_⟩;rw[V]at h';cases h';exact⟨af _,fun _=>⟨a,y.length,n,N,B,D,j,rfl⟩⟩
    .have o:=nO (P:=P) (w:=w) (isS:=true) (n:=y.length) (cap:=n) (l7 f J) (l7 i G) B D j hn;simp only[Instr.sliceAt,Instr.slice,Sem.run_bind,run_underlying m,Result.andThen_ok,o,hT.sizeOf hk w,Sem.run_pure,M]
   .cases h
  .cases h
 .cases h
end
end
section
open Option renaming some → a6, none → a7
open Bool renaming and_eq_true → ae
open List renaming map_cons → aj, append_assoc → ax, drop_of_length_le → aB, length_cons → aJ, nil_append → aO, mem_of_mem_take → aW
open Option renaming map_some → aU
open Go.RowKit
section
variable {P:Program} {T:TT} {W0:World} {c:Cx} {R:Type} {r:R} {t:TypeId}
theorem NW {d:Type} {l:List d} {i:Int} (h:fV l i=true):0<=i/\i<(l.length:Int)/\i.toNat<l.length:=by
 simp_all [fV]
theorem arS {e:Type} {l:List e} {d:e} {i:Int} (h:i.toNat<l.length):gu l d i=l[i.toNat]:=by grind [gu]
theorem zL (hT:TOk P T) {e:TypeId} (d:P.underlying t=a6 (.slice e)) (hk:(T.at e).known=true) (w:World) (a:Addr) (n cp:Nat) (k:IntKind) (i:Int) (f:0<=i) (g:i<(n:Int)):
  (Instr.indexAt t (.slice (a6 a) n cp) (.int k i)).run P w=.ok (.pointer (a6 (a.add (i.toNat*(T.at e).size)))) w:=by
 simp only[Instr.indexAt,asIntOf,Sem.run_bind,Sem.run_pure,Result.andThen_ok,run_underlying d];rw[am ⟨f,g⟩];simp[Sem.run_bind,hT.sizeOf hk w]
theorem KI (hT:TOk P T) (S:c.Ok W0) {x i:bH} {v G:Value} {K:bH->Option R} (h:qQ T c.hp t x i K=a6 r) (hx:bI c x v) (hi:bI c i G):
  ∃z u,K z=a6 r/\bI c z u/\ ∀w,(Instr.indexAt t v G).run P w=.ok u w:=by
 unfold qQ at h;split at h
 .cases h
 rename_i n U
 obtain⟨k,rfl⟩:=pJ U hi;split at h
 .rename_i e I
  replace h:=fK h;obtain⟨f,h⟩:=h;simp only[ae]at f;obtain⟨q,s,y⟩:=NW f.2;simp only[bI]at hx;obtain⟨a,cp,A,rfl,h2,V,B⟩:=lX hx;obtain⟨J,l,hk,o,L,_⟩:=kP hT f.1;obtain⟨d,d1,W,l1,l2,d3,d4⟩:=eY.at_ n.toNat I A y V;have X:A≠[]:=by
   intro e0;simp_all
  rcases B with B|⟨b,Y,Z,h6,h7⟩
  .exact absurd B X
  .refine⟨_,.pointer (a6 ⟨b,Y+n.toNat*e.size,a7⟩),h, ?_,fun w=> ?_⟩
   .simp only[bI];refine⟨b,_,d,rfl,h6, ?_,by rw[arS y];exact W⟩;simp_all [gp.append]
   .rw[Z,zL hT l hk w _ _ _ _ _ q s,o,jG]
 .rename_i id ab vw
  split at h
  .rename_i e u I M
   replace h:=di h;obtain⟨D,h⟩:=h;have D:u=ab:=by simpa using D
   subst D;simp only[bI]at hx;have j:=(hx.2.2 _ _ _ M).2 rfl;obtain⟨_,e',A,N,hL,ah⟩:=S.obj id _ M;split at h
   .replace h:=fK h;obtain⟨f,h⟩:=h;simp only[ae]at f;obtain⟨q,s,y⟩:=NW f.2;obtain⟨J,l,hk,o,L,_⟩:=kP hT f.1;simp only[iJ]at j;rcases N.2 with ⟨p,E⟩|⟨g,ad,af,p,_,_,E,_⟩
    .omega
    .rw[p]at j;subst j;refine⟨_,.pointer (a6 ⟨g,n.toNat*e.size,a7⟩),h, ?_,fun w=> ?_⟩
     .simp only[bI];refine⟨rfl,hx.2.1,fun t' u' ag h'=> ?_⟩;simp_all
     .rw[zL hT l hk w _ _ _ _ _ q s,o,jG,Nat.zero_add]
   .rename_i lo ai
    replace h:=fK h;obtain⟨f,h⟩:=h;simp only[ae,decide_eq_true_eq,gJ]at f;obtain⟨J,l,hk,o,L,_⟩:=kP hT f.1;simp only[iJ]at j;obtain⟨a,m,cp,O,q1,q2,q3,j⟩:=j;rcases N.2 with ⟨p,E⟩|⟨g,ad,af,p,_,_,E,_⟩
    .grind
    .rw[p]at O;cases O;rw[ap (by omega)]at j;subst j;refine⟨_,.pointer (a6 ⟨g,(lo+n).toNat*e.size,a7⟩),h, ?_,fun w=> ?_⟩
     .simp only[bI];refine⟨rfl,hx.2.1,fun t' u' ag h'=> ?_⟩;simp_all
     .simp only[aU];rw[zL hT l hk w _ _ _ _ _ f.2.1 (by omega),o,jG,jG,Nat.zero_add,<-Nat.add_mul]
      grind
  .cases h
 .cases h
theorem afY (hT:TOk P T) {i:bH} {s:List UInt8} {n:Int} {v d:Value} (hx:bI c (.val .str s) v) (hi:bI c i d) (e:intOf i=a6 n) (h:(T.isStr t&&fV s n)=true):
  bI c (.val (.int .u8) (bK s n)) (.int .u8 (bK s n))/\ ∀w,(Instr.index t v d).run P w=.ok (.int .u8 (bK s n)) w:=by
 simp only[ae]at h;obtain⟨f,l,m⟩:=NW h.2;simp only[bI]at hx;obtain rfl:=hx.str_inv;obtain⟨k,rfl⟩:=pJ e hi;have g:=CS hT h.1;refine⟨by simp only[bI];exact VD.int_mk,fun w=> ?_⟩;have j:(⟨s.toArray⟩:ByteArray)[n.toNat]? =a6 s[n.toNat]:=by
  have:n.toNat<(⟨s.toArray⟩:ByteArray).size:=by assumption
  rw[getElem?_pos (⟨s.toArray⟩:ByteArray) n.toNat this];rfl
 simp only[Instr.index,asIntOf,Sem.run_bind,Sem.run_pure,Result.andThen_ok,run_underlying g,am f,j]
 grind [bK]
theorem yU (hT:TOk P T) {f off:Nat} {d:TypeId} (h:T.fieldAt t f=a6 (off,d)): ∃e g i,(T.at t).k=.struct e/\e[f]? =a6 (off,d)/\(T.at t).known=true/\(T.at d).known=true/\0<(T.at d).size/\
  P.underlying t=a6 (.struct g)/\g[f]? =a6 i/\i.offset=off/\i.type=d:=by
 unfold TT.fieldAt at h;split at h
 .rename_i e j
  replace h:=di h;obtain⟨hk,h⟩:=h;split at h
  .rename_i o p q
   replace h:=di h;obtain⟨l,m⟩:=h;cases m;simp only[ae,KZ,decide_eq_true_eq]at l;obtain⟨g,s,u⟩:=hT.struct hk j
   grind
  .cases h
 .cases h
theorem II (hT:TOk P T): ∀(j:List (Nat×TypeId)) (o:Nat) (y:Ty),ji T o j=a6 y-> ∀(f off:Nat) (e:TypeId),j[f]? =a6 (off,e)-> ∀(x:y.den) (cs:List Value),dY c.w c.free y x cs->
  ∃(a:Ty) (z:a.den) (g i p:List Value),Uw y x f=.val a z/\NI y x f=.cellp a z/\(T.at e).ty=a6 a/\a.size=(T.at e).size/\cs=g++i++p/\o+g.length=off/\dY c.w c.free a z i
 |[],_,_,_,f,_,_,h,_,_,_=>by simp at h
 |(O,S)::j,o,y,d,f,off,e,l,x,cs,hd=>by
  simp only[ji]at d;split at d
  .rename_i U
   split at d
   .rename_i a q
    split at d
    .rename_i s
     split at d
     .rename_i b u
      cases d;obtain⟨g,i,m,v,A⟩:=hd;cases f with
      |zero=>
       simp only[List.getElem?_cons_zero,Option.some.injEq,Prod.mk.injEq]at l;obtain⟨rfl,rfl⟩:=l;exact⟨a,x.1,[],g,i,rfl,rfl,q,s.1,by simpa using m,by simp;omega,v⟩
      |succ f=>
       simp only[List.getElem?_cons_succ]at l;obtain⟨B,z,D,E,G,I,J,K,L,M,V,N⟩:=II hT j (o+a.size) b u f off e l x.2 i A;refine⟨B,z,g++D,E,G,I,J,K,L,by rw[m,M];simp, ?_,N⟩
       grind [dY.length]
     .cases d
    .cases d
   .cases d
  .cases d
theorem zK (hT:TOk P T) {f off:Nat} {e:TypeId} (h:T.fieldAt t f=a6 (off,e)) (w:World) (b o:Nat):
  (Instr.fieldAt t (.pointer (a6 ⟨b,o,a7⟩)) f).run P w=.ok (.pointer (a6 ⟨b,o+off,a7⟩)) w:=by
 obtain⟨q,s,g,u,v,hk,i,x,j,l,m,d⟩:=yU hT h;have p:=hT.sizeOf (t:=g.type) (by rw[d];exact i) w;simp only[Instr.fieldAt,Sem.run_bind,run_underlying j,Result.andThen_ok,l,Instr.sureAddr,Sem.run_pure,fieldPlace,p,Sem.run_ite];rw[ap (by rw[d];omega)];simp[jG,m]
theorem TF (hT:TOk P T) (hk:(T.at t).known=true) {e:List (Nat×TypeId)} (f:(T.at t).k=.struct e) {y:Ty} (g:(T.at t).ty=a6 y):ji T 0 e=a6 y:=by
 rcases(hT t hk).2.2.1 with d|d
 .simp_all
 .rw[g,f]at d;exact d.symm
theorem KH (hT:TOk P T) {x:bH} {f:Nat} {v:Value} {K:bH->Option R} (h:qP T c.hp t x f K=a6 r) (hx:bI c x v):
  ∃z u,K z=a6 r/\bI c z u/\ ∀w,(Instr.fieldAt t v f).run P w=.ok u w:=by
 unfold qP at h;split at h
 .rename_i d s j
  obtain⟨A,N,O,B,D,hk,S,U,V,W,X,Y⟩:=yU hT j;split at h
  .rename_i u y
   split at h
   .rename_i E G
    split at h
    .rename_i z l
     have e:=gI l;subst e;rw[fF]at l;cases l;simp only[bI]at hx;obtain⟨b,o,Z,rfl,hb,p,hd⟩:=hx;obtain⟨a,z,l1,l2,l3,g1,g2,g3,g4,g5,g6,g7⟩:=II hT A 0 u (TF hT hk B G) f d s D _ _ hd;refine⟨_,.pointer (a6 ⟨b,o+d,a7⟩),h, ?_,fun w=>zK hT j w b o⟩;rw[g2];simp only[bI];rw[g5,ax]at p;have:=(gp.append.1 (gp.append.1 p).2).1
     grind
    .cases h
   .cases h
  .rename_i id o
   split at h
   .rename_i bt cs I
    simp only[bI]at hx;have q:=hx.2.2 _ _ I;subst q;refine⟨_,.pointer (a6 ⟨(c.mu id).blk,o+d,a7⟩),h, ?_,fun w=>zK hT j w _ o⟩;simp only[bI];exact⟨rfl,hx.2.1,fun _ _ _=>trivial⟩
   .cases h
  .rename_i id J i o
   split at h
   .rename_i e u xs L
    replace h:=di h;obtain⟨m,h⟩:=h;have m:u=J:=by simpa using m
    subst m;simp only[bI]at hx;obtain⟨g,n,cp,q,M⟩:=(hx.2.2 _ _ _ L).2 rfl;subst M;refine⟨_,.pointer (a6 ⟨g,i*e.size+o+d,a7⟩),h, ?_,fun w=>zK hT j w _ _⟩;simp only[bI];refine⟨rfl,hx.2.1,fun t' E ab h'=> ?_⟩
    grind
   .cases h
  .cases h
 .cases h
theorem afX (hT:TOk P T) {x:bH} {f:Nat} {v:Value} {K:bH->Option R} (h:Gx T t x f K=a6 r) (hx:bI c x v):
  ∃z u,K z=a6 r/\bI c z u/\ ∀w,(Instr.field t v f).run P w=.ok u w:=by
 unfold Gx at h;split at h
 .rename_i g d G
  obtain⟨I,W,o,p,J,hk,i,X,j,L,Y,M⟩:=yU hT G;have N:(T.at t).isAgg=true:=by simp[TI.isAgg,p]
  split at h
  .rename_i u y
   split at h
   .rename_i Z q
    split at h
    .rename_i z m
     have e:=gI m;subst e;rw[fF]at m;cases m;simp only[bI]at hx;have s:=hT.ty_agg hk q;rw[N]at s;obtain⟨cs,rfl,hd⟩:=(VD.agg s).1 hx;obtain⟨a,z,l1,O,l3,g1,g2,g3,g4,g5,g6,S⟩:=II hT I 0 u (TF hT hk p q) f g d J _ _ hd;refine⟨_,valOf (T.at d).isAgg O,h, ?_,fun w=> ?_⟩
     .grind [bI,aaF]
     .have ab:=dY.length _ _ _ S;have A:g+(T.at d).size<=cs.size:=by
       have:=congrArg List.length g5;simp at this;omega
      have B:=Hw (P:=P) hT (t:=o.type) (by rw[M];exact i) w cs o.offset (by simp_all);simp only[Instr.field,Sem.run_bind,run_underlying j,Result.andThen_ok,L,asAgg,Sem.run_pure,B];simp_all
    .cases h
   .cases h
  .rename_i l
   split at h
   .rename_i ad U
    obtain⟨q1,rfl⟩:=yP U;simp only[bI]at hx;obtain⟨D,rfl,E,V⟩:=hx;have A:=bC.length _ _ E;simp at A;refine⟨_,valOf (T.at d).isAgg ((D.toList.drop g).take (T.at d).size),h,Ho hT i (bC.take _ _ _ (bC.drop _ _ _ E)) (fun u j=>V u (List.mem_of_mem_drop (aW j))),fun w=> ?_⟩;have B:=Hw (P:=P) hT i w D g (by omega);simp_all [Instr.field,run_underlying,asAgg]
   .cases h
  .cases h
 .cases h
theorem q_len (hT:TOk P T) (A:c.Ok W0) {x:bH} {v:Value} {K:bH->Option R} (h:YP T c.hp t x K=a6 r) (hx:bI c x v) {ty:TypeId}:
  ∃z u,K z=a6 r/\bI c z u/\ ∀w,(Builtin.len_ #[t] ty #[v]).run P w=.ok u w:=by
 unfold YP at h;split at h
 .rename_i s
  replace h:=fK h;obtain⟨f,h⟩:=h;simp only[bI]at hx;obtain rfl:=hx.str_inv;have d:=CS hT f;refine⟨_,_,h,by simp only[bI];exact VD.int_mk,fun w=> ?_⟩;simp only[Builtin.len_,List.getElem?_toArray,List.getElem?_cons_zero,Sem.run_bind,run_underlying d,Result.andThen_ok,Sem.run_pure,goInt];congr 2
 .rename_i e j
  replace h:=fK h;obtain⟨f,h⟩:=h;simp only[bI]at hx;obtain⟨a,cp,B,rfl,L,M,N⟩:=lX hx;obtain⟨o,d,hk,p,q,_⟩:=kP hT f;exact⟨_,_,h,by simp only[bI];exact VD.int_mk,fun w=>by simp[Builtin.len_,run_underlying d,goInt,bD]⟩
 .replace h:=fK h;obtain⟨f,h⟩:=h;simp only[bI]at hx;subst hx;obtain⟨o,d,hk,p,q,_⟩:=kP hT f;exact⟨_,_,h,by simp only[bI];exact VD.int_mk,fun w=>by simp[Builtin.len_,run_underlying d,goInt]⟩
 .rename_i id D O
  split at h
  .rename_i e u j y
   replace h:=di h;obtain⟨l,h⟩:=h;have l:u=D:=by simpa using l
   subst l;replace h:=fK h;obtain⟨f,h⟩:=h;obtain⟨o,d,hk,p,q,_⟩:=kP hT f;simp only[bI]at hx;have i:=(hx.2.2 _ _ _ y).2 rfl;obtain⟨_,S,B,E,U,V⟩:=A.obj id _ y;obtain⟨a,n,G,W⟩: ∃a n,(c.mu id).v=.slice a j.length n/\j.length<=n:=by
    rcases E.2 with ⟨I,J⟩|⟨g,X,Y,I,_,_,J,_⟩
    all_goals grind
   split at h
   .simp only[iJ]at i;rw[G]at i;subst i;exact⟨_,_,h,by simp only[bI];exact VD.int_mk,fun w=>by simp[Builtin.len_,run_underlying d,goInt,bD]⟩
   .rename_i lo Z
    simp only[iJ]at i;obtain⟨a',m,cp,ab,q1,q2,q3,i⟩:=i;subst i;refine⟨_,_,h,by simp only[bI];exact VD.int_mk,fun w=> ?_⟩;simp only[Builtin.len_,List.getElem?_toArray,List.getElem?_cons_zero,Sem.run_bind,run_underlying d,Result.andThen_ok,Sem.run_pure,goInt]
    grind
  .cases h
 .cases h
theorem qI {k:IntKind}: ∀(l:List bH) (e:List Int) (us:List Value),yI k l=a6 e->bC c l us->us=e.map (.int k)
 |[],e,us,h,d=>by
  grind [yI,bC]
 |v::l,e,us,h,d=>by
  cases us with
  |nil=>simp[bC]at d
  |cons u us=>
   simp only[bC]at d;cases v with
   |val t x=>
    cases t<;>simp only[yI,reduceCtorEq]at h
    rename_i i
    split at h
    .rename_i hk
     subst hk;split at h
     .rename_i m g
      cases h;have f:=d.1;simp only[bI]at f;rw[f.int_inv,qI l m us g d.2];rfl
     .cases h
    .cases h
   |_=>simp[yI]at h
theorem Pj (w:World) (k:IntKind): ∀(d:List Int) (a:Int),((d.map (Value.int k)).foldlM Builtin.min2 (.int k a)).run P w=.ok (.int k (d.foldl E8 a)) w
 |[],a=>rfl
 |n::d,a=>by
  simp only[aj,List.foldlM_cons,List.foldl_cons,Sem.run_bind,Builtin.min2,Sem.run_pure,Result.andThen_ok];exact Pj w k d (E8 a n)
theorem Pi (w:World) (k:IntKind): ∀(d:List Int) (a:Int),((d.map (Value.int k)).foldlM Builtin.max2 (.int k a)).run P w=.ok (.int k (d.foldl zu a)) w
 |[],a=>rfl
 |n::d,a=>by
  simp only[aj,List.foldlM_cons,List.foldl_cons,Sem.run_bind,Builtin.max2,Sem.run_pure,Result.andThen_ok];exact Pi w k d (zu a n)
theorem Y1 (off:Nat): ∀(us:List Value) (k:Nat) (d:List Value),off+k+us.length<=d.length->
  (us.zipIdx k).foldl (fun cs p=>Array.setIfInBounds cs (off+p.2) p.1) d.toArray=(d.take (off+k)++us++d.drop (off+k+us.length)).toArray
 |[],k,d,h=>by simp
 |u::us,k,d,h=>by
  simp only[aJ]at h;have e:=Y1 off us (k+1) (d.set (off+k) u) (by simp;omega);simp only[List.zipIdx_cons,List.foldl_cons];rw[show Array.setIfInBounds d.toArray (off+k) u=(d.set (off+k) u).toArray by simp,e];congr 1;have f:off+k<d.length:=by omega
  rw[List.set_eq_take_append_cons_drop,am f];have g: ∀(A B:List Value) (n m:Nat),A.length=n->(A++u::B).take (n+1)=A++[u]/\(A++u::B).drop (n+1+m)=B.drop m:=by
   intro A B n m i;constructor
   .grind
   .rw[List.drop_append,aB (by omega),i,aO,show n+1+m-n=m+1 by omega];rfl
  obtain⟨j,l⟩:=g (d.take (off+k)) (d.drop (off+k+1)) (off+k) us.length (by simp;omega);rw[show off+(k+1)=off+k+1 by omega,j,l];simp;congr 1;omega
theorem GU (off:Nat) (us:Array Value) (d:List Value) (h:off+us.size<=d.length):
  us.zipIdx.foldl (fun cs p=>Array.setIfInBounds cs (off+p.2) p.1) d.toArray=(d.take off++us.toList++d.drop (off+us.size)).toArray:=by
 rw[<-Array.foldl_toList,Array.toList_zipIdx];simp_all [Y1]
theorem YQ (hT:TOk P T) {s:List (Nat×TypeId)} {place:Nat->Option (Nat×Nat)} (hp: ∀i off p,s[i]? =a6 (off,p)->(T.at p).known=true->place i=a6 (off,(T.at p).size)):
  ∀(j:List (Nat×bH)) (us:List (Nat×Value)) (cs l:List bH) (d:List Value),Gw T s cs j=a6 l->bC c cs d->(∀u∈d,u.oneCell'=true)->
   us.map (·.1)=j.map (·.1)->bC c (j.map (·.2)) (us.map (·.2))-> ∃m,Instr.fill place d.toArray us=a6 m.toArray/\bC c l m/\ ∀u∈m,u.oneCell'=true
 |[],us,cs,l,d,h,o,y,e,_=>by
  simp only[Gw,Option.some.injEq]at h;subst h;cases us with
  |nil=>exact⟨d,rfl,o,y⟩
  |cons=>simp at e
 |(i,v)::j,us,cs,l,d,h,o,y,e,q=>by
  cases us with
  |nil=>simp at e
  |cons u us=>
   obtain⟨K,u⟩:=u;simp only[aj,List.cons.injEq]at e;obtain⟨rfl,e⟩:=e;simp only[aj,bC]at q;simp only[Gw]at h;split at h
   .rename_i off p f B D
    replace h:=di h;obtain⟨hk,h⟩:=h;simp only[ae,beq_iff_eq]at hk;split at h
    .rename_i L g
     have E:=hp _ _ _ B hk.1;obtain⟨z,M⟩:=Iw D q.1;have G:=bC.length _ _ z;have N:=bC.length _ _ o;unfold putCells at g;replace g:=di g;obtain⟨A,g⟩:=g;have A:off+f.length<=cs.length:=by simpa using A
     cases g;have O:u.cells.size=f.length:=by simpa using G.symm
     have I:bC c (cs.take off++f++cs.drop (off+f.length)) (d.take off++u.cells.toList++d.drop (off+f.length)):=
      bC.append _ _ _ _ (bC.append _ _ _ _ (bC.take _ _ _ o) z) (bC.drop _ _ _ o)
     have J: ∀x∈d.take off++u.cells.toList++d.drop (off+f.length),x.oneCell'=true:=by
      grind
     obtain⟨m,g1,g2,g3⟩:=YQ hT hp j us _ l _ h I J e q.2;refine⟨m, ?_,g2,g3⟩;rw[<-g1];simp only[Instr.fill,E];rw[ap (by grind)]
     grind [GU]
    .cases h
   .cases h
end
end
section
open Option renaming some → a6, none → a7
open Bool renaming and_eq_true → ae, false_eq_true → ah, not_true → ak
open List renaming map_cons → aj, nil_append → aO
open Option renaming map_some → aU
open Go.RowKit
section
variable {P:Program} {T:TT} {W0:World} {c:Cx} {R:Type} {r:R} {t:TypeId}
theorem bC.map_eval {fr:List bH} {a:Act} (h:bC c fr a.tmps.toList): ∀(xs:List Operand),bC c (xs.map (gy fr)) (xs.map a.eval)
 |[]=>by simp[bC]
 |x::xs=>by simp only[aj,bC];exact⟨dH h x,bC.map_eval h xs⟩
theorem Dw {w:World} {B:Nat} {e:TypeId} {size n:Nat} {v:Value} {d:List Value} (h:w.ownsRow B e size v n d): ∃a cp,v=.slice a n cp/\n<=cp/\(d=[]\/ ∃g,a=a6 ⟨g,0,a7⟩/\g<w.heap.size/\B<=g/\gp w g 0 d):=by
 rcases h.2 with ⟨f,i⟩|⟨g,l,o,f,i,j,m,p,q,s⟩
 .refine⟨a7,0,by rw[f,i],by omega,.inl ?_⟩;have:=h.1;simp_all
 .refine⟨_,l,f,m,.inr ⟨g,rfl,(Array.getElem?_eq_some_iff.1 j).1,i, ?_⟩⟩;have:=(gp.of_block_cells j).sub 0 (n*size);simp_all
theorem o5 {w:World} {B:Nat} {e:TypeId} {size n:Nat} {v:Value} {d:List Value} (h:w.ownsRow B e size v n d): ∃a cp,v=.slice a n cp/\n<=cp/\(d=[]\/ ∃g,a=a6 ⟨g,0,a7⟩/\g<w.heap.size/\gp w g 0 d):=by
 grind [Dw]
theorem PH (y:c.Ok W0) {x:bH} {e:Ty} {A:List e.den} {u:Value} (h:x.as c.hp (.list e)=a6 A) (hx:bI c x u):
  ∃a cp d,u=.slice a A.length cp/\eY (dY c.w c.free e) e.size A d/\(d=[]\/ ∃b off,a=a6 ⟨b,off,a7⟩/\b<c.w.heap.size/\ ¬c.bar b/\gp c.w b off d):=by
 cases x with
 |val J z=>
  simp only[bH.as]at h;have e:=gI h;subst e;rw[fF]at h;cases h;simp only[bI]at hx;obtain⟨a,n,d,B,N,D,E⟩:=lX hx;exact⟨a,n,d,B,D,E.imp id fun⟨b,off,f,i,o⟩=>⟨b,off,f,i.1,i.2.2.2,o⟩⟩
 |nils=>
  simp only[bH.as,Option.some.injEq]at h;subst h;simp only[bI]at hx;exact⟨a7,0,[],hx,rfl,.inl rfl⟩
 |lst J z b=>
  simp only[bH.as]at h;have e:=gI h;cases e;rw[fF]at h;cases h;simp only[bI]at hx;obtain⟨a,n,d,B,N,D,E⟩:=lX hx.1;exact⟨a,n,d,B,D,E.imp id fun⟨b,off,f,i,o⟩=>⟨b,off,f,i.1,i.2.2.2,o⟩⟩
 |emp=>
  simp only[bH.as,Option.some.injEq]at h;subst h;simp only[bI]at hx;obtain⟨a,rfl⟩:=hx;exact⟨a,0,[],rfl,rfl,.inl rfl⟩
 |slc id ver O=>
  simp only[bH.as,yR]at h;split at h
  .rename_i J v X s
   replace h:=di h;obtain⟨j,h⟩:=h;have j:v=ver:=by simpa using j
   subst j;split at h
   .rename_i Y G
    have e:=gI G;cases e;rw[fF]at G;cases G;cases h;simp only[bI]at hx;have q:=(hx.2.2 _ _ _ s).2 rfl;obtain⟨_,Z,d,S,K,ab⟩:=y.obj id _ s;obtain⟨a,cp,j,hn,L⟩:=Dw S;cases O with
    |none=>
     simp only[iJ]at q;rw[j]at q;exact⟨a,cp,d,q,K,L.imp (fun h=>h) fun⟨g,f,i,U,o⟩=>⟨g,0,f,i,fun I=>(y.bar _ I).2.1 ⟨id,_,s,by rw[dC.blk,j,f];rfl⟩,o⟩⟩
    |some p=>
     obtain⟨lo,V⟩:=p;simp only[iJ]at q;obtain⟨a',m,ad,M,p1,p2,p3,q⟩:=q;rw[j]at M;cases M;refine⟨(if cp=lo.toNat then a else a.map (·.add (lo.toNat*e.size))),cp-lo.toNat,(d.take (V.toNat*e.size)).drop (lo.toNat*e.size), ?_,eY.drop _ _ _ (eY.take _ _ _ K), ?_⟩
     .simp_all [Yn,FX]
     .by_cases hcp:cp=lo.toNat
      .grind
      .rw[ap hcp];rcases L with W|⟨g,f,i,U,o⟩
       .left;rw[W];simp
       .right;refine⟨g,0+lo.toNat*e.size,by rw[f];simp[jG],i,fun I=>(y.bar _ I).2.1 ⟨id,_,s,by rw[dC.blk,j,f];rfl⟩, ?_⟩;rw[List.drop_take];exact o.sub _ _
   .cases h
  .cases h
 |agg l=>simp[bH.as,Ty.isAgg]at h
 |_=>simp[bH.as]at h
theorem Xw (g:c.Ok W0) {x:bH} {e:Ty} {d:List e.den} {u:Value} (h:x.as c.hp (.list e)=a6 d) (hx:bI c x u):
  ∃a cp f,u=.slice a d.length cp/\eY (dY c.w c.free e) e.size d f/\(f=[]\/ ∃b off,a=a6 ⟨b,off,a7⟩/\b<c.w.heap.size/\gp c.w b off f):=by
 grind [PH]
theorem yZ {k:IntKind} {w:World} {fr:Nat->Prop}: ∀(xs:List Int) (e:List Value),eY (dY w fr (.int k)) 1 xs e->e=xs.map (.int k)
 |[],_,h=>by cases h;rfl
 |x::xs,_,⟨d,g,i,l,f,j⟩=>by
  simp only[dY]at f;subst i;subst f;rw[yZ xs g j];rfl
theorem IK: ∀(e:List Int) (d:List UInt8),e.foldl (fun r n=>r.push (UInt8.ofNat n.toNat)) (⟨d.toArray⟩:ByteArray)=⟨(d++ofBytes e).toArray⟩
 |[],d=>by simp[ofBytes]
 |n::e,d=>by
  rw[List.foldl_cons];have:(⟨d.toArray⟩:ByteArray).push (UInt8.ofNat n.toNat)=⟨(d++[UInt8.ofNat n.toNat]).toArray⟩:=by
   simp[ByteArray.push]
  rw[this,IK e];simp[ofBytes]
theorem aiA (hT:TOk P T) (A:c.Ok W0) {s d:TypeId} {x:bH} {v:Value} {K:bH->Option R} (h:xN T s d x c.hp K=a6 r) (hx:bI c x v):
  ∃z u,K z=a6 r/\bI c z u/\ ∀w',DU c w'->(convert s d v).run P w'=.ok u w':=by
 unfold xN at h;cases hk:((T.at s).known&&(T.at d).known)
 .simp_all
 rw[hk]at h;simp only[ak,ac]at h;simp only[ae]at hk;split at h
 .rename_i k1 k2 k3 n i l
  simp only[bI]at hx;obtain rfl:=hx.int_inv;have m:=hT.int hk.1 i;have o:=hT.int hk.2 l;exact⟨_,_,h,by simp only[bI];exact VD.int_mk,fun w' _=>by simp_all [convert,run_underlying,Conv.intToInt]⟩
 .rename_i str i l
  simp only[bI]at hx;obtain rfl:=hx.str_inv;have m:=hT.str hk.1 i;have o:=hT.str hk.2 l;exact⟨_,_,h,by simp only[bI];exact VD.str_mk,fun w' _=>by simp_all [convert,run_underlying]⟩
 .rename_i e i l
  split at h
  .rename_i B
   split at h
   .rename_i f D
    replace h:=fK h;obtain⟨E,h⟩:=h;have G:=E;have m:=hT.slice hk.1 i;have o:=hT.str hk.2 l;have p:=hT.int G B;obtain⟨a,cp,g,rfl,I,J⟩:=Xw A D hx;refine⟨_,.string ⟨(ofBytes f).toArray⟩,h,by simp only[bI];exact VD.str_mk,fun w' L=> ?_⟩;have q:=yZ f g I;cases hxe:f with
    |nil=>
     subst hxe;rcases a with _|M
     .simp only[convert,run_underlying m,run_underlying o,run_underlying p,Sem.run_bind,Result.andThen_ok,Conv.bytesToString,Sem.run_pure];rfl
     .rw[run_convert_bytes_string w' s d e _ _ _ m p o,run_bytesToString (P:=P) w' M _ cp [] (by rfl)];rfl
    |cons x0 Y=>
     have N:g≠[]:=by rw[q,hxe];simp
     obtain⟨b,y,rfl,O,S⟩:=J.resolve_left N;have U:=L.cells O S;have Z:(loadCells ⟨b,y,a7⟩ g.length).run P w'=.ok g.toArray w':=run_loadCells_list (P:=P) w' _ g fun j v V=>by
      obtain⟨W,X⟩:=List.getElem?_eq_some_iff.1 V;rw[jG,U j W,X]
     have ab:g.length=f.length:=by rw[q];simp
     rw[<-hxe,run_convert_bytes_string w' s d e _ _ _ m p o,run_bytesToString (P:=P) w' ⟨b,y,a7⟩ f.length cp f (by simp_all)];have:=IK f [];simp only[aO]at this;rw[<-this];rfl
   .cases h
  .cases h
 .cases h
theorem Es {d e:Type} (f:d->Sem e) (g:d->e) (w:World): ∀(l:List d),(∀x∈l,(f x).run P w=.ok (g x) w)->(l.mapM f).run P w=.ok (l.map g) w
 |[],_=>rfl
 |x::l,h=>by
  simp only[List.mapM_cons,Sem.run_bind,h x (by simp),Result.andThen_ok,Es f g w l (fun y i=>h y (by simp[i])),Sem.run_pure,aj]
theorem Xq {d e:Type} (f:d->Sem e) (g:d->e) (w:World) (l:Array d) (h: ∀x∈l.toList,(f x).run P w=.ok (g x) w):(l.mapM f).run P w=.ok (l.map g) w:=by
 rw[Array.mapM_eq_mapM_toList,Sem.run_map,Es f g w l.toList h];simp only[Result.andThen_ok];congr 1
 grind
def Ug (P:Program) (t:TypeId):Nat:=((P.info? t).map (·.size)).getD 0
theorem yf (hT:TOk P T) (O:c.Ok W0) {cl:Bool} {call:fO R} {o:Oper} {st:St} {a:Act} {K:bH->St->Option R} (S:gG o.op=true) (E:c.hp=st.hp) (j:bC c st.fr a.tmps.toList)
  (h:dR T cl call o st K=a6 r): ∃z u,K z st=a6 r/\bI c z u/\ ∀w',DU c w'->(execOp a.eval o).run P w'=.ok (.value u) w':=by
 have D: ∀{s:Sem Value} {u:Value} {w':World},s.run P w'=.ok u w'->(do pure (Next.value (<-s)):Sem Next).run P w'=.ok (.value u) w':=fun hs=>by
  simp_all
 obtain⟨aI,op,ty,aJ,aK,aP⟩:=o;simp only at S;cases op<;>simp only[gG,jm,ah]at S
 case move x=>exact⟨_,_,h,dH j x,fun w' _=>rfl⟩
 case assign x=>exact⟨_,_,h,dH j x,fun w' _=>rfl⟩
 case pick x y z=>
  simp only[dR]at h;have hc:=dH j x;split at h
  .rename_i b J
   rw[J]at hc;simp only[bI]at hc;have ai:=hc.bool_inv;cases b
   .exact⟨_,_,h,dH j z,fun w' _=>by simp[execOp,ai,asBool]⟩
   .exact⟨_,_,h,dH j y,fun w' _=>by simp[execOp,ai,asBool]⟩
  .cases h
 case build t parts=>
  simp only[dR]at h;cases hk:(T.at t).known
  .simp_all
  rw[hk]at h;simp only[ak,ac]at h;split at h
  .rename_i fs av
   split at h
   .rename_i cs X
    obtain⟨Y,Z,aw⟩:=hT.struct hk av;obtain⟨i,z,hi,aQ,aS,hz,aV,ab⟩:=hT.info hk;have ax:bC c (T.at t).zero z.cells.toList:=by grind [qM]
    have ab: ∀u∈z.cells.toList,u.oneCell'=true:=fun u Z=>List.all_eq_true.1 ab u Z;obtain⟨ay,g1,g2,g3⟩:=YQ (c:=c) hT (place:=fun k=>(Y.map fun f=>(f.offset,Ug P f.type))[k]?) (fun k an ft ad az=>by
      rw[<-aw,List.getElem?_map]at ad;cases hfl:Y.toList[k]? with
      |none=>simp_all
      |some fl=>
       rw[hfl]at ad;simp only[aU,Option.some.injEq,Prod.mk.injEq]at ad;have:Y[k]? =a6 fl:=by simpa using hfl
       obtain⟨i',z',aW,aX,_⟩:=hT.info az;simp_all [Ug]) _ (parts.toList.map fun p=>(p.1,a.eval p.2)) _ _ _ X ax ab (by simp) (by
      simp only[List.map_map,Function.comp_def];have:=bC.map_eval (c:=c) j (parts.toList.map (·.2));simp_all [Function.comp_def])
    have af:=(hT t hk).2.2.2.2.2.2.1;rw[Z]at af;simp only[aU,Option.some.injEq]at af;refine⟨_,.agg ay.toArray,h, ?_,fun w' _=>D ?_⟩
    .have:=Ho (c:=c) hT hk g2 g3;simp_all [TI.isAgg,valOf]
    .have hm:=Xq (P:=P) (fun f:Field=>do pure (f.offset,<-sizeOf f.type)) (fun f=>(f.offset,Ug P f.type)) w' Y (fun f hf=>by
      have:=List.all_eq_true.1 af f hf;cases hi2:P.info? f.type with
      |none=>simp_all
      |some i2=>simp[sizeOf,typeInfo,hi2,Ug])
     have aA:(zeroValue t).run P w'=.ok z w':=by simp[zeroValue,typeInfo,hi,hz]
     simp only[Instr.build,Sem.run_bind,aA,Result.andThen_ok,run_underlying Z,hm];simp_all
   .cases h
  .cases h
 case load t x=>
  simp only[dR]at h;rw[<-E]at h;obtain⟨z,u,m,q,A⟩:=aol (K:=fun v=>K v st) hT O h (dH j x);exact⟨z,u,m,q,fun w' B=>D (A w' B)⟩
 case nilCheck x=>
  simp only[dR]at h;have d:=dH j x;split at h
  .rename_i id an M
   rw[M]at d;split at h
   .rename_i bt cs X
    have U:=d;simp only[bI]at d;rw[<-E]at X;have G:=d.2.2 _ _ X;exact⟨_,_,h,U,fun w' _=>by simp[execOp,G]⟩
   .cases h
  .rename_i y e M
   rw[M]at d;have U:=d;simp only[bI]at d;obtain⟨b,o,zs,G,_⟩:=d;exact⟨_,_,h,U,fun w' _=>by simp[execOp,G]⟩
  .rename_i id aB i an M
   rw[M]at d;split at h
   .rename_i e u xs ao
    replace h:=di h;obtain⟨I,h⟩:=h;have I:u=aB:=by simpa using I
    subst I;have U:=d;simp only[bI]at d;rw[<-E]at ao;obtain⟨g,n,cp,_,G⟩:=(d.2.2 _ _ _ ao).2 rfl;exact⟨_,_,h,U,fun w' _=>by simp[execOp,G]⟩
   .cases h
  .cases h
 case binOp op t x y yt=>
  simp only[dR]at h;rw[<-E]at h;obtain⟨z,u,m,q,A⟩:=aok (P:=P) (ox:=x) (oy:=y) (K:=fun v=>K v st) hT O h (dH j x) (dH j y);exact⟨z,u,m,q,fun w' B=>D (A w')⟩
 case unOp op t x=>
  simp only[dR]at h;obtain⟨z,u,m,q,A⟩:=aB0 (P:=P) (K:=fun v=>K v st) h (dH j x);exact⟨z,u,m,q,fun w' B=>D (A w')⟩
 case convert sT dT x=>
  simp only[dR]at h;rw[<-E]at h;obtain⟨z,u,m,q,A⟩:=aiA (P:=P) (K:=fun v=>K v st) hT O h (dH j x);exact⟨z,u,m,q,fun w' B=>D (A w' B)⟩
 case slice t x lo hi mx=>
  simp only[dR]at h;rw[<-E]at h;obtain⟨z,u,m,q,A⟩:=afZ (P:=P) (K:=fun v=>K v st) hT O h (dH j x) (kM.map j lo) (kM.map j hi) (kM.map j mx);exact⟨z,u,m,q,fun w' B=>D (A w')⟩
 case fieldAddr t x f=>
  simp only[dR]at h;rw[<-E]at h;obtain⟨z,u,m,q,A⟩:=KH (P:=P) (K:=fun v=>K v st) hT h (dH j x);exact⟨z,u,m,q,fun w' B=>D (A w')⟩
 case field t x f=>
  simp only[dR]at h;obtain⟨z,u,m,q,A⟩:=afX (P:=P) (K:=fun v=>K v st) hT h (dH j x);exact⟨z,u,m,q,fun w' B=>D (A w')⟩
 case indexAddr t x i=>
  simp only[dR]at h;rw[<-E]at h;obtain⟨z,u,m,q,A⟩:=KI (P:=P) (K:=fun v=>K v st) hT O h (dH j x) (dH j i);exact⟨z,u,m,q,fun w' B=>D (A w')⟩
 case index t x i=>
  simp only[dR]at h;split at h
  .rename_i s n hs hn
   replace h:=fK h;obtain⟨m,h⟩:=h;have d:=dH j x;rw[hs]at d;obtain⟨q,A⟩:=afY (P:=P) hT d (dH j i) hn m;exact⟨_,_,h,q,fun w' B=>D (A w')⟩
  .cases h
 case extract x n=>
  simp only[dR]at h;have d:=dH j x;split at h
  .rename_i l hl
   rw[hl]at d;split at h
   .rename_i v G
    simp only[bI]at d;obtain⟨vs,M,au⟩:=d;obtain⟨hn,G⟩:=List.getElem?_eq_some_iff.1 G;have aF:=bC.length _ _ au;simp at aF;have m:=bC.get _ _ au n hn (by simp;omega);rw[G]at m;simp only[Array.getElem_toList]at m;refine⟨_,_,h,m,fun w' _=>D ?_⟩;rw[M];have:vs[n]? =a6 vs[n]:=Array.getElem?_eq_getElem (by omega);simp[Instr.extract,this]
   .cases h
  .cases h
 case call cc=>
  obtain⟨aY,V,aG⟩:=cc;simp only at S;have L:=bC.map_eval (c:=c) j V.toList;split at S
  all_goals try (cases S;done)
  .
   simp only[dR,jH]at h;split at h<;>try (cases h;done)
   .rename_i x J d
    split at h<;>try (cases h;done)
    rename_i t ht
    rw[<-E]at h;obtain⟨N,aH⟩: ∃N,V= #[N]:=by
     obtain⟨l⟩:=V
     match l,d with
     |[N],_=>exact⟨N,rfl⟩
    subst aH;obtain⟨t0⟩:=aG;simp only at ht;subst ht;simp only[aj,List.map_nil,List.cons.injEq,and_true]at d;subst d;obtain⟨z,u,m,q,A⟩:=q_len (P:=P) (K:=fun v=>K v st) hT O h (dH j N) (ty:=ty)
    grind [execOp,resolve,invoke,builtin]
   all_goals simp_all
  .
   simp only[dR,jH]at h;split at h<;>try (cases h;done)
   all_goals try (rename_i J _;cases J;done)
   rename_i k n l J d
   split at h<;>try (cases h;done)
   rename_i ns ag
   rw[d]at L;obtain⟨W⟩:=V;cases W with
   |nil=>simp_all
   |cons N W=>
    simp only[aj,bC]at L;have I:=L.1;simp only[bI]at I;have m:=I.int_inv;have q:=qI _ _ _ ag L.2;exact⟨_,_,h,by simp only[bI];exact VD.int_mk,fun w' B=>by simp_all [execOp,resolve,invoke,builtin,Builtin.min_,Pj]⟩
  .
   simp only[dR,jH]at h;split at h<;>try (cases h;done)
   all_goals try (rename_i J _;cases J;done)
   rename_i k n l J d
   split at h<;>try (cases h;done)
   rename_i ns ag
   rw[d]at L;obtain⟨W⟩:=V;cases W with
   |nil=>simp_all
   |cons N W=>
    simp only[aj,bC]at L;have I:=L.1;simp only[bI]at I;have m:=I.int_inv;have q:=qI _ _ _ ag L.2;exact⟨_,_,h,by simp only[bI];exact VD.int_mk,fun w' B=>by simp_all [execOp,resolve,invoke,builtin,Builtin.max_,Pi]⟩
end
end
section
open Option renaming some → a6, none → a7
open List renaming map_cons → aj
open Nat renaming le_refl → af, le_trans → aG
open Go.RowKit
structure yH (W0:World) (c:Cx) (st:St) (c':Cx) (st':St):Prop where
 hp:c'.hp=st'.hp
 nxt:c'.nxt=st'.nxt
 fr:st'.fr=st.fr
 stk:st'.stk=st.stk
 ok:c'.Ok W0
 le:c.Le c'
section
variable {P:Program} {T:TT} {W0:World} {c:Cx} {R:Type} {r:R} {t:TypeId}
theorem yH.refl (d:c.Ok W0) {st:St} (e:c.hp=st.hp) (h2:c.nxt=st.nxt):yH W0 c st c st:=⟨e,h2,rfl,rfl,d,Cx.Le.refl c⟩
theorem yH.trans {c' d:Cx} {st e f:St} (h:yH W0 c st c' e) (k:yH W0 c' e d f):yH W0 c st d f:=
 ⟨k.hp,k.nxt,k.fr.trans h.fr,k.stk.trans h.stk,k.ok,h.le.trans k.le⟩
theorem JP {cl:Bool} {dst:Option Nat} {o:dC} {st:St} {K:Nat->St->Option R} (h:alloc cl dst o st K=a6 r):
  ∃n',dG st.hp (Bd cl st dst)=a7/\st.nxt<=Bd cl st dst/\st.nxt<=n'/\K (Bd cl st dst) {st with hp:=(Bd cl st dst,o)::st.hp,nxt:=n'}=a6 r:=by
 unfold alloc at h;split at h
 .cases h
 .rename_i e
  replace h:=di h;obtain⟨d,h⟩:=h;have d:st.nxt<=Bd cl st dst:=by simpa using d
  grind
theorem iR {cl:Bool} {dst:Option Nat} {o:dC} {st:St} {K:Nat->St->Option R} (h:alloc cl dst o st K=a6 r):
  ∃id n',dG st.hp id=a7/\st.nxt<=id/\st.nxt<=n'/\K id {st with hp:=(id,o)::st.hp,nxt:=n'}=a6 r:=
 let⟨n',d,e,f,g⟩:=JP h
 ⟨_,n',d,e,f,g⟩
theorem x9 {st:St} {id:Nat} (d:c.hp=st.hp) (h2:c.nxt=st.nxt) (e:dG st.hp id=a7) (f:st.nxt<=id): ¬c.known id:=by
 rintro (⟨o,g⟩|h)
 all_goals grind
theorem lQ (w:World) (o:Obj):Below w.heap.size w (w.alloc o):=(Below.refl _ _).alloc (af _) o
theorem Hm (f:c.Ok W0) {st:St} (g:c.hp=st.hp) (h2:c.nxt=st.nxt) {id n':Nat} (m:dG st.hp id=a7) (p:st.nxt<=id) (x:st.nxt<=n') {cs:List bH} {vs:Array Value} (e:TypeId)
  (q: ∀c',c.Le c'->dG c'.hp id=a6 (.box e cs)->c'.known id->(c'.mu id).blk=c.w.heap.size->bC c' cs vs.toList) (s: ∀u∈vs.toList,u.oneCell'=true):
  ∃c',yH W0 c st c' {st with hp:=(id,.box e cs)::st.hp,nxt:=n'}/\c'.w=c.w.alloc (.cells vs e)/\bI c' (.ptr id 0) (.pointer (a6 ⟨c.w.heap.size,0,a7⟩)):=by
 have hk:=x9 g h2 m p;have d:=lQ c.w (.cells vs e);have h: ∀b,dC.blk (.box e cs) ⟨c.w.heap.size,undef⟩=a6 b->c.w.heap.size<=b:=fun b d=>by
  simp_all [dC.blk]
 have i:=Cx.Le.push (o:=.box e cs) (l:=⟨c.w.heap.size,undef⟩) (nxt:=n') (w:=c.w.alloc (.cells vs e)) hk (by omega) d.size d.block h;have j:dG (c.push id (.box e cs) ⟨c.w.heap.size,undef⟩ n' (c.w.alloc (.cells vs e))).hp id=a6 (.box e cs):=by simp[Cx.push,dQ]
 have v:(c.push id (.box e cs) ⟨c.w.heap.size,undef⟩ n' (c.w.alloc (.cells vs e))).ORel W0.heap.size id (.box e cs):=by
  refine⟨by simp[Cx.push,upd_same];exact f.size,vs, ?_,q _ i j (.inl ⟨_,j⟩) (by simp[Cx.push,upd_same]),s⟩;simp only[Cx.push,upd_same];exact heap_alloc_new c.w _
 refine⟨_,⟨?_,rfl,rfl,rfl,f.push hk (by omega) d h v,i⟩,rfl, ?_⟩
 .simp[Cx.push,g]
 .simp only[bI];refine⟨rfl,.inl ⟨.box e cs,by assumption⟩,fun y z _=>by simp[Cx.push,upd_same]⟩
theorem Vd (d:c.Ok W0) {st:St} (f:c.hp=st.hp) (h2:c.nxt=st.nxt) {id n':Nat} (g:dG st.hp id=a7) (h:st.nxt<=id) (i:st.nxt<=n') {cs:List bH} {vs:Array Value} (j:bC c cs vs.toList)
  (l: ∀u∈vs.toList,u.oneCell'=true) (e:TypeId):
  ∃c',yH W0 c st c' {st with hp:=(id,.box e cs)::st.hp,nxt:=n'}/\c'.w=c.w.alloc (.cells vs e)/\bI c' (.ptr id 0) (.pointer (a6 ⟨c.w.heap.size,0,a7⟩)):=
 Hm d f h2 g h i e (fun c' m _ _ _=>bC.le m _ _ j) l
theorem oP (j:c.Ok W0) {st:St} (m:c.hp=st.hp) (h2:c.nxt=st.nxt) {id n':Nat} (s:dG st.hp id=a7) (x:st.nxt<=id) (N:st.nxt<=n') {y:Ty} (z:0<y.size) {xs:List y.den} {v:Value} {w:World}
  (f:Below c.w.heap.size c.w w) (e:TypeId) (d:List Value) (i:w.ownsRow c.w.heap.size e y.size v xs.length d) (A:eY (dY c.w c.free y) y.size xs d) (B:v.oneCell'=true) (D:y=.int .u8->e=lS):
  ∃c',yH W0 c st c' {st with hp:=(id,.arr y 0 xs)::st.hp,nxt:=n'}/\c'.w=w/\bI c' (.slc id 0 a7) v:=by
 have hk:=x9 m h2 s x;have p: ∀b,dC.blk (.arr y 0 xs) ⟨0,v⟩=a6 b->c.w.heap.size<=b:=fun b E=>(World.ownsRow.lt i b E).1;have q:=Cx.Le.push (o:=.arr y 0 xs) (l:=⟨0,v⟩) (nxt:=n') (w:=w) hk (by omega) f.size f.block p;have O:w.ownsRow W0.heap.size e y.size v xs.length d:=by
  refine⟨i.1, ?_⟩;rcases i.2 with h|⟨g,G,I,J,K,L⟩
  .exact .inl h
  .exact .inr ⟨g,G,I,J,aG j.size K,L⟩
 have M:(c.push id (.arr y 0 xs) ⟨0,v⟩ n' w).ORel W0.heap.size id (.arr y 0 xs):=by
  refine⟨z,e,d, ?_,eY.mono (dY.mono q.free y) _ _ A,D⟩;simp_all [Cx.push,upd_same]
 refine⟨_,⟨?_,rfl,rfl,rfl,j.push hk (by omega) f p M,q⟩,rfl, ?_⟩
 .simp[Cx.push,m]
 .simp only[bI];refine⟨B,.inl ⟨.arr y 0 xs,by simp[Cx.push,dQ]⟩,fun t u S h=> ?_⟩;simp_all [Cx.push,iJ,upd_same]
def EF (P:Program) (W0:World) (c:Cx) (st:St) (o:Oper) (a:Act) (K:bH->St->Option R) (r:R):Prop:=
 ∃z u d e,K z e=a6 r/\yH W0 c st d e/\bI d z u/\((execOp a.eval o).run P c.w=.ok (.value u) d.w\/((execOp a.eval o).run P c.w=.ok .skip d.w/\u=undef))
theorem oM {st:St} {o:Oper} {a:Act} {K:bH->St->Option R} {s:Sem Value} {z:bH} {u:Value} {c':Cx} {d:St} (g:execOp a.eval o=(do pure (Next.value (<-s)))) (e:K z d=a6 r) (h2:yH W0 c st c' d) (f:bI c' z u)
  (h:s.run P c.w=.ok u c'.w):EF P W0 c st o a K r:=⟨z,u,c',d,e,h2,f,.inl (by simp_all)⟩
theorem ar0 (hT:TOk P T) (x:c.Ok W0) {cl:Bool} {call:fO R} {o:Oper} {st:St} {a:Act} {K:bH->St->Option R} (A:c.hp=st.hp) (B:c.nxt=st.nxt) (O:o.op=.alloc t)
  (h:dR T cl call o st K=a6 r):EF P W0 c st o a K r:=by
 obtain⟨S,op,W,X,Y,Z⟩:=o;simp only at O;subst O;simp only[dR]at h;replace h:=di h;obtain⟨hk,h⟩:=h;obtain⟨i,z,hi,ak,al,hz,q,f⟩:=hT.info hk;have f: ∀u∈z.cells.toList,u.oneCell'=true:=fun u hu=>List.all_eq_true.1 f u hu;have ab:(Instr.alloc t true (.tuple #[])).run P c.w=.ok (.pointer (a6 ⟨c.w.heap.size,0,a7⟩)) (c.w.alloc (.cells z.cells t)):=by
  simp[Instr.alloc,zeroValue,typeInfo,hi,hz,newVar,newRow]
 have D:(alloc cl S (.box t (T.at t).zero) st fun id st=>K (.ptr id 0) st)=a6 r->EF P W0 c st ⟨S,.alloc t,W,X,Y,Z⟩ a K r:=fun h=>by
  obtain⟨id,U,g,j,l,m⟩:=iR h;obtain⟨c',e,p,s⟩:=Vd x A B g j l (cs:=(T.at t).zero) (vs:=z.cells) (by grind [qM]) f t;exact oM rfl m e s (by rw[p];exact ab)
 split at h
 .rename_i et ad E
  split at h
  .rename_i y hy
   replace h:=di h;obtain⟨G,h⟩:=h;have G:0<y.size:=by simpa [KZ] using G
   obtain⟨I,n1,g,j,l,m⟩:=iR h;have V:z.cells.toList=[.slice a7 0 0]:=by
    rw[E]at q
    match hq:z.cells.toList,q with
    |[v],d=>
     simp only[aj,List.map_nil,List.cons.injEq,and_true]at d;unfold ut at d
     grind
    |[],d=>simp at d
    |_::_::_,d=>simp at d
   obtain⟨c1,e,p,s⟩:=oP x A B g j l G (xs:=[]) (Below.refl _ _) (if y=.int .u8 then lS else et) [] (World.ownsRow_nil _ _ _ _) (by simp[eY]) (v:=.slice a7 0 0) rfl (fun h=>by simp[h]);obtain⟨id,U,J,L,M,N⟩:=iR m;obtain⟨c2,g1,g2,g3⟩:=Vd e.ok e.hp e.nxt J L M (cs:=[.slc I 0 a7]) (vs:=z.cells) (by simp_all [bC]) f t;rw[p]at g3;refine oM rfl N (e.trans g1) g3 ?_;simp_all
  .exact D h
 .rename_i fs ad E
  rw[cond_eq_ite]at h;split at h
  .obtain⟨I,n1,g,j,l,m⟩:=iR h;have V:z.cells.toList=[.pointer a7,.slice a7 0 0]:=by
    rw[E]at q
    match hq:z.cells.toList,q with
    |[v,v'],d=>
     simp only[aj,List.map_nil,List.cons.injEq,and_true]at d;obtain⟨ae,ag⟩:=d;have q1:v=.pointer a7:=by
      unfold ut at ae
      grind
     have q2:v'=.slice a7 0 0:=by
      unfold ut at ag
      grind
     rw[q1,q2]
    |[],d=>simp at d
    |[_],d=>simp at d
    |_::_::_::_,d=>simp at d
   obtain⟨c1,e,p,s⟩:=oP x A B g j l (y:=.int .u8) (by simp[Ty.size]) (xs:=[]) (Below.refl _ _) lS [] (World.ownsRow_nil _ _ _ _) (by simp[eY]) (v:=.slice a7 0 0) rfl (fun _=>rfl);obtain⟨U,J,L,M,N⟩:=JP m;obtain⟨c2,g1,g2,g3⟩:=Hm e.ok e.hp e.nxt J L M (cs:=[.slf _,.slc I 0 a7]) (vs:=z.cells) t (fun c' ah hg ai an=>by
    rw[V];simp only[bC,bI];refine⟨⟨rfl,ai,fun _ _ _=>.inl trivial⟩, ?_,trivial⟩;have:=bI.le ah _ _ s
    assumption) f
   rw[p]at g3;refine oM rfl N (e.trans g1) g3 ?_;simp_all
  .exact D h
 .exact D h
theorem aA7 (hT:TOk P T) (e:c.Ok W0) {cl:Bool} {call:fO R} {o:Oper} {st:St} {a:Act} {K:bH->St->Option R} {x:Operand} (f:c.hp=st.hp) (g:c.nxt=st.nxt) (i:bC c st.fr a.tmps.toList) (d:o.op=.box t x)
  (h:dR T cl call o st K=a6 r):EF P W0 c st o a K r:=by
 obtain⟨A,B,D,E,G,I⟩:=o;simp only at d;subst d;simp only[dR]at h;split at h
 .rename_i J j
  replace h:=di h;obtain⟨hk,h⟩:=h;obtain⟨id,L,l,m,p,q⟩:=iR h;obtain⟨s,u⟩:=Iw j (dH i x);obtain⟨M,v,y,z⟩:=Vd e f g l m p s u t;refine oM rfl q v z ?_;rw[y];rfl
 .cases h
theorem awg {hp:fZ} {y:Ty} {v:bH} {x:y.den} (h:v.as [] y=a6 x) {u:Value} (d:bI c v u):dY c.w c.free y x u.cells.toList:=by
 cases v with
 |val t' z=>
  simp only[bH.as]at h;have e:=gI h;subst e;rw[fF]at h;cases h;simp only[bI]at d;exact d.cells
 |nils=>
  simp only[bI]at d;subst d;cases y<;>simp only[bH.as,reduceCtorEq]at h;cases h;exact⟨a7,0,[],rfl,by simp,rfl,.inl rfl⟩
 |lst t' z b=>
  simp only[bH.as]at h;have e:=gI h;subst e;rw[fF]at h;cases h;simp only[bI]at d;exact d.1.cells
 |emp=>
  simp only[bI]at d;obtain⟨a,rfl⟩:=d;cases y<;>simp only[bH.as,reduceCtorEq]at h;cases h;exact⟨a,0,[],rfl,by simp,rfl,.inl rfl⟩
 |slc id ver g=>cases y<;>simp_all [bH.as,yR,dG]
 |agg l=>
  simp only[bH.as]at h;replace h:=di h;simp only[bI]at d;obtain⟨i,rfl,f,_⟩:=d;exact mF h.2 f
 |_=>simp[bH.as]at h
theorem eY.replicate {e:Type} {Q:e->List Value->Prop} {size:Nat} {x:e} {d:List Value} (hd:d.length=size) (hx:Q x d): ∀n,eY Q size (List.replicate n x) (List.replicate n d).flatten
 |0=>by simp[eY]
 |n+1=>⟨d,(List.replicate n d).flatten,by rfl,hd,hx,eY.replicate hd hx n⟩
theorem Ba (d:Array Value): ∀n,(madeCells d (n*d.size)).toList=(List.replicate n d.toList).flatten:=by
 intro n;by_cases h0:d.size=0
 .simp_all [madeCells]
 apply List.ext_getElem?;intro j;have f:(List.replicate n d.toList).flatten.length=n*d.size:=by simp
 by_cases e:j<n*d.size
 .have g: ∀n j,j<n*d.size->(List.replicate n d.toList).flatten[j]? =d.toList[j %d.size]? :=by
   intro n
   induction n with
   |zero=>omega
   |succ n h=>
    intro j e;rw[List.replicate_succ,List.flatten_cons]
    grind [Nat.mod_eq_of_lt,List.getElem?_append_right,Nat.mod_eq_sub_mod]
  grind [madeCells]
 simp_all [madeCells]
theorem SH {e:Ty} (place:Nat->Option (Nat×Nat)) (s: ∀i,place i=a6 (i*e.size,e.size)): ∀(j:List (Nat×bH)) (us:List (Nat×Value)) (xs f:List e.den) (g:List Value),Gy e xs j=a6 f->eY (dY c.w c.free e) e.size xs g->
   us.map (·.1)=j.map (·.1)->bC c (j.map (·.2)) (us.map (·.2))-> ∃l,Instr.fill place g.toArray us=a6 l.toArray/\eY (dY c.w c.free e) e.size f l/\f.length=xs.length
 |[],us,xs,f,g,h,m,d,_=>by
  simp only[Gy,Option.some.injEq]at h;subst h;cases us with
  |nil=>exact⟨g,rfl,m,rfl⟩
  |cons=>simp at d
 |(i,v)::j,us,xs,f,g,h,m,d,q=>by
  cases us with
  |nil=>simp at d
  |cons u us=>
   obtain⟨o,u⟩:=u;simp only[aj,List.cons.injEq]at d;obtain⟨rfl,d⟩:=d;simp only[aj,bC]at q;simp only[Gy]at h;split at h
   .rename_i x D
    replace h:=di h;obtain⟨p,h⟩:=h;have p:o<xs.length:=by simpa [KZ] using p
    have hd:=awg (hp:=[]) D q.1;have y:=dY.length _ _ _ hd;obtain⟨z,E,K,A,B,G,I⟩:=eY.at_ o xs g p m;subst G;have J:=eY.set x u.cells.toList y hd o xs A z B p m I E;obtain⟨l,g1,g2,g3⟩:=SH place s j us _ f _ h J d q.2;refine⟨l, ?_,g2,by rw[g3];simp⟩;rw[<-g1];simp only[Instr.fill,s];have L:u.cells.size=e.size:=by simpa using y
    rw[ap (by simp_all)];congr 1;have:=GU (o*e.size) u.cells (A++z++B) (by simp;omega)
    grind
   .cases h
end
end
section
open Option renaming some → a6, none → a7
open Bool renaming and_eq_true → ae
open Nat renaming le_refl → af, le_mul_of_pos_right → bn
open Go.RowKit
section
variable {P:Program} {T:TT} {W0:World} {c:Cx} {R:Type} {r:R} {t:TypeId}
theorem nX (hT:TOk P T) {n:Nat} {d:TypeId} (e:(T.at t).k=.slice d) (h:T.rowOf t n=true):P.underlying t=a6 (.slice d)/\(T.at d).known=true/\(T.at d).size=n/\0<n/\0<(T.at d).bytes:=by
 grind [kP]
theorem TL (hT:TOk P T) {f:TypeId} (hk:(T.at f).known=true) {e:Ty} {d:e.den} (hd:Ej e (T.at f).zero=a6 d):
  ∃i z,P.info? f=a6 i/\i.zero=a6 z/\i.size=(T.at f).size/\i.bytes=(T.at f).bytes/\dY c.w c.free e d z.cells.toList:=by
 obtain⟨i,z,g,h,j,l,m,o⟩:=hT.info hk
 grind [mF,qM]
theorem ZT (w:World) (d:List Value) (e:TypeId) (size n:Nat) (hl:d.length=n*size) (f:n<=maxLen):
  (w.alloc (.cells d.toArray e)).ownsRow w.heap.size e size (.slice (a6 ⟨w.heap.size,0,a7⟩) n n) n d:=
 ⟨hl,.inr ⟨w.heap.size,n,d.toArray,rfl,af _,heap_alloc_new w _,af _,f,by simpa using hl,by simp[<-hl]⟩⟩
theorem UU (hT:TOk P T) (D:c.Ok W0) {cl:Bool} {call:fO R} {o:Oper} {st:St} {a:Act} {K:bH->St->Option R} {n:Nat} {f:Array (Nat×Operand)} (E:c.hp=st.hp) (G:c.nxt=st.nxt) (I:bC c st.fr a.tmps.toList)
  (l:o.op=.buildSlice t n f) (h:dR T cl call o st K=a6 r):EF P W0 c st o a K r:=by
 obtain⟨ah,op,ty,ai,aj,ak⟩:=o;simp only at l;subst l;simp only[dR]at h;split at h
 .rename_i g J
  split at h
  .rename_i e L
   split at h
   .rename_i d hd
    replace h:=di h;obtain⟨m,h⟩:=h;simp only[ae,leN,decide_eq_true_eq]at m;obtain⟨q,hk,M,s,_⟩:=nX hT J m.1;split at h
    .rename_i N O
     obtain⟨id,n',S,U,V,W⟩:=iR h;obtain⟨i,z,X,Y,al,_,u⟩:=TL (c:=c) hT hk hd;have v:=dY.length _ _ _ u;have Z:z.cells.size=e.size:=by simpa using v
     have ab:=eY.replicate (Q:=dY c.w c.free e) v u n;obtain⟨j,g1,g2,g3⟩:=SH (c:=c) (fun i=>a6 (i*e.size,e.size)) (fun _=>rfl) _ (f.toList.map fun p=>(p.1,a.eval p.2)) _ _ _ O ab (by simp) (by
      simp only[List.map_map,Function.comp_def];have:=bC.map_eval (c:=c) I (f.toList.map (·.2));simp_all [Function.comp_def])
     have x:N.length=n:=by rw[g3];simp
     have y:=eY.length _ _ g2;rw[x]at y;have an:n<=n*e.size:=bn n s;have A:=ZT c.w j g e.size n y (by simp only[maxLen];omega);rw[<-x]at A;obtain⟨c',d1,d2,d3⟩:=oP D E G S U V s (lQ c.w (.cells j.toArray g)) g j A g2 rfl (fun h=>hT.byte hk (by rw[L,h]));refine oM rfl W d1 d3 ?_;rw[d2];have B:(sizeOf g).run P c.w=.ok e.size c.w:=by rw[hT.sizeOf hk,M]
     have ao:(zeroValue g).run P c.w=.ok z c.w:=by simp[zeroValue,typeInfo,X,Y]
     have au:n*e.size<=2^24:=by omega
     have ad:Instr.fill (fun i=>a6 (i*e.size,e.size)) ((Array.range (n*e.size)).map (z.cells[· %z.cells.size]!)) (Array.map (fun p=>(p.1,a.eval p.2)) f).toList=a6 j.toArray:=by
      rw[<-g1];have:=Ba z.cells n;rw[Z]at this;have h3:(Array.range (n*e.size)).map (z.cells[· %z.cells.size]!)=(List.replicate n z.cells.toList).flatten.toArray:=by
       apply Array.ext';rw[<-this];rfl
      rw[h3];simp
     by_cases h0:n*e.size=0
     .have ag:n=0:=by
       omega
      subst ag;simp only[Instr.buildSlice,Sem.run_bind,run_underlying q,Result.andThen_ok,B,Sem.run_ite,Nat.zero_mul,if_true,Sem.run_pure];simp only[Nat.zero_mul]at ad;rw[ap (by omega)];have av:Instr.fill (fun i=>a6 (i*e.size,e.size)) ((Array.range 0).map ((#[]:Array Value)[· %(#[]:Array Value).size]!)) (Array.map (fun p=>(p.1,a.eval p.2)) f).toList=a6 j.toArray:=by
       grind
      simp_all [newRow]
     .simp only[Instr.buildSlice,Sem.run_bind,run_underlying q,Result.andThen_ok,B,Sem.run_ite];simp_all [newRow]
    .cases h
   .cases h
  .cases h
 .cases h
theorem Zo (hT:TOk P T) (y:c.Ok W0) {cl:Bool} {call:fO R} {o:Oper} {st:St} {a:Act} {K:bH->St->Option R} {l cp:Operand} (A:c.hp=st.hp) (B:c.nxt=st.nxt) (p:bC c st.fr a.tmps.toList)
  (q:o.op=.makeSlice t l cp) (h:dR T cl call o st K=a6 r):EF P W0 c st o a K r:=by
 obtain⟨aj,op,ty,ak,al,an⟩:=o;simp only at q;subst q;simp only[dR]at h;split at h
 .rename_i j D
  split at h
  .rename_i e g f E G I
   split at h
   .rename_i d hd
    replace h:=fK h;obtain⟨s,h⟩:=h;simp only[ae,decide_eq_true_eq]at s;obtain⟨J,L,M,b3⟩:=s;obtain⟨N,hk,O,S,U⟩:=nX hT D J;obtain⟨id,n',V,W,X,Y⟩:=iR h;obtain⟨i,z,Z,hz,ab,ao,u⟩:=TL (c:=c) hT hk hd;have v:=dY.length _ _ _ u;have m:z.cells.size=e.size:=by simpa using v
    have ad:=eY.replicate (Q:=dY c.w c.free e) v u g.toNat;obtain⟨k,r1⟩:=pJ G (dH p l);obtain⟨k',r2⟩:=pJ I (dH p cp);have au:f.toNat<=f.toNat*(T.at j).bytes:=bn _ U;have av:f.toNat<=140737488355328:=by grind [kF]
    have ag:f<=9223372036854775807:=by omega
    have ah:(i.bytes:Int)*f<=281474976710656:=by
     grind [kF]
    have aw:=run_make (P:=P) c.w t j i z N Z hz k k' g f L M ah ag;have x:=Ba z.cells f.toNat;rw[m]at x;have ax:((List.replicate f.toNat z.cells.toList).flatten).length=f.toNat*e.size:=by simp[m]
    have ai:(c.w.alloc (.cells (madeCells z.cells (f.toNat*i.size)) j)).ownsRow c.w.heap.size j e.size (.slice (a6 ⟨c.w.heap.size,0,a7⟩) g.toNat f.toNat) (List.replicate g.toNat d).length (List.replicate g.toNat z.cells.toList).flatten:=by
     refine⟨by simp[m],.inr ⟨c.w.heap.size,f.toNat,madeCells z.cells (f.toNat*i.size),by simp,af _,heap_alloc_new _ _,by simp;omega,by simp only[maxLen];omega, ?_, ?_⟩⟩
     .grind
     .rw[ab,O,x];have:f.toNat=g.toNat+(f.toNat-g.toNat):=by omega
      rw[this,<-List.replicate_append_replicate,List.flatten_append];rw[List.take_append];simp[m];rw[List.take_of_length_le (by simp[m])]
    obtain⟨c',d1,d2,d3⟩:=oP y A B V W X S (lQ c.w _) j _ ai ad rfl (fun h=>hT.byte hk (by rw[E,h]));refine oM rfl Y d1 d3 ?_;simp_all
   .cases h
  .cases h
 .cases h
end
end
section
open Option renaming some → a6, none → a7
open List renaming length_append → aI, nil_append → aO, eq_nil_of_length_eq_zero → bi
open Nat renaming le_refl → af
open Go.RowKit
section
variable {P:Program} {T:TT} {W0:World} {c:Cx} {R:Type} {r:R} {t:TypeId}
theorem Vm {w:World} {B:Nat} {e:TypeId} {size n cap g:Nat} {f:List Value} (h:w.ownsRow B e size (.slice (a6 ⟨g,0,a7⟩) n cap) n f) {k:Nat} (hk:k<=n):
  w.ownsRow B e size (.slice (a6 ⟨g,0,a7⟩) k cap) k (f.take (k*size)):=by
 have p:=h.1;have q:=Nat.mul_le_mul_right size hk;refine⟨by simp;omega,.inr ?_⟩;rcases h.2 with ⟨d,_⟩|⟨s,u,i,d,j,l,v,m,o,x⟩
 .cases d
 .cases d;refine⟨g,cap,i,rfl,j,l,by omega,m,o, ?_⟩
  grind
theorem EH {d:TypeId} (x:P.underlying t=a6 (.slice d)) {w:World} {B:Nat} {i:TypeInfo} {z:Value} {size W:Nat} (hi:P.info? d=a6 i) (E:i.zero=a6 z) (ab:i.size=size) (ad:i.bytes=W)
  (G:z.cells.size=size) (I:0<size) {f:TypeId} {v:Value} {n:Nat} {o:List Value} (h:w.ownsRow B f size v n o) {a:Option Addr} {m cp:Nat} {news:List Value} (hl:news.length=m*size) (J: ∀u∈news,u.oneCell'=true)
  (ae:news=[]\/ ∃b off,a=a6 ⟨b,off,a7⟩/\gp w b off news) (K:n+m<=maxLen) (L:(n+m)*W<=140737488355328) (M:B<=w.heap.size) (ty:TypeId):
  ∃l w' q,(Builtin.append_ #[t,t] ty #[v,.slice a m cp]).run P w=.ok l w'/\w'.ownsRow B q size l (n+m) (o++news)/\w.grownBy w' v.ownBlock/\(l.ownBlock=v.ownBlock\/l.ownBlock=a6 w.heap.size)/\l.oneCell'=true/\(q=f\/q=d):=by
 by_cases hm:m=0
 .subst hm;have hn:news=[]:=bi (by simpa using hl);subst hn;obtain⟨N,X,s,ag,_⟩:=o5 h;refine⟨v,w,f, ?_,by simpa using h,⟨rfl,rfl,rfl,af _,fun _ _ _=>rfl⟩,.inl rfl,by rw[s];rfl,.inl rfl⟩;rw[s];cases a<;>cases N<;>simp[Builtin.append_,run_underlying x,sizeOf,typeInfo,hi,Builtin.lenOf,Builtin.firstCells,loadCells,loadCellsFrom,ag,storeCells]
 .have ah:news≠[]:=by
   intro h0;rw[h0]at hl;have:=Nat.mul_pos (Nat.pos_of_ne_zero hm) I;simp at hl;omega
  obtain⟨b,off,rfl,hc⟩:=ae.resolve_left ah;have D: ∀j u,news[j]? =a6 u->w.cell? ((⟨b,off,a7⟩:Addr).add j)=a6 u:=fun j u hj=>by
   obtain⟨ai,aj⟩:=List.getElem?_eq_some_iff.1 hj;rw[jG,hc j ai,aj]
  subst ab;subst ad;by_cases he:f=d
  .subst he;obtain⟨l,w',q,y,O,_,S⟩:=run_append_own_at (P:=P) w B t ty f i z i.size i.bytes x hi E rfl rfl G I v n o h ⟨b,off,a7⟩ m cp news hl D J K L M;obtain⟨N,X,s,_⟩:=o5 y;exact⟨l,w',f,q,y,O,S,by rw[s];rfl,.inl rfl⟩
  .
   rcases h.2 with ⟨rfl,rfl⟩|⟨g,p,A,rfl,ak,Y,ax,al,an,ay⟩
   .have hx:o=[]:=bi (by simpa using h.1);subst hx;obtain⟨l,w',q,y,O,_,S⟩:=run_append_own_at (P:=P) w B t ty d i z i.size i.bytes x hi E rfl rfl G I (.slice a7 0 0) 0 [] (World.ownsRow_nil _ _ _ _) ⟨b,off,a7⟩ m cp news hl D J K L M;obtain⟨N,X,s,_⟩:=o5 y;exact⟨l,w',d,q,y,O,S,by rw[s];rfl,.inr rfl⟩
   .by_cases hroom:n+m<=p
    .have ao:n*i.size+news.length<=A.size:=by rw[hl,an,<-Nat.add_mul];exact Nat.mul_le_mul_right _ hroom
     have hf:=run_firstCells_some (P:=P) w i.size m ⟨b,off,a7⟩ m cp news hl D;have Z:=run_storeCells_at P g (n*i.size) f news 0 A w Y (by simpa using ao) J;simp only[Nat.add_zero]at Z;have U:(Builtin.append_ #[t,t] ty #[.slice (a6 ⟨g,0,a7⟩) n p,.slice (a6 ⟨b,off,a7⟩) m cp]).run P w=
       .ok (.slice (a6 ⟨g,0,a7⟩) (n+m) p) (w.setRow g (A.toList.take (n*i.size)++news++A.toList.drop (n*i.size+news.length)).toArray):=by
      simp[Builtin.append_,run_underlying x,sizeOf,typeInfo,hi,Builtin.lenOf,hroom,hf,Addr.add_lit,Z]
     have V:(o++news).length=(n+m)*i.size:=by grind
     refine⟨_,_,f,U,⟨V,.inr ⟨g,p,_,rfl,ak,setRow_heap w g A _ f _ Y,hroom,al, ?_, ?_⟩⟩,⟨rfl,rfl,rfl,by simp,fun k _ hk=>setRow_other w g k _ (fun e=>hk (by simp[Value.ownBlock,e]))⟩,Or.inl rfl,rfl,.inl rfl⟩
     all_goals grind
    .have holds: ∀j u,o[j]? =a6 u->w.cell? ((⟨g,0,a7⟩:Addr).add j)=a6 u:=h.cells (g:=g) rfl;have U:=run_append_grow (P:=P) w t ty d i z x hi E ⟨g,0,a7⟩ n p o h.1 holds ⟨b,off,a7⟩ m cp news hl D (by omega) (by grind [maxLen]) (growslice_fits (by omega) L);have au:=grownCap_ge w (n+m) p d;have aw:grownCap w (n+m) p d<=maxLen:=grownCap_le_maxLen w (n+m) p d K;have V:(o++news).length=(n+m)*i.size:=by rw[aI,h.1,hl,Nat.add_mul]
     refine⟨_,_,d,U,⟨V,.inr ⟨w.heap.size,_,_,rfl,M,heap_alloc_new w.drew _,au,aw, ?_, ?_⟩⟩,⟨rfl,rfl,rfl,by simp,fun k hk _=>Below.heap_alloc w.drew _ k hk⟩,Or.inr rfl,rfl,.inr rfl⟩
     .simp only[Array.size_append,List.size_toArray,size_zeroCells,G,h.1,hl,<-Nat.add_mul];simp_all
     grind
theorem aaT (hT:TOk P T) {d:TypeId} (o:P.underlying t=a6 (.slice d)) {w:World} {i:TypeInfo} {z:Value} {size p:Nat} (hi:P.info? d=a6 i) (q:i.zero=a6 z) (B:i.size=size) (D:i.bytes=p)
  (E:z.cells.size=size) (G:0<size) {av:Option Addr} {b off m cp:Nat} {news:List Value} (hl:news.length=m*size) (I: ∀u∈news,u.oneCell'=true)
  (J:gp w b off news) (S:0<m) (U:m<=maxLen) (V:m*p<=140737488355328) (ty:TypeId):
  ∃e w' g,(Builtin.append_ #[t,t] ty #[.slice av 0 0,.slice (a6 ⟨b,off,a7⟩) m cp]).run P w=.ok e w'/\w'.ownsRow w.heap.size g size e m news/\Below w.heap.size w w'/\e.oneCell'=true/\g=d:=by
 have s: ∀j u,news[j]? =a6 u->w.cell? ((⟨b,off,a7⟩:Addr).add j)=a6 u:=fun j u K=>by
  obtain⟨L,M⟩:=List.getElem?_eq_some_iff.1 K;rw[jG,J j L,M]
 subst B;subst D;cases av with
 |none=>
  obtain⟨e,w',g,l,f,_,W⟩:=run_append_own_at (P:=P) w w.heap.size t ty d i z i.size i.bytes o hi q rfl rfl E G (.slice a7 0 0) 0 [] (World.ownsRow_nil _ _ _ _) ⟨b,off,a7⟩ m cp news hl s I (by omega) (by simp_all) (af _);obtain⟨av,X,N,_⟩:=o5 l;rw[Nat.zero_add,aO]at l;exact⟨e,w',d,g,l,⟨f.os,f.tape,f.output,f.size,fun k hk=>f.block k hk (by simp[Value.ownBlock])⟩,by rw[N];rfl,rfl⟩
 |some O=>
  have x:=run_append_grow (P:=P) w t ty d i z o hi q O 0 0 [] (by simp) (fun j v h=>by simp at h) ⟨b,off,a7⟩ m cp news hl s (by omega) (by grind [maxLen]) (growslice_fits (by omega) (by simp_all));have y:=grownCap_ge w (0+m) 0 d;have A:grownCap w (0+m) 0 d<=maxLen:=grownCap_le_maxLen w (0+m) 0 d (by omega);simp only[Nat.zero_add]at x y A;refine⟨_,_,d,x, ?_, ?_,rfl,rfl⟩
  .refine⟨hl,.inr ⟨w.heap.size,_,_,rfl,af _,heap_alloc_new w.drew _,y,A, ?_, ?_⟩⟩
   .have:=Nat.add_mul m (grownCap w m 0 d-m) i.size;simp_all [size_zeroCells]
   simp_all
  .exact⟨rfl,rfl,rfl,by simp,fun k hk=>Below.heap_alloc w.drew _ k hk⟩
theorem MS {u d:TypeId} (m:P.underlying t=a6 (.slice d)) (o:P.underlying u=a6 .string) {w:World} {B:Nat} {i:TypeInfo} (hi:P.info? d=a6 i) (q:i.zero=a6 (.int .u8 0)) (z:i.size=1) (x:i.bytes=1)
  {v:Value} {n:Nat} {h:List Value} (p:w.ownsRow B d 1 v n h) (s:ByteArray) (D:n+s.size<=140737488355328) (E:B<=w.heap.size) (ty:TypeId):
  ∃e w',(Builtin.append_ #[t,u] ty #[v,.string s]).run P w=.ok e w'/\w'.ownsRow B d 1 e (n+s.size) (h++Lib.strCells s)/\w.grownBy w' v.ownBlock/\(e.ownBlock=v.ownBlock\/e.ownBlock=a6 w.heap.size)/\e.oneCell'=true:=by
 obtain⟨e,w',f,A,G,L⟩:=Lib.run_append_own_string (P:=P) w B t u ty d i m o hi q z x v n h p s (by simp only[maxLen];omega) D E;obtain⟨M,N,I,_⟩:=o5 A;refine⟨e,w',f,A,G, ?_,by rw[I];rfl⟩;have O:h.length=n:=by simpa using p.1
 rcases p.2 with ⟨rfl,rfl⟩|⟨g,y,J,rfl,S,K,U,V,W,X⟩
 .by_cases hm:s.size=0
  .simp_all
  .right;have l:=run_append_nil_string (P:=P) w t u ty d i (.int .u8 0) m o hi q s (by omega) (by omega) (by rw[x];omega);rw[l]at f;cases f;rfl
 .by_cases hroom:n+s.size<=y
  .left;have l:=Lib.run_append_room_string (P:=P) w t u ty d i m o hi z g n y J K s hroom (by omega);rw[l]at f;cases f;rfl
  .right;have holds: ∀j u,h[j]? =a6 u->w.cell? ((⟨g,0,a7⟩:Addr).add j)=a6 u:=p.cells (g:=g) rfl;have l:=Lib.run_append_grow_string (P:=P) w t u ty d i (.int .u8 0) m o hi q ⟨g,0,a7⟩ n y h (by simp_all) holds s (by omega) (by omega) (by rw[x];exact growslice_fits (by omega) (by omega));rw[l]at f;cases f;rfl
end
end
section
open Option renaming some → a6, none → a7
open Bool renaming and_eq_true → ae
open List renaming map_cons → aj, length_append → aI, nil_append → aO
open Nat renaming le_refl → af, eq_of_beq_eq_true → ag, le_mul_of_pos_right → bn
open Go.RowKit
section
variable {P:Program} {T:TT} {W0:World} {c:Cx} {R:Type} {r:R} {t:TypeId}
theorem tK {d:Type} {l:List d} {b:Nat} (h:dN l b=true):l.length*b<=140737488355328:=by
 unfold dN kF at h;simp_all
theorem eY.one {w:World} {fr:Nat->Prop} {e:Ty}: ∀(xs:List e.den) (g:List Value),eY (dY w fr e) e.size xs g-> ∀u∈g,u.oneCell'=true
 |[],_,h=>by cases h;simp
 |y::i,_,⟨d,j,l,p,m,o⟩=>by
  subst l;intro u f;rcases List.mem_append.1 f with f|f
  .exact dY.one _ _ _ m u f
  .exact eY.one i j o u f
theorem af1 (g:c.Ok W0) {st:St} (z:c.hp=st.hp) (A:c.nxt=st.nxt) {e:Ty} (B:0<e.size) {id d:Nat} {xs:List e.den} (i:dG c.hp id=a6 (.arr e d xs)) {f:Value} {w':World} {m:TypeId} {ws:List e.den} {o:List Value}
  (M:w'.ownsRow W0.heap.size m e.size f ws.length o) (p:eY (dY c.w c.free e) e.size ws o) (l:c.w.grownBy w' (c.mu id).v.ownBlock) (D: ∀b,(c.mu id).v.ownBlock=a6 b->W0.heap.size<=b)
  (N:f.ownBlock=(c.mu id).v.ownBlock\/f.ownBlock=a6 c.w.heap.size) (E:f.oneCell'=true) (G:e=.int .u8->m=lS):
  ∃c',yH W0 c st c' {st with hp:=iH st.hp id (.arr e (d+1) ws)}/\c'.w=w'/\bI c' (.slc id (d+1) a7) f:=by
 have I:Below W0.heap.size W0 w':=g.bel.grown l g.size D;have q:(dC.arr e d xs).like (c.mu id) (.arr e (d+1) ws) ⟨0,f⟩:=⟨by omega,fun h=>by omega⟩;have s: ∀b,b<c.w.heap.size->(dC.arr e d xs).blk (c.mu id)≠a6 b->w'.heap[b]? =c.w.heap[b]? :=fun b j O=>l.block b j (by
  grind [dC.blk])
 have u: ∀b,(dC.arr e (d+1) ws).blk ⟨0,f⟩=a6 b->(dC.arr e d xs).blk (c.mu id)=a6 b\/c.w.heap.size<=b:=fun b j=>by
  simp only[dC.blk]at j ⊢
  grind
 have x: ∀(b:Nat) (L:Loop),(dC.arr e d xs).blk (c.mu id)=a6 b->c.w.heap[b]? =a6 (Obj.loop L)-> ∃J:Loop,w'.heap[b]? =a6 (Obj.loop J):=fun b L j p=>absurd p ((g.obj id _ i).no_loop (by simp) j);have y:=Cx.Le.put (w:=w') g i q l.size s u x;refine⟨c.put id (.arr e (d+1) ws) ⟨0,f⟩ w',⟨by simp[Cx.put,z],A,rfl,rfl,g.put i q I l.size s u x ?_,y⟩,rfl, ?_⟩
 .refine⟨B,m,o, ?_,eY.mono (dY.mono y.free e) _ _ p,G⟩;simp_all [Cx.put,upd_same]
 .simp only[bI];refine⟨E,.inl ⟨_,Cx.put_get i⟩,fun S U V K=> ?_⟩;rw[Cx.put_get i]at K;simp_all [iJ,Cx.put,upd_same]
theorem MR (hT:TOk P T) (o:c.Ok W0) {st:St} (J:c.hp=st.hp) (K:c.nxt=st.nxt) {f:TypeId} (L:P.underlying t=a6 (.slice f)) (hk:(T.at f).known=true) {e:Ty} (j:(T.at f).size=e.size) (M:0<e.size) (N:0<(T.at f).bytes)
  {id p:Nat} {xs:List e.den} (y:dG c.hp id=a6 (.arr e p xs)) {v:Value} {k cp:Nat} {g:Option Addr} (A:(c.mu id).v=.slice g xs.length cp) (ay:k<=xs.length) (O:v=.slice g k cp)
  {d:List e.den} {a:Option Addr} {m:Nat} {s:List Value} (u:eY (dY c.w c.free e) e.size d s) (S:s=[]\/ ∃b off,a=a6 ⟨b,off,a7⟩/\b<c.w.heap.size/\gp c.w b off s)
  (az:((xs.take k++d).length)*(T.at f).bytes<=140737488355328) (ty:TypeId) (U:e=.int .u8->f=lS):
  ∃c' x,yH W0 c st c' {st with hp:=iH st.hp id (.arr e (p+1) (xs.take k++d))}/\(Builtin.append_ #[t,t] ty #[v,.slice a d.length m]).run P c.w=.ok x c'.w/\bI c' (.slc id (p+1) a7) x:=by
 obtain⟨_,V,W,B,X,Y⟩:=o.obj id _ y;obtain⟨i,z,Z,ab,ad,hz,ah,aA⟩:=hT.info hk;have ai:z.cells.size=e.size:=by
  have:=congrArg List.length ah;rw[hT.zlen hk,j]at this;simpa using this
 have ak:=eY.take k _ _ X;have al:=eY.length _ _ u;have an:=eY.one _ _ u;have aB:(xs.take k).length=k:=by simp;omega
 have D:c.w.ownsRow W0.heap.size V e.size v k (W.take (k*e.size)):=by
  rw[A]at B;rcases B.2 with ⟨l,e2⟩|⟨g',aF,aG,l,_⟩
  .simp only[Value.slice.injEq]at l;obtain⟨rfl,_,rfl⟩:=l;simp_all [World.ownsRow_nil]
  grind [Vm]
 have ao:k+d.length<=maxLen:=by
  have h2:k+d.length<=(k+d.length)*(T.at f).bytes:=bn _ N
  grind [maxLen]
 obtain⟨x,w',l,hr,au,E,G,av,aw⟩:=EH L Z hz ab ad (by rw[ai,j]) (by omega) (by rw[j];exact D) (a:=a) (cp:=m) (by rw[j];exact al) an (S.imp (fun h=>h) fun⟨b,off,q1,_,q3⟩=>⟨b,off,q1,q3⟩) ao
  (by simp_all) o.size ty
 rw[j]at au;have I:v.ownBlock=(c.mu id).v.ownBlock:=by rw[A,O];cases g<;>rfl
 have ax: ∀b,(c.mu id).v.ownBlock=a6 b->W0.heap.size<=b:=fun b hb=>(World.ownsRow.lt D b (I.trans hb)).1;rw[I]at E G;obtain⟨c',d1,d2,d3⟩:=af1 o J K M y (ws:=xs.take k++d) (by simp_all) (eY.append _ _ _ _ ak u) E ax G av (fun h=>aw.elim (fun q=>q.trans (Y h)) fun q=>q.trans (U h))
 grind
theorem Il {w:World} {fr:Nat->Prop} (s:List UInt8):eY (dY w fr (.int .u8)) (Ty.int .u8).size (cZ s) (Lib.strCells ⟨s.toArray⟩):=by
 induction s with
 |nil=>rfl
 |cons b l d=>
  refine⟨[.int .u8 b.toNat],Lib.strCells ⟨l.toArray⟩,by simp[Lib.strCells],rfl,rfl, ?_⟩
  assumption
theorem aid (hT:TOk P T) (p:c.Ok W0) {cl:Bool} {dst:Option Tmp} {ty:TypeId} {pos:String} {after:Array Edge} {guard:Option (Nat×Bool)} {st:St} {a:Act} {K:bH->St->Option R} {args:Array Operand} {t t':TypeId} {s x:bH} (I:c.hp=st.hp) (W:c.nxt=st.nxt) (X:bC c st.fr a.tmps.toList)
  (A:args.toList.map (gy st.fr)=[s,x]) (h:xM T cl dst t t' s x st K=a6 r):EF P W0 c st ⟨dst,.call {callee:=.builtin .append,args:=args,argTypes:=[t,t'].toArray},ty,pos,after,guard⟩ a K r:=by
 obtain⟨al⟩:=args
 match al,A with
 |[B,J],A=>
  simp only[aj,List.map_nil,List.cons.injEq,and_true]at A;obtain⟨rfl,rfl⟩:=A;have m:=dH X B;have D:=dH X J;have aG: ∀w,(execOp a.eval ⟨dst,.call {callee:=.builtin .append,args:=[B,J].toArray,argTypes:=[t,t'].toArray},ty,pos,after,guard⟩).run P w=
    ((Builtin.append_ #[t,t'] ty #[a.eval B,a.eval J]).run P w).andThen fun v E=>.ok (.value v) E:=fun w=>by
   simp[execOp,resolve,invoke,builtin,Sem.run_bind]
  unfold xM at h;split at h
  .rename_i d y an ao
   rw[ao]at D;simp only[bI]at D;have D:=D.str_inv;split at h
   .rename_i Y
    replace h:=di h;obtain⟨Z,h⟩:=h;simp only[ae]at Z;obtain⟨⟨au,av⟩,ab⟩:=Z;have ad:=CS hT au;obtain⟨hu,hk,aH,aJ,aK⟩:=nX hT an av;have ab:(T.at d).bytes=1:=ag ab;obtain⟨i,z,L,aP,aQ,hz,aS,aU⟩:=hT.info hk;have M:d=lS:=hT.byte hk Y;have ah:i.zero=a6 (.int .u8 0):=by
     rcases(hT d hk).2.2.1 with q|q
     .simp_all
     .rw[Y]at q;have aw:(T.at d).k=.int .u8:=by
       cases hkq:(T.at d).k with
       |int k=>simp_all [kH]
       |struct fs=>
        rw[hkq]at q;simp only[kH]at q;cases fs with
        |nil=>simp[ji]at q
        |cons f l=>
         grind [ji]
       |slice e'=>
        rw[hkq]at q;simp only[kH]at q;cases hq:(T.at e').ty<;>rw[hq]at q<;>simp at q
       |bool=>rw[hkq]at q;cases q
       |str=>rw[hkq]at q;cases q
       |other=>rw[hkq]at q;cases q
       |fn=>rw[hkq]at q;cases q
       |ptr e'=>rw[hkq]at q;cases q
       |map _ _=>rw[hkq]at q;cases q
      exact hT.zero_byte hk aw L
    cases hsv:gy st.fr B with
    |nils=>
     rw[hsv]at h m;simp only at h;simp only[bI]at m;obtain⟨j,h⟩:=fK h;have j:y.length<=140737488355328:=of_decide_eq_true j;obtain⟨v',E,hr,o,g,ai,N⟩:=MS (ty:=ty) hu ad L ah (by omega) (by omega) (World.ownsRow_nil c.w c.w.heap.size d 1) ⟨y.toArray⟩ (by show 0+y.toArray.size<=_;simpa using j) (af _);obtain⟨id,n',f1,f2,f3,f4⟩:=iR h;have ax:Below c.w.heap.size c.w E:=⟨g.os,g.tape,g.output,g.size,fun k hk=>g.block k hk (by simp[Value.ownBlock])⟩;have ay:0+(⟨y.toArray⟩:ByteArray).size=(cZ y).length:=by show 0+y.toArray.size=_;simp[cZ]
     rw[aO,ay]at o;obtain⟨O,S,d2,U⟩:=oP p I W f1 f2 f3 (y:=.int .u8) (by simp[Ty.size]) ax d _ o (Il y) N (fun _=>M);exact⟨_,_,O,_,f4,S,U,.inl (by simp_all)⟩
    |slc id ver vw=>
     rw[hsv]at h m;simp only at h;split at h
     .rename_i u xs G
      rw[<-I]at G;replace h:=di h;obtain⟨V,h⟩:=h;have V:u=ver:=by simpa using V
      subst V;split at h
      .replace h:=fK h;obtain⟨j,h⟩:=h;have j:=tK j;simp only[bI]at m;have az:=(m.2.2 _ _ _ G).2 rfl;simp only[iJ]at az;obtain⟨_,e0,zs,ak,hL,aA⟩:=p.obj id _ G;have aB:e0=d:=(aA rfl).trans M.symm;subst aB;have aF:(⟨y.toArray⟩:ByteArray).size=(cZ y).length:=by show y.toArray.size=_;simp[cZ]
       obtain⟨v',E,hr,o,g,ai,N⟩:=MS (ty:=ty) hu ad L ah (by omega) (by omega) ak ⟨y.toArray⟩ (by simp_all) p.size;rw[aF,<-aI]at o;obtain⟨O,S,d2,U⟩:=af1 p I W (e:=.int .u8) (by simp[Ty.size]) G o (eY.append _ _ _ _ hL (Il y)) g (fun b hb=>(World.ownsRow.lt ak b hb).1) ai N (fun _=>M);exact⟨_,_,O,_,h,S,U,.inl (by simp_all)⟩
      .cases h
     .cases h
    |_=>rw[hsv]at h;cases h
   .cases h
  .cases h
theorem am1 (hT:TOk P T) (D:c.Ok W0) {cl:Bool} {call:fO R} {o:Oper} {st:St} {a:Act} {K:bH->St->Option R} {args:Array Operand} {ts:Array TypeId} (E:c.hp=st.hp) (U:c.nxt=st.nxt) (aG:bC c st.fr a.tmps.toList)
  (ho:o.op=.call {callee:=.builtin .append,args:=args,argTypes:=ts}) (h:dR T cl call o st K=a6 r):EF P W0 c st o a K r:=by
 obtain⟨aV,op,O,aW,aX,aY⟩:=o;simp only at ho;subst ho;simp only[dR,jH]at h;split at h<;>try (cases h;done)
 all_goals try (rename_i hb _;cases hb;done)
 rename_i s x hb ab
 split at h<;>try (cases h;done)
 rename_i t t' aH
 obtain⟨ts⟩:=ts;simp only at aH;subst aH;rw[cond_eq_ite]at h;split at h
 rotate_left
 .grind [aid]
 rename_i ai
 have ai:t=t':=by simpa using ai
 subst ai;obtain⟨al⟩:=args
 match al,ab with
 |[s0,x0],ab=>
  simp only[aj,List.map_nil,List.cons.injEq,and_true]at ab;obtain⟨rfl,rfl⟩:=ab;have f:=dH aG s0;have hx:=dH aG x0;have aJ: ∀w,(execOp a.eval ⟨aV,.call {callee:=.builtin .append,args:=[s0,x0].toArray,argTypes:=[t,t].toArray},O,aW,aX,aY⟩).run P w=
    ((Builtin.append_ #[t,t] O #[a.eval s0,a.eval x0]).run P w).andThen fun v w'=>.ok (.value v) w':=fun w=>by
   simp[execOp,resolve,invoke,builtin,Sem.run_bind]
  unfold Gv at h;split at h
  .rename_i et ad
   split at h
   .rename_i e he
    split at h
    .cases h
    .rename_i j aK
     rw[<-E]at aK;obtain⟨a2,m2,ak,aP,l,ah⟩:=Xw D aK hx;split at h
     .
      rename_i V
      rw[V]at f;simp only[bI]at f;replace h:=fK h;obtain⟨p,h⟩:=h;simp only[ae]at p;obtain⟨y,hk,d,G,I⟩:=nX hT ad p.1;have W:=tK p.2;obtain⟨i,z,J,an,ao,hz,au,aZ⟩:=hT.info hk;have aw:z.cells.size=e.size:=by
       have:=congrArg List.length au;rw[hT.zlen hk,d]at this;simpa using this
      have ax:=eY.length _ _ l;have ay:=eY.one _ _ l;have aQ:0+j.length<=maxLen:=by
       have h2:j.length<=j.length*(T.at et).bytes:=bn _ I;simp only[maxLen];omega
      obtain⟨v',w',e1,hr,X,L,ch,az,aA⟩:=EH y J hz an ao (by rw[aw,d]) (by omega) (World.ownsRow_nil c.w c.w.heap.size et (T.at et).size) (a:=a2) (cp:=m2) (by rw[d];exact ax) ay (ah.imp (fun h=>h) fun⟨b,aS,q1,_,q3⟩=>⟨b,aS,q1,q3⟩) aQ
       (by simp_all) (af _) O
      rw[d,aO,Nat.zero_add]at X;obtain⟨id,n',f1,f2,f3,f4⟩:=iR h;have bd:Below c.w.heap.size c.w w':=⟨L.os,L.tape,L.output,L.size,fun k hk=>L.block k hk (by simp[Value.ownBlock])⟩;obtain⟨M,A,d2,N⟩:=oP D E U f1 f2 f3 G bd e1 ak X l az (fun q=>(aA.elim (fun q=>q) fun q=>q).trans (hT.byte hk (by rw[he,q])));exact⟨_,_,M,_,f4,A,N,.inl (by simp_all)⟩
     .
      rename_i V
      rw[V]at f;simp only[bI]at f;obtain⟨Y,f⟩:=f;replace h:=fK h;obtain⟨p,h⟩:=h;simp only[ae]at p;obtain⟨y,hk,d,G,I⟩:=nX hT ad p.1;have W:=tK p.2;obtain⟨i,z,J,an,ao,hz,au,aZ⟩:=hT.info hk;have aw:z.cells.size=e.size:=by
       have:=congrArg List.length au;rw[hT.zlen hk,d]at this;simpa using this
      have ax:=eY.length _ _ l;have ay:=eY.one _ _ l;have aQ:0+j.length<=maxLen:=by
       have h2:j.length<=j.length*(T.at et).bytes:=bn _ I;simp only[maxLen];omega
      cases hlt:KZ 0 j.length with
      |false=>
       rw[hlt]at h;simp only[ac]at h;have h0:j.length=0:=by simpa [KZ] using hlt
       refine⟨.emp,.slice Y 0 0,c,st,h,yH.refl D E U,by simp only[bI];exact⟨Y,rfl⟩,.inl ?_⟩;rw[aJ,f,aP,h0];cases a2<;>cases Y<;>simp[Builtin.append_,run_underlying y,sizeOf,typeInfo,J,Builtin.lenOf,Builtin.firstCells,loadCells,loadCellsFrom,storeCells]
      |true=>
       rw[hlt]at h;simp only[aa]at h;have bf:0<j.length:=by simpa [KZ] using hlt
       have bg:ak≠[]:=by
        grind [Nat.mul_pos]
       obtain⟨b,aS,rfl,_,hc⟩:=ah.resolve_left bg;obtain⟨v',w',e1,hr,X,L,az,aA⟩:=aaT hT y J hz an ao (by rw[aw,d]) (by omega) (w:=c.w) (av:=Y) (cp:=m2) (by rw[d];exact ax) ay hc bf (by omega) W O;rw[d]at X;obtain⟨id,n',f1,f2,f3,f4⟩:=iR h;obtain⟨M,A,d2,N⟩:=oP D E U f1 f2 f3 G L e1 ak X l az (fun q=>aA.trans (hT.byte hk (by rw[he,q])));exact⟨_,_,M,_,f4,A,N,.inl (by simp_all)⟩
     .
      rename_i id bi vw V
      rw[V]at f;split at h
      .rename_i e' u xs Z
       rw[<-E]at Z;replace h:=di h;obtain⟨aB,h⟩:=h;have aB:u=bi:=by simpa using aB
       subst aB;split at h
       .rename_i cn aF
        have bt:=gI aF;cases bt;rw[fF]at aF;cases aF;simp only[bI]at f;have S:=(f.2.2 _ _ _ Z).2 rfl;obtain⟨_,e0,zs,cb,hL,cu⟩:=D.obj id _ Z;obtain⟨g,cp,hv,p,_⟩:=o5 cb;split at h
        .replace h:=fK h;obtain⟨B,h⟩:=h;simp only[ae]at B;obtain⟨y,hk,d,G,I⟩:=nX hT ad B.1;have W:=tK B.2;simp only[iJ]at S;rw[hv]at S;obtain⟨M,v',A,d2,N⟩:=MR hT D E U y hk d G I Z hv (af _) S (m:=m2) l ah (by simp_all) O (fun q=>hT.byte hk (by rw[he,q]));rw[List.take_length]at A;exact⟨_,_,M,_,h,A,N,.inl (by simp_all)⟩
        .rename_i lo J
         replace h:=fK h;obtain⟨B,h⟩:=h;simp only[ae,bJ,beq_iff_eq]at B;obtain⟨B,rfl,cc⟩:=B;obtain⟨y,hk,d,G,I⟩:=nX hT ad B;have W:=tK cc;simp only[iJ]at S;obtain⟨g',m',cv,aU,p1,p2,p3,S⟩:=S;rw[hv]at aU;cases aU;have cd:a.eval s0=.slice g J.toNat cp:=by
          simp_all [Addr.add]
         obtain⟨M,v',A,d2,N⟩:=MR hT D E U y hk d G I Z hv (k:=J.toNat) (by omega) cd (m:=m2) l ah W O (fun q=>hT.byte hk (by rw[he,q]));exact⟨_,_,M,_,h,A,N,.inl (by rw[aJ,aP,d2];rfl)⟩
       .cases h
      .cases h
     .cases h
   .cases h
  .cases h
end
end
section
open Option renaming some → a6, none → a7
open Bool renaming and_eq_true → ae
open List renaming map_cons → aj, append_assoc → ax, drop_of_length_le → aB, length_append → aI, nil_append → aO
open Nat renaming le_refl → af, eq_of_beq_eq_true → ag, le_trans → aG
open Go.RowKit
section
variable {P:Program} {T:TT} {W0:World} {c:Cx} {R:Type} {r:R} {t:TypeId}
theorem En {cs vs d:List bH} {off:Nat} (h:putCells cs off vs=a6 d):off+vs.length<=cs.length/\d=cs.take off++vs++cs.drop (off+vs.length):=by
 unfold putCells at h;replace h:=di h;simp_all
theorem KN (hT:TOk P T) (hk:(T.at t).known=true) {w:World} {g o:Nat} {d:Array Value} {e:TypeId} (f:w.heap[g]? =a6 (.cells d e (0,0))) {v:Value} (hl:v.cells.size=(T.at t).size) (h:o+v.cells.size<=d.size)
  (i: ∀u∈v.cells.toList,u.oneCell'=true):
  (Instr.storeAt t (.pointer (a6 ⟨g,o,a7⟩)) v).run P w=.ok () (w.setRow g (d.toList.take o++v.cells.toList++d.toList.drop (o+v.cells.size)).toArray):=by
 have j:=run_storeCells_at P g o e v.cells.toList 0 d w f (by simpa using h) i;simp only[Nat.add_zero,Array.length_toList]at j;simp only[Instr.storeAt,Instr.sureAddr,Sem.run_bind,Sem.run_pure,Result.andThen_ok,storeVar,hT.sizeOf hk w,Sem.run_ite];simp_all
theorem am3 (hT:TOk P T) (s:c.Ok W0) {dst:Option Nat} {ty:TypeId} {pos} {after} {guard} {st:St} {a:Act} {K:St->Option R} {x y:Operand} (W:c.hp=st.hp) (an:c.nxt=st.nxt) (ao:bC c st.fr a.tmps.toList)
  (h:GG T st t (gy st.fr x) (gy st.fr y) K=a6 r): ∃c' au,K au=a6 r/\yH W0 c st c' au/\(execOp a.eval ⟨dst,.store t x y,ty,pos,after,guard⟩).run P c.w=.ok .skip c'.w:=by
 simp only[GG]at h;split at h
 .cases h
 rename_i m aA
 replace h:=di h;obtain⟨hk,h⟩:=h;simp only[ae,beq_iff_eq]at hk;obtain⟨hk,av⟩:=hk;obtain⟨r1,r2⟩:=Iw aA (dH ao y);have hl:m.length=(a.eval y).cells.size:=by simpa using bC.length _ _ r1
 have D:=dH ao x;have aw: ∀w w',(Instr.storeAt t (a.eval x) (a.eval y)).run P w=.ok () w'->(execOp a.eval ⟨dst,.store t x y,ty,pos,after,guard⟩).run P w=.ok .skip w':=fun w w' hw=>by
  simp_all [execOp]
 split at h
 .rename_i id f ab
  rw[ab]at D;split at h
  .rename_i E cs z
   split at h
   .rename_i aZ X
    obtain⟨p1,rfl⟩:=En X;rw[<-W]at z;simp only[bI]at D;have hv:=D.2.2 _ _ z;obtain⟨hB,us,h3,h4,h5⟩:=s.obj id _ z;have bd:cs.length=us.size:=by simpa using bC.length _ _ h4
    have G:=KN (o:=f) hT hk h3 (v:=a.eval y) (by rw[<-hl,av]) (by omega) r2;rw[<-hv]at G;have J:(dC.box E cs).like (c.mu id) (.box E (cs.take f++m++cs.drop (f+m.length))) (c.mu id):=rfl;have M:c.w.heap.size<=(c.w.setRow (c.mu id).blk (us.toList.take f++(a.eval y).cells.toList++us.toList.drop (f+(a.eval y).cells.size)).toArray).heap.size:=by simp
    have N: ∀b,b<c.w.heap.size->(dC.box E cs).blk (c.mu id)≠a6 b->(c.w.setRow (c.mu id).blk (us.toList.take f++(a.eval y).cells.toList++us.toList.drop (f+(a.eval y).cells.size)).toArray).heap[b]? =c.w.heap[b]? :=
     fun b _ ad=>setRow_other _ _ _ _ (fun e=>ad (by simp[dC.blk,e]))
    have O: ∀b,(dC.box E (cs.take f++m++cs.drop (f+m.length))).blk (c.mu id)=a6 b->(dC.box E cs).blk (c.mu id)=a6 b\/c.w.heap.size<=b:=fun b A=>.inl A;have S: ∀(b:Nat) (L:Loop),(dC.box E cs).blk (c.mu id)=a6 b->c.w.heap[b]? =a6 (Obj.loop L)-> ∃L':Loop,(c.w.setRow (c.mu id).blk (us.toList.take f++(a.eval y).cells.toList++us.toList.drop (f+(a.eval y).cells.size)).toArray).heap[b]? =a6 (Obj.loop L'):=fun b L A U=>absurd U ((s.obj id _ z).no_loop (by simp) A);have Y:=Cx.Le.put (w:=c.w.setRow (c.mu id).blk (us.toList.take f++(a.eval y).cells.toList++us.toList.drop (f+(a.eval y).cells.size)).toArray) s z J M N O S;have ah:Below W0.heap.size W0 (c.w.setRow (c.mu id).blk (us.toList.take f++(a.eval y).cells.toList++us.toList.drop (f+(a.eval y).cells.size)).toArray):=
     s.bel.trans ⟨rfl,rfl,rfl,by simp,fun k hk=>setRow_other _ _ _ _ (by omega)⟩
    refine⟨c.put id _ (c.mu id) _,_,h,⟨by simp[Cx.put,W],an,rfl,rfl,s.put z J ah M N O S ?_,Y⟩,aw _ _ G⟩;refine⟨by simp only[Cx.put,upd_same];exact hB,(us.toList.take f++(a.eval y).cells.toList++us.toList.drop (f+(a.eval y).cells.size)).toArray, ?_, ?_, ?_⟩
    .simp only[Cx.put,upd_same]
     grind [setRow_heap]
    .grind [bC.append,bC.take,bC.drop,bC.le]
    grind
   .cases h
  .cases h
 .rename_i id aF i f ab
  rw[ab]at D;split at h
  .rename_i e u j I
   rw[<-W]at I;replace h:=di h;obtain⟨ai,h⟩:=h;have ai:u=aF:=by simpa using ai
   subst ai;replace h:=di h;obtain⟨V,h⟩:=h;have V:i<j.length:=by simpa [KZ] using V
   split at h
   .rename_i cs X
    split at h
    .rename_i x' aH
     simp only[bI]at D;obtain⟨B,n',aJ,q1,q2⟩:=(D.2.2 _ _ _ I).2 rfl;obtain⟨aK,e0,zs,ak,U,aP⟩:=s.obj id _ I;rcases ak.2 with ⟨Z,e2⟩|⟨g,bf,l,Z,e2,e3,e4,e5,e6,e7⟩
     .omega
     rw[q1]at Z;simp only[Value.slice.injEq,Option.some.injEq,Addr.mk.injEq,and_true]at Z;obtain⟨rfl,rfl,rfl⟩:=Z;obtain⟨d,d1,d2,p,q,d3,d4⟩:=eY.at_ i j zs V U;have aQ:j.getD i e.dflt=j[i]:=by simp[List.getD,V]
     rw[aQ]at X;obtain⟨p1,rfl⟩:=En X;have hf:=Au (c:=c) e _ _ d2;have bg:=bC.length _ _ hf;have bi:f+m.length<=d.length:=by omega
     have aS:=bC.append _ _ _ _ (bC.append _ _ _ _ (bC.take f _ _ hf) r1) (bC.drop (f+m.length) _ _ hf);have ay:=mF aH aS;have aU:=dY.length _ _ _ ay;have al:l.toList=p++d++q++l.toList.drop (j.length*e.size):=by
      grind [List.take_append_drop]
     have z:l.size=j.length*e.size+(l.toList.drop (j.length*e.size)).length:=by
      have h1:=congrArg List.length al;have h2:=congrArg List.length d3;rw[ak.1]at h2
      grind
     have az:=congrArg List.length d3;rw[ak.1]at az;simp only[aI]at az;have G:=KN (o:=i*e.size+f) hT hk e3 (v:=a.eval y) (by rw[<-hl,av]) (by omega) r2;rw[<-q2]at G;have aV:l.toList.take (i*e.size+f)++(a.eval y).cells.toList++l.toList.drop (i*e.size+f+(a.eval y).cells.size)=p++(d.take f++(a.eval y).cells.toList++d.drop (f+m.length))++q++l.toList.drop (j.length*e.size):=by
      have t1:l.toList.take (i*e.size+f)=p++d.take f:=by
       rw[al,ax,ax,List.take_append,List.take_of_length_le (by omega),d4,Nat.add_sub_cancel_left,List.take_append_of_le_length (by omega)]
      have t2:l.toList.drop (i*e.size+f+(a.eval y).cells.size)=d.drop (f+m.length)++q++l.toList.drop (j.length*e.size):=by
       conv=>lhs;rw[al]
       rw[ax,ax,List.drop_append,aB (by omega),aO,d4,List.drop_append,List.drop_append];have z1:i*e.size+f+(a.eval y).cells.size-i*e.size=f+m.length:=by omega
       have z2:f+m.length-d.length=0:=by omega
       rw[z1,z2];simp
      rw[t1,t2];simp
     rw[aV]at G;have aW:=eY.set x' (d.take f++(a.eval y).cells.toList++d.drop (f+m.length)) aU ay i j p d q V (by grind) d4 d1;generalize d.take f++(a.eval y).cells.toList++d.drop (f+m.length)=d' at*;have J:(dC.arr e u j).like (c.mu id) (.arr e u (ig j i x')) (c.mu id):=⟨af _,fun _=>⟨rfl,rfl⟩⟩;have aX:(dC.arr e u j).blk (c.mu id)=a6 B:=by simp[dC.blk,q1,Value.ownBlock]
     have M:c.w.heap.size<=(c.w.setRow B (p++d'++q++l.toList.drop (j.length*e.size)).toArray).heap.size:=by simp
     have N: ∀b,b<c.w.heap.size->(dC.arr e u j).blk (c.mu id)≠a6 b->(c.w.setRow B (p++d'++q++l.toList.drop (j.length*e.size)).toArray).heap[b]? =c.w.heap[b]? :=
      fun b _ ad=>setRow_other _ _ _ _ (fun e=>ad (by rw[aX,e]))
     have O: ∀b,(dC.arr e u (ig j i x')).blk (c.mu id)=a6 b->(dC.arr e u j).blk (c.mu id)=a6 b\/c.w.heap.size<=b:=fun b A=>.inl A;have S: ∀(b:Nat) (L:Loop),(dC.arr e u j).blk (c.mu id)=a6 b->c.w.heap[b]? =a6 (Obj.loop L)-> ∃L':Loop,(c.w.setRow B (p++d'++q++l.toList.drop (j.length*e.size)).toArray).heap[b]? =a6 (Obj.loop L'):=fun b L A U=>absurd U ((s.obj id _ I).no_loop (by simp) A);have Y:=Cx.Le.put (w:=c.w.setRow B (p++d'++q++l.toList.drop (j.length*e.size)).toArray) s I J M N O S;have ah:Below W0.heap.size W0 (c.w.setRow B (p++d'++q++l.toList.drop (j.length*e.size)).toArray):=
      s.bel.trans ⟨rfl,rfl,rfl,by simp,fun k hk=>setRow_other _ _ _ _ (by omega)⟩
     refine⟨c.put id _ (c.mu id) _,_,h,⟨by simp[Cx.put,W],an,rfl,rfl,s.put I J ah M N O S ?_,Y⟩,aw _ _ G⟩;refine⟨aK,e0,p++d'++q, ?_,eY.mono (dY.mono Y.free e) _ _ aW,aP⟩;have aY:(p++d'++q).length=j.length*e.size:=by
      grind
     simp only[Cx.put,upd_same,ig,List.length_set];refine⟨aY,.inr ⟨B,aJ,_,q1,e2,setRow_heap c.w _ l _ e0 _ e3,e4,e5, ?_, ?_⟩⟩
     all_goals grind
    .cases h
   .cases h
  .cases h
 .cases h
theorem Em {w:World} {B:Nat} {e:TypeId} {size n:Nat} {v d:Value} {i:List Value} (h:w.ownsRow B e size v n i) {hi:Int} (D:0<=hi) (E:hi<=n) (s:iJ size v (a6 (0,hi)) d):
  w.ownsRow B e size d hi.toNat (i.take (hi.toNat*size))/\ ∀b,d.ownBlock=a6 b->v.ownBlock=a6 b:=by
 obtain⟨a,m,cp,j,_,_,G,u⟩:=s;have hk:hi.toNat<=n:=by omega
 have q:(i.take (hi.toNat*size)).length=hi.toNat*size:=by
  rw[List.length_take,h.1];simp_all
 rcases h.2 with ⟨f,l⟩|⟨g,I,x,f,l,y,J,z,A,K⟩
 .rw[j]at f;cases f;subst l;have:hi.toNat=0:=by omega
  have o:d=.slice a7 0 0:=by rw[u,this];rfl
  subst o;refine⟨⟨q,.inl ⟨rfl,this⟩⟩,fun b p=>by cases p⟩
 .rw[j]at f;cases f;have o:d=.slice (a6 ⟨g,0,a7⟩) hi.toNat cp:=by
   grind [Addr.add]
  subst o;subst j;refine⟨⟨q,.inr ⟨g,cp,x,rfl,l,y,by omega,z,A, ?_⟩⟩,fun b p=>p⟩
  grind
theorem aq4 {st:St} {c':Cx} {j:St} (hd:yH W0 c st c' j) {id off i:Nat} {l:TypeId} {cs:List bH} {e:Ty} {w:Nat} {xs:List e.den} {hi:Int} (ai:id≠i)
  (s:dG j.hp id=a6 (.box l cs)) (g:dG j.hp i=a6 (.arr e w xs)) (ak:cs.getD off .undef=.slc i w (a6 (0,hi))):
  ∃u,yH W0 c st u {j with hp:=iH (iH j.hp i (.arr e (w+1) (xs.take hi.toNat))) id (.box l (cs.set off (.slc i (w+1) a7)))}/\u.w=c'.w:=by
 have m:=hd.ok;rw[<-hd.hp]at s g;obtain⟨hB,us,h3,v,G⟩:=m.obj id _ s;have al:cs.length=us.toList.length:=bC.length _ _ v;have an:off<cs.length:=by
  grind
 have ao:off<us.toList.length:=by omega
 have I:bI c' (.slc i w (a6 (0,hi))) us.toList[off]:=by
  have:=bC.getD v off;simp_all
 obtain⟨J,K,M,x,d,N⟩:=m.obj i _ g;have o:=I;simp only[bI]at o;have y:=(o.2.2 _ _ _ g).2 rfl;have⟨O,S⟩:0<=hi/\hi<=bD xs:=by
  obtain⟨a1,n1,f,z,_,U,V,_⟩:=y;obtain⟨a2,c2,W,_⟩:=o5 x;rw[W]at z;cases z;exact⟨U,V⟩
 obtain⟨au,A⟩:=Em x O S y;have hk:(dC.arr e w xs).like (c'.mu i) (.arr e (w+1) (xs.take hi.toNat)) ⟨(c'.mu i).blk,us.toList[off]⟩:=⟨by omega,fun e=>by omega⟩;have B:=Cx.Le.put (w:=c'.w) m g hk (af _) (fun _ _ _=>rfl) (fun b h=>.inl (A b h)) (fun b L _ d=>⟨L,d⟩);have p:=Cx.Ok.put (w:=c'.w) m g hk m.bel (af _) (fun _ _ _=>rfl) (fun b h=>.inl (A b h)) (fun b L _ d=>⟨L,d⟩) (by
  refine⟨J,K,M.take (hi.toNat*e.size), ?_,eY.take _ _ _ (eY.mono (dY.mono B.free e) _ _ d),N⟩;simp_all [bD,Cx.put,upd_same])
 have av:bI (c'.put i (dC.arr e (w+1) (List.take hi.toNat xs)) ⟨(c'.mu i).blk,us.toList[off]⟩ c'.w) (.slc i (w+1) a7) us.toList[off]:=by
  simp only[bI];refine⟨o.1,.inl ⟨_,Cx.put_get g⟩,fun t' u' aw X=> ?_⟩;rw[Cx.put_get g]at X;simp_all [iJ,Cx.put,upd_same]
 have D:dG (c'.put i (dC.arr e (w+1) (List.take hi.toNat xs)) ⟨(c'.mu i).blk,us.toList[off]⟩ c'.w).hp id=a6 (.box l cs):=by
  simp only[Cx.put,iV]
  grind
 have ay:(c'.put i (dC.arr e (w+1) (List.take hi.toNat xs)) ⟨(c'.mu i).blk,us.toList[off]⟩ c'.w).mu id=c'.mu id:=by
  simp_all [Cx.put,upd_ne]
 generalize q:c'.put i (dC.arr e (w+1) (List.take hi.toNat xs)) ⟨(c'.mu i).blk,us.toList[off]⟩ c'.w=f at*;have Y:f.w=c'.w:=by rw[<-q];rfl
 have Z:f.hp=iH c'.hp i (.arr e (w+1) (xs.take hi.toNat)):=by rw[<-q];rfl
 have ab:f.nxt=c'.nxt:=by rw[<-q];rfl
 have E:(dC.box l cs).like (f.mu id) (.box l (cs.set off (.slc i (w+1) a7))) (f.mu id):=rfl;have ad:=Cx.Le.put (w:=f.w) p D E (af _) (fun _ _ _=>rfl) (fun b h=>.inl h) (fun b L _ d=>⟨L,d⟩);have ah:=Cx.Ok.put (w:=f.w) p D E p.bel (af _) (fun _ _ _=>rfl) (fun b h=>.inl h) (fun b L _ d=>⟨L,d⟩) (by
  refine⟨by simp_all [Cx.put,upd_same],us,by simp_all [Cx.put,upd_same], ?_,G⟩
  grind [bC.le,bC.setL])
 refine⟨_,⟨?_, ?_,hd.fr,hd.stk,ah,(hd.le.trans B).trans ad⟩,Y⟩
 .simp only[Cx.put];rw[Z,hd.hp]
 .show f.nxt=j.nxt;rw[ab,hd.nxt]
theorem ahJ {g:fZ} {st:St} {x y:bH} {K:St->Option R} {c':Cx} {f:St} (hd:yH W0 c st c' f) (h:YO g f x y K=a6 r): ∃d e,K e=a6 r/\yH W0 c st d e/\d.w=c'.w:=by
 have same:K f=a6 r-> ∃d e,K e=a6 r/\yH W0 c st d e/\d.w=c'.w:=fun h=>⟨c',f,h,hd,rfl⟩;unfold YO at h;split at h
 .split at h
  .split at h
   .rw[cond_eq_ite]at h;split at h
    .rename_i i
     simp only[ae,Bool.not_eq_true']at i;split at h
     .rename_i l m
      split at h
      .rename_i o
       rw[cond_eq_ite]at h;split at h
       .rename_i j
        simp only[ae,beq_iff_eq]at j
        grind [ag,aq4]
       .exact same h
      .exact same h
     .exact same h
    .exact same h
   .exact same h
  .exact same h
 .exact same h
theorem ar1 (hT:TOk P T) (l:c.Ok W0) {cl:Bool} {call:fO R} {o:Oper} {st:St} {a:Act} {K:bH->St->Option R} {x y:Operand} (m:c.hp=st.hp) (p:c.nxt=st.nxt) (q:bC c st.fr a.tmps.toList)
  (d:o.op=.store t x y) (h:dR T cl call o st K=a6 r):EF P W0 c st o a K r:=by
 obtain⟨e,E,f,g,i,j⟩:=o;simp only at d;subst d;simp only[dR]at h;obtain⟨G,I,s,hd,u⟩:=am3 (dst:=e) (ty:=f) (pos:=g) (after:=i) (guard:=j) hT l m p q h;obtain⟨v,z,A,B,D⟩:=ahJ hd s;exact⟨_,undef,v,z,A,B,by simp[bI],.inr ⟨by rw[D];exact u,rfl⟩⟩
theorem QK (w:World) (t d ty:TypeId) (B size n:Nat) (v:Value) (f:List Value) (e:TypeId) (h:w.ownsRow B e size v n f) (i:P.underlying ty=a6 (.pointer d)):
  ∃u w',(Builtin.unsafeSliceData_ #[t] ty #[v]).run P w=.ok u w'/\Below w.heap.size w w'/\u.oneCell'=true/\(∃p,u=.pointer p)/\ ∀a m cp,v=.slice a m cp->m≠0->u=.pointer a:=by
 rcases h.2 with ⟨rfl,rfl⟩|⟨g,j,l,rfl,_,o,s,_⟩
 .exact⟨_,w,Lib.run_unsafeSliceData_nil w _ _ 0 0,Below.refl _ _,rfl,⟨_,rfl⟩,fun a m cp h q=>by simp_all⟩
 .by_cases hc:j=0
  .subst hc;refine⟨_,_,Lib.run_unsafeSliceData_zero w _ _ d i ⟨g,0,a7⟩ n (e,l.size) (by simp[World.shape?,o]),lQ _ _,rfl,⟨_,rfl⟩,fun a m cp h q=> ?_⟩;cases h;omega
  .exact⟨_,w,Lib.run_unsafeSliceData_row w _ _ _ _ _ hc,Below.refl _ _,rfl,⟨_,rfl⟩,fun a m cp h _=>by cases h;rfl⟩
theorem Zq (hT:TOk P T) (q:c.Ok W0) {cl:Bool} {call:fO R} {o:Oper} {st:St} {a:Act} {K:bH->St->Option R} {args:Array Operand} {i:Array TypeId} (s:c.hp=st.hp) (E:c.nxt=st.nxt) (G:bC c st.fr a.tmps.toList)
  (x:o.op=.call {callee:=.builtin .unsafeSliceData,args:=args,argTypes:=i}) (h:dR T cl call o st K=a6 r):EF P W0 c st o a K r:=by
 obtain⟨I,op,j,J,L,M⟩:=o;simp only at x;subst x;simp only[dR,jH]at h;split at h<;>try (cases h;done)
 all_goals try (rename_i y _;cases y;done)
 rename_i id ai y f
 split at h<;>try (cases h;done)
 rename_i t z
 split at h<;>try (cases h;done)
 rename_i e v N d
 rw[cond_eq_ite]at h;split at h
 .rename_i A
  simp only[ae,beq_iff_eq]at A;obtain⟨rfl,ak,O⟩:=A;obtain⟨i⟩:=i;simp only at z;subst z;obtain⟨S⟩:=args
  match S with
  |[]=>simp at f
  |_::_::_=>simp at f
  |[l]=>
   simp only[aj,List.map_nil,List.cons.injEq,and_true]at f;have m:=dH G l;rw[f]at m;simp only[bI]at m;rw[<-s]at d;have B:=(m.2.2 _ _ _ d).2 rfl;simp only[iJ]at B;obtain⟨_,U,V,W,hL,an⟩:=q.obj id _ d;obtain⟨X,Y⟩:=hT.isPtr O;obtain⟨u,p,Z,D,ab,hp,ad⟩:=QK c.w t X j W0.heap.size e.size N.length (c.mu id).v V U W Y;refine⟨_,u,c.at_ p,st,h,⟨s,E,rfl,rfl,q.ext D,Cx.Le.ext D⟩, ?_,.inl ?_⟩
   .simp only[bI];refine⟨ab,.inl ⟨_,d⟩,fun t' u' ah g=> ?_⟩;have g:dG c.hp id=a6 (.arr t' u' ah):=g;rw[d]at g;cases g;exact⟨af _,fun _=>⟨hp,ad⟩⟩
   .have:(execOp a.eval ⟨I,.call {callee:=.builtin .unsafeSliceData,args:=[l].toArray,argTypes:=[t].toArray},j,J,L,M⟩).run P c.w=
      ((Builtin.unsafeSliceData_ #[t] j #[a.eval l]).run P c.w).andThen fun v p=>.ok (.value v) p:=by
     simp[execOp,resolve,invoke,builtin,Sem.run_bind]
    rw[this,B,Z];rfl
 .cases h
theorem aqJ {w:World} {fr:Nat->Prop} (xs:List Int) (d:List Value) (h:eY (dY w fr (.int .u8)) 1 xs d):d=xs.map (.int .u8):=yZ xs d h
theorem H8 (w:World): ∀(xs:List Int) (a:Addr) (d:ByteArray),(∀j x,xs[j]? =a6 x->w.cell? (a.add j)=a6 (.int .u8 x))->(loadBytes a d xs.length).run P w=.ok (xs.foldl (fun r n=>r.push (UInt8.ofNat n.toNat)) d) w
 |[],a,d,_=>by simp[loadBytes]
 |x::xs,a,d,h=>by
  have f:w.cell? a=a6 (.int .u8 x):=by
   have:=h 0 x rfl
   assumption
  have g:=H8 w xs (a.add 1) (d.push (UInt8.ofNat x.toNat)) fun j y e=>by
   have:=h (j+1) y (by simpa using e)
   grind [Addr.add]
  simp_all [loadBytes]
theorem Pm {d it ty e:TypeId} (hp:P.underlying d=a6 (.pointer e)) (h:P.cellsOf e=1) (w:World) (g cells:Nat) (i:w.shape? g=a6 (e,cells)) (xs:List Int) (l:xs≠[]) (B:xs.length<=cells) (D:xs.length<=9223372036854775807)
  (m: ∀j x,xs[j]? =a6 x->w.cell? ((⟨g,0,a7⟩:Addr).add j)=a6 (.int .u8 x)):
  (Builtin.unsafeString_ #[d,it] ty #[.pointer (a6 ⟨g,0,a7⟩),.int .i64 xs.length]).run P w=.ok (.string ⟨(ofBytes xs).toArray⟩) (w.freeze ⟨g,0,a7⟩ xs.length):=by
 have o:xs.length≠0:=by simpa using l
 have p:=H8 (P:=P) w xs ⟨g,0,a7⟩ .empty m;have q:=Lib.liesAt_bytes (P:=P) h (cells/P.cellsOf e) xs.length (by simp_all);have u: ¬(9223372036854775807:Int)<(xs.length:Int):=by omega
 have v:Builtin.unsafeString_ #[d,it] ty #[.pointer (a6 ⟨g,0,a7⟩),.int .i64 xs.length]=
   (do
    let n<-asInt (.int .i64 xs.length)
    if n<0 then runtimePanic (.error "unsafe.String: len out of range")
    if n>IntKind.i64.max then unsupported (.unsafePointer "String: a length above the largest int")
    if n=0 then pure (.string .empty)
    else if<-variablesAt ⟨g,0,a7⟩ (<-elemOf d) n.toNat then do
     let s<-loadBytes ⟨g,0,a7⟩ .empty n.toNat
     freeze ⟨g,0,a7⟩ n.toNat
     pure (.string s)
    else unsupported (.unsafePointer "String: not so many bytes at ptr")):=rfl
 rw[v];have y:IntKind.i64.max=9223372036854775807:=rfl;have z: ¬(xs.length:Int)<0:=by omega
 have f:=IK xs [];have A:(⟨([]:List UInt8).toArray⟩:ByteArray)=.empty:=rfl;rw[A]at f;simp[asInt,asIntOf,y,u,z,o,variablesAt,i,elemOf,run_underlying hp,q,p];exact f
theorem Zn (d:c.Ok W0) {st:St} (u:c.hp=st.hp) (x:c.nxt=st.nxt) {id f:Nat} {e:Ty} {xs:List e.den} (i:dG c.hp id=a6 (.arr e f xs)) {w':World} (j:c.w.heap.size<=w'.heap.size)
  (m: ∀b,(c.mu id).v.ownBlock≠a6 b->w'.heap[b]? =c.w.heap[b]?) (l:w'.os=c.w.os/\w'.tape=c.w.tape/\w'.output=c.w.output):
  ∃c',yH W0 c st c' {st with hp:=iH st.hp id .dead}/\c'.w=w':=by
 have o:(dC.arr e f xs).like (c.mu id) .dead (c.mu id):=trivial;have p: ∀(b:Nat) (L:Loop),(dC.arr e f xs).blk (c.mu id)=a6 b->c.w.heap[b]? =a6 (Obj.loop L)-> ∃y:Loop,w'.heap[b]? =a6 (Obj.loop y):=fun b L g z=>absurd z ((d.obj id _ i).no_loop (by simp) g);have q: ∀b,dC.dead.blk (c.mu id)=a6 b->(dC.arr e f xs).blk (c.mu id)=a6 b\/c.w.heap.size<=b:=fun b g=>by cases g
 have s: ∀b,b<c.w.heap.size->(dC.arr e f xs).blk (c.mu id)≠a6 b->w'.heap[b]? =c.w.heap[b]? :=fun b _ A=>m b A;have B:Below W0.heap.size W0 w':=by
  refine⟨l.1.trans d.bel.os,l.2.1.trans d.bel.tape,l.2.2.trans d.bel.output,aG d.bel.size j,fun b g=>(m b fun h=> ?_).trans (d.bel.block b g)⟩;have:=((d.obj id _ i).lt (b:=b) h).1;omega
 have D:=Cx.Le.put (w:=w') d i o j s q p;exact⟨c.put id .dead (c.mu id) w',⟨by simp[Cx.put,u],x,rfl,rfl,d.put i o B j s q p trivial,D⟩,rfl⟩
theorem Oa (hT:TOk P T) (y:c.Ok W0) {cl:Bool} {call:fO R} {o:Oper} {st:St} {a:Act} {K:bH->St->Option R} {args:Array Operand} {z:Array TypeId} (A:c.hp=st.hp) (U:c.nxt=st.nxt) (V:bC c st.fr a.tmps.toList)
  (W:o.op=.call {callee:=.builtin .unsafeString,args:=args,argTypes:=z}) (h:dR T cl call o st K=a6 r):EF P W0 c st o a K r:=by
 obtain⟨ak,op,l,an,ao,au⟩:=o;simp only at W;subst W;simp only[dR,jH]at h;split at h<;>try (cases h;done)
 all_goals try (rename_i u _;cases u;done)
 rename_i id aU n u f
 split at h<;>try (cases h;done)
 rename_i B m X
 split at h<;>try (cases h;done)
 rename_i v d q
 rw[cond_eq_ite]at h;split at h
 .rename_i Y
  simp only[ae,beq_iff_eq]at Y;obtain⟨rfl,av⟩:=Y;replace h:=fK h;obtain⟨D,h⟩:=h;have D:n=(d.length:Int):=by simpa [bJ,bD] using D
  subst D;obtain⟨z⟩:=z;simp only at X;subst X;obtain⟨al⟩:=args
  match al with
  |[]=>simp at f
  |[_]=>simp at f
  |_::_::_::_=>simp at f
  |[E,G]=>
   simp only[aj,List.map_nil,List.cons.injEq,and_true]at f;have I:=dH V E;have i:=dH V G;rw[f.1]at I;rw[f.2]at i;simp only[bI]at I i;have i:=i.int_inv;rw[<-A]at q;obtain⟨hp,aw⟩:=(I.2.2 _ _ _ q).2 rfl;obtain⟨_,e0,Z,ab,hL,J⟩:=y.obj id _ q;have J:=J rfl;obtain⟨ay,az⟩:=hT.isBytes av;have ad:(execOp a.eval ⟨ak,.call {callee:=.builtin .unsafeString,args:=[E,G].toArray,argTypes:=[B,m].toArray},l,an,ao,au⟩).run P c.w=
     ((Builtin.unsafeString_ #[B,m] l #[a.eval E,a.eval G]).run P c.w).andThen fun v L=>.ok (.value v) L:=by
    simp[execOp,resolve,invoke,builtin,Sem.run_bind]
   have aA:Z=d.map (.int .u8):=yZ d Z hL;by_cases hx:d=[]
   .subst hx;obtain⟨p,hp⟩:=hp;obtain⟨M,N,O⟩:=Zn y A U q (w':=c.w) (af _) (fun _ _=>rfl) ⟨rfl,rfl,rfl⟩;refine⟨_,.string .empty,M,_,h,N, ?_,.inl ?_⟩
    .simp only[bI];exact VD.str_mk
    .rw[ad,hp,i];have:=Lib.run_unsafeString_none (P:=P) c.w B m l p;simp only[List.length_nil,Int.natCast_zero]at this ⊢;rw[this,O];rfl
   .have s:d.length≠0:=by simpa using hx
    rcases ab.2 with ⟨_,h0⟩|⟨g,aF,ah,S,aV,hg,aW,aH,ai,aX⟩
    .exact absurd h0 s
    .have hp:=aw _ _ _ S s;have aJ: ∀b,(c.mu id).v.ownBlock≠a6 b->(c.w.freeze ⟨g,0,a7⟩ d.length).heap[b]? =c.w.heap[b]? :=fun b u=>by
      have aK:g≠b:=fun e=>u (by rw[S,<-e];rfl);unfold World.freeze;rw[ap s];simp only[Array.getElem?_modify];rw[ap aK]
     have aP:(c.w.freeze ⟨g,0,a7⟩ d.length).heap.size=c.w.heap.size:=by
      unfold World.freeze;rw[ap s];simp
     have aQ:(c.w.freeze ⟨g,0,a7⟩ d.length).os=c.w.os/\(c.w.freeze ⟨g,0,a7⟩ d.length).tape=c.w.tape/\(c.w.freeze ⟨g,0,a7⟩ d.length).output=c.w.output:=by
      unfold World.freeze;rw[ap s];exact⟨rfl,rfl,rfl⟩
     obtain⟨M,N,O⟩:=Zn y A U q (w':=c.w.freeze ⟨g,0,a7⟩ d.length) (Nat.le_of_eq aP.symm) aJ aQ;refine⟨_,.string ⟨(ofBytes d).toArray⟩,M,_,h,N, ?_,.inl ?_⟩
     .simp only[bI];exact VD.str_mk
     .rw[ad,hp,i];have aS: ∀j x,d[j]? =a6 x->c.w.cell? ((⟨g,0,a7⟩:Addr).add j)=a6 (.int .u8 x):=fun j x hj=>by
       have:=ab.cells (g:=g) (by rw[S];rfl) j (.int .u8 x) (by rw[aA];simp[hj]);exact this
      have ai:ah.size=aF:=by simpa [Ty.size] using ai
      rw[Pm (ty:=l) (it:=m) ay az c.w g ah.size (by rw[<-J];simp[World.shape?,hg]) d hx (by omega) (by unfold maxLen at aH;omega) aS,O];rfl
 .cases h
end
end
section
open Option renaming some → a6, none → a7
open Bool renaming and_eq_true → ae
open List renaming map_cons → aj
open Go.RowKit
theorem NL {d l:IntKind} {a:Int}: ∀(f:List MapEntry) (g:List (Int×Int)) (i:Nat),f.map (fun e=>(e.key,e.val))=g.map (fun p=>(Value.int d p.1,Value.int l p.2))->
  (Bc g a=a7/\Instr.findNow (.int d) (.int d a) f i=a6 a7/\ ∀b cl,(f++[(⟨.int d a,.int l b,cl⟩:MapEntry)]).map (fun e=>(e.key,e.val))=(rQ g a b).map (fun p=>(Value.int d p.1,Value.int l p.2)))\/
  ∃v j,Bc g a=a6 v/\Instr.findNow (.int d) (.int d a) f i=a6 (a6 (i+j,.int l v))/\(∃o,f[j]? =a6 o/\o.key=.int d a)/\
   ∀b,(f.modify j (fun e=>{e with key:=.int d a,val:=.int l b})).map (fun e=>(e.key,e.val))=(rQ g a b).map (fun p=>(Value.int d p.1,Value.int l p.2))
 |[],[],i,_=>.inl ⟨rfl,rfl,fun b cl=>rfl⟩
 |[],_::_,_,h=>by simp at h
 |_::_,[],_,h=>by simp at h
 |e::f,(k,v)::g,i,h=>by
  simp only[aj,List.cons.injEq,Prod.mk.injEq]at h;obtain⟨⟨s,x⟩,u⟩:=h;have q:Instr.sameNow (.int d) (.int d a) e.key=a6 (a==k):=by rw[s];simp[Instr.sameNow]
  by_cases hak:a=k
  .subst hak;refine .inr ⟨v,0,by simp[Bc,bJ], ?_,⟨e,rfl,s⟩,fun b=> ?_⟩
   .simp[Instr.findNow,q,x]
   .simp[rQ,bJ,u]
  .have m:(a==k)=false:=by simpa using hak
   rw[m]at q;rcases NL (a:=a) f g (i+1) u with ⟨g1,g2,g3⟩|⟨y,j,g1,g2,⟨o,g3,g4⟩,g5⟩
   .refine .inl ⟨by simp[Bc,bJ,m,g1],by simp[Instr.findNow,q,g2],fun b cl=> ?_⟩;have:=g3 b cl;simp only[rQ,bJ,m,ac,List.cons_append,aj,List.cons.injEq,Prod.mk.injEq];simp_all
   .refine .inr ⟨y,j+1,by simp[Bc,bJ,m,g1], ?_,⟨o,by simpa using g3,g4⟩,fun b=> ?_⟩
    .grind [Instr.findNow]
    .have:=g5 b;simp only[rQ,bJ,m,ac,List.modify_succ_cons,aj,List.cons.injEq,Prod.mk.injEq];simp_all
section
variable {P:Program} {T:TT} {W0:World} {c:Cx} {R:Type} {r:R} {t:TypeId}
theorem OB (hT:TOk P T) {a b:IntKind} (h:T.mapOf t=a6 (a,b)): ∃k e,P.underlying t=a6 (.map k e)/\P.underlying k=a6 (.int a)/\ ∃i,P.info? e=a6 i/\i.zero=a6 (.int b 0):=by
 unfold TT.mapOf at h;replace h:=di h;obtain⟨hk,h⟩:=h;split at h
 .rename_i k e g
  replace h:=di h;obtain⟨d,h⟩:=h;simp only[ae]at d;split at h
  .rename_i m o j l
   cases h;obtain⟨i,z,f,_⟩:=hT.info d.2;exact⟨k,e,hT.map hk g,hT.int d.1 j,i,f,hT.zero_int d.2 l f⟩
  .cases h
 .cases h
theorem ax4 (g:c.Ok W0) {st:St} (h:c.hp=st.hp) (h2:c.nxt=st.nxt) {id n':Nat} (j:dG st.hp id=a7) (m:st.nxt<=id) (s:st.nxt<=n') (d e:IntKind):
  ∃c',yH W0 c st c' {st with hp:=(id,.mp d e [])::st.hp,nxt:=n'}/\c'.w=c.w.alloc (.map #[] 0)/\bI c' (.mpv id) (.map (a6 c.w.heap.size)):=by
 have hk:=x9 h h2 j m;have f:=lQ c.w (.map #[] 0);have i: ∀b,dC.blk (.mp d e []) ⟨c.w.heap.size,undef⟩=a6 b->c.w.heap.size<=b:=fun b f=>by
  simp_all [dC.blk]
 have p:=Cx.Le.push (o:=.mp d e []) (l:=⟨c.w.heap.size,undef⟩) (nxt:=n') (w:=c.w.alloc (.map #[] 0)) hk (by omega) f.size f.block i;have q:(c.push id (.mp d e []) ⟨c.w.heap.size,undef⟩ n' (c.w.alloc (.map #[] 0))).ORel W0.heap.size id (.mp d e []):=by
  refine⟨by simp[Cx.push,upd_same];exact g.size,#[],0, ?_,rfl⟩;simp only[Cx.push,upd_same];exact heap_alloc_new c.w _
 refine⟨_,⟨?_,rfl,rfl,rfl,g.push hk (by omega) f i q,p⟩,rfl, ?_⟩
 .simp[Cx.push,h]
 .simp only[bI];refine⟨rfl,.inl ⟨.mp d e [],by simp[Cx.push,dQ]⟩,fun _ _ _ _=>by simp[Cx.push,upd_same]⟩
theorem aie (hT:TOk P T) (e:c.Ok W0) {cl:Bool} {call:fO R} {o:Oper} {st:St} {a:Act} {K:bH->St->Option R} {f:Option Operand} (g:c.hp=st.hp) (i:c.nxt=st.nxt) (d:o.op=.makeMap t f)
  (h:dR T cl call o st K=a6 r):EF P W0 c st o a K r:=by
 obtain⟨y,z,A,B,D,E⟩:=o;simp only at d;subst d;simp only[dR]at h;split at h
 .rename_i j l G
  obtain⟨id,I,m,p,q,u⟩:=iR h;obtain⟨J,v,L,x⟩:=ax4 e g i m p q j l;refine oM (s:=Instr.makeMap t a7) rfl u v x (by simp_all [Instr.makeMap])
 .cases h
theorem am2 (hT:TOk P T) (f:c.Ok W0) {cl:Bool} {call:fO R} {o:Oper} {st:St} {a:Act} {K:bH->St->Option R} {x y:Operand} {ok:Bool} (g:c.hp=st.hp) (q:c.nxt=st.nxt) (z:bC c st.fr a.tmps.toList) (A:o.op=.lookup t x y ok)
  (h:dR T cl call o st K=a6 r):EF P W0 c st o a K r:=by
 obtain⟨Z,op,ty,ab,ad,af⟩:=o;simp only at A;subst A;simp only[dR]at h;split at h
 .rename_i kk vk id L M
  split at h
  .rename_i ag d N B n l O
   replace h:=di h;obtain⟨hk,h⟩:=h;simp only[ae,decide_eq_true_eq]at hk;obtain⟨rfl,rfl,rfl⟩:=hk;obtain⟨kt,S,D,e,i,U,V⟩:=OB hT L;have m:=dH z x;rw[M]at m;simp only[bI]at m;rw[<-g]at l;have E:=m.2.2 _ _ _ l;obtain⟨hB,W,ah,G,X⟩:=f.obj id _ l;have p:=dH z y;rw[O]at p;simp only[bI]at p;have I:=p.int_inv;have Y:(zeroValue S).run P c.w=.ok (.int d 0) c.w:=by simp[zeroValue,typeInfo,U,V]
   have J:MapKept.IsKey (.int B) (.int B n):=rfl;rcases NL (a:=n) W.toList N 0 X with ⟨g1,g2,_⟩|⟨v,j,g1,g2,_,_⟩
   .simp only[oh,anP,g1]at h;refine oM (s:=Instr.lookup t (a.eval x) (a.eval y) ok) (u:=if ok then .tuple #[.int d 0,.bool false]else .int d 0) rfl h (yH.refl f g q) ?_ ?_
    .cases ok
     .simp_all [bI,VD.int_mk]
     .simp only[aa,bI,if_true];exact⟨_,rfl,by simp_all [bC,bI,VD.int_mk,VD.bool_mk]⟩
    .rw[E,I];simp[Instr.lookup,run_underlying D,MapKept.run_getObj_map G,MapKept.run_checkKey e J,MapKept.run_findKey e g2,Y,Result.andThen]
   .simp only[oh,anP,g1]at h;refine oM (s:=Instr.lookup t (a.eval x) (a.eval y) ok) (u:=if ok then .tuple #[.int d v,.bool true]else .int d v) rfl h (yH.refl f g q) ?_ ?_
    .cases ok
     .simp_all [bI,VD.int_mk]
     .simp only[aa,bI,if_true];exact⟨_,rfl,by simp_all [bC,bI,VD.int_mk,VD.bool_mk]⟩
    .rw[E,I];simp[Instr.lookup,run_underlying D,MapKept.run_getObj_map G,MapKept.run_checkKey e J,MapKept.run_findKey e g2,Result.andThen]
  .cases h
 .cases h
theorem Zp (hT:TOk P T) (u:c.Ok W0) {cl:Bool} {call:fO R} {o:Oper} {st:St} {a:Act} {K:bH->St->Option R} {x y z:Operand} (S:c.hp=st.hp) (af:c.nxt=st.nxt) (G:bC c st.fr a.tmps.toList) (U:o.op=.mapUpdate t x y z)
  (h:dR T cl call o st K=a6 r):EF P W0 c st o a K r:=by
 obtain⟨ag,op,ty,ah,ai,ak⟩:=o;simp only at U;subst U;simp only[dR]at h;split at h
 .rename_i kk vk id hm al
  split at h
  .rename_i az aA q f n m b s hn A
   replace h:=di h;obtain⟨hk,h⟩:=h;simp only[ae,decide_eq_true_eq]at hk;obtain⟨rfl,rfl,rfl,rfl⟩:=hk;obtain⟨kt,et,V,D,i,u3,u4⟩:=OB hT hm;have I:=dH G x;rw[al]at I;simp only[bI]at I;rw[<-S]at s;have hv:=I.2.2 _ _ _ s;obtain⟨hB,E,J,B,h4⟩:=u.obj id _ s;have M:=dH G y;rw[hn]at M;simp only[bI]at M;have an:=M.int_inv;have N:=dH G z;rw[A]at N;simp only[bI]at N;have ao:=N.int_inv;have O:MapKept.IsKey (.int f) (.int f n):=rfl;have W: ∃g l,(Instr.mapUpdate t (a.eval x) (a.eval y) (a.eval z)).run P c.w=.ok () {c.w with heap:=c.w.heap.setIfInBounds (c.mu id).blk (.map g l)}/\g.toList.map (fun e=>(e.key,e.val))=(rQ q n b).map (fun p=>(Value.int f p.1,Value.int m p.2)):=by
    rw[hv,an,ao];rcases NL (a:=n) E.toList q 0 h4 with ⟨g1,g2,g3⟩|⟨v,j,g1,g2,⟨e0,g3,g4⟩,g5⟩
    .exact⟨E.push ⟨.int f n,.int m b,J⟩,J+1,by
      simp[Instr.mapUpdate,run_underlying V,MapKept.run_getObj_map B,MapKept.run_checkKey D O,MapKept.run_findKey D g2,MapKept.run_setObj_map _ B,Result.andThen],by
      simp_all⟩
    .have hj:E[j]? =a6 e0:=by simpa using g3
     exact⟨E.modify j (fun e'=>{e' with key:=.int f n,val:=.int m b}),J,by
      simp[Instr.mapUpdate,run_underlying V,MapKept.run_getObj_map B,MapKept.run_checkKey D O,MapKept.run_findKey D g2,hj,g4,MapKept.run_keyThatStays O,MapKept.run_setObj_map _ B,Result.andThen],by
      simp_all⟩
   obtain⟨g,l,W,au⟩:=W;have av:(execOp a.eval ⟨ag,.mapUpdate t x y z,ty,ah,ai,ak⟩).run P c.w=.ok .skip {c.w with heap:=c.w.heap.setIfInBounds (c.mu id).blk (.map g l)}:=by
    simp_all [execOp]
   have iH:=MapKept.heap_set (o':=Obj.map g l) B;have X:(dC.mp f m q).like (c.mu id) (.mp f m (rQ q n b)) (c.mu id):=rfl;have Y:c.w.heap.size<=({c.w with heap:=c.w.heap.setIfInBounds (c.mu id).blk (.map g l)}:World).heap.size:=by simp
   have Z: ∀d,d<c.w.heap.size->(dC.mp f m q).blk (c.mu id)≠a6 d->({c.w with heap:=c.w.heap.setIfInBounds (c.mu id).blk (.map g l)}:World).heap[d]? =c.w.heap[d]? :=
    fun d _ aw=>iH.2 d (fun e=>aw (by simp[dC.blk,e]))
   have ab: ∀d,(dC.mp f m (rQ q n b)).blk (c.mu id)=a6 d->(dC.mp f m q).blk (c.mu id)=a6 d\/c.w.heap.size<=d:=fun d A=>.inl A;have ad: ∀(d:Nat) (L:Loop),(dC.mp f m q).blk (c.mu id)=a6 d->c.w.heap[d]? =a6 (Obj.loop L)-> ∃L':Loop,({c.w with heap:=c.w.heap.setIfInBounds (c.mu id).blk (.map g l)}:World).heap[d]? =a6 (Obj.loop L'):=fun d L A hL=>absurd hL ((u.obj id _ s).no_loop (by simp) A);have ax:=Cx.Le.put (w:={c.w with heap:=c.w.heap.setIfInBounds (c.mu id).blk (.map g l)}) u s X Y Z ab ad;have ay:Below W0.heap.size W0 {c.w with heap:=c.w.heap.setIfInBounds (c.mu id).blk (.map g l)}:=
    u.bel.trans ⟨rfl,rfl,rfl,by simp,fun k hk=>iH.2 k (by omega)⟩
   refine⟨_,undef,c.put id _ (c.mu id) _,_,h,⟨by simp[Cx.put,S],af,rfl,rfl,u.put s X ay Y Z ab ad ?_,ax⟩,by simp[bI],.inr ⟨av,rfl⟩⟩;refine⟨by simp only[Cx.put,upd_same];exact hB,g,l, ?_,au⟩;simp_all [Cx.put,upd_same]
  .cases h
 .cases h
end
end
section
open Option renaming some → a6, none → a7
open Nat renaming le_refl → af, le_trans → aG
open Go.RowKit
def FW (rd:Option Nat):Fence:={Fence.wide with round:=rd}
theorem aC7:FW a7=Fence.wide:=rfl
theorem aEk (rd:Option Nat) (f:FuncId):(FW rd).fn f:=trivial
theorem oD (rd:Option Nat) {n:Nat}:(FW rd).depth.isSome=true->1<=n:=fun h=>by simp[FW,Fence.wide]at h
theorem azY (rd:Option Nat):(FW rd).round=rd:=rfl
theorem aC8 (rd:Option Nat) (n:Nat):(FW rd).room n:=fun _ h=>by simp[FW,Fence.wide]at h
def mkD (r:Nat):Deferred:={target:=.collected r,args:= #[]}
def zY (c:Cx):List (List bH)->List (Array Value)->Prop
 |[],[]=>True
 |f::d,t::e=>bC c f t.toList/\zY c d e
 |_,_=>False
theorem zY.le {c c':Cx} (h:c.Le c'): ∀(e:List (List bH)) (g:List (Array Value)),zY c e g->zY c' e g
 |[],[],_=>trivial
 |f::e,t::g,d=>⟨bC.le h _ _ d.1,zY.le h e g d.2⟩
 |[],_::_,d=>d.elim
 |_::_,[],d=>d.elim
structure Cx.Mono (c c':Cx):Prop where
 mks: ∀r,r∈c.mks->r∈c'.mks
 lp: ∀(b:Nat) (L:Loop),c.w.heap[b]? =a6 (Obj.loop L)-> ∃L':Loop,c'.w.heap[b]? =a6 (Obj.loop L')
 size:c.w.heap.size<=c'.w.heap.size
 bar:c'.bar=c.bar
 out: ∀b,c.out b->c'.out b/\c'.w.heap[b]? =c.w.heap[b]?
theorem Cx.Le.mono {c c':Cx} (h:c.Le c'):c.Mono c':=⟨h.mks,h.lp,h.size,h.bar,h.out⟩
theorem Cx.Mono.refl (c:Cx):c.Mono c:=⟨fun _ h=>h,fun b L h=>⟨L,h⟩,af _,rfl,fun _ h=>⟨h,rfl⟩⟩
theorem Cx.Mono.trans {a b c:Cx} (h:a.Mono b) (k:b.Mono c):a.Mono c:=
 ⟨fun r e=>k.mks r (h.mks r e),fun b L f=>let⟨g,i⟩:=h.lp b L f;k.lp b g i,aG h.size k.size,k.bar.trans h.bar,fun x d=>⟨(k.out x (h.out x d).1).1,(k.out x (h.out x d).1).2.trans (h.out x d).2⟩⟩
structure iq (W0:World) (b0:Nat) (rd:Option Nat) (c:Cx) (st:St) (a:Act) (ats:List (Array Value)):Prop where
 hp:c.hp=st.hp
 nxt:c.nxt=st.nxt
 ok:c.Ok W0
 fr:bC c st.fr a.tmps.toList
 stk:zY c st.stk ats
 df: ∃ds:List Nat,a.defers=ds.map mkD/\ds.Nodup/\ ∀r∈ds,r∈c.mks/\b0<=r
 rd: ∀l,rd=a6 l-> ∃L:Loop,c.w.heap[l]? =a6 (Obj.loop L)
section
variable {P:Program} {T:TT} {W0:World} {b0 n:Nat} {rd:Option Nat} {c:Cx} {R:Type} {r:R} {st:St} {a:Act} {ats:List (Array Value)}
theorem aoj (a:Act) (dst:Option Nat) (v:Value) (fr:List bH) (z:bH) (h:bC c fr a.tmps.toList) (e:bI c z v):bC c (match dst with|some d=>fr.set d z|none=>fr) (a.put dst v).tmps.toList:=by
 grind [Act.put,bC.set]
theorem ayH (st:St) (dst:Option Nat) (z:bH):(st.put dst z).fr=(match dst with|some d=>st.fr.set d z|none=>st.fr)/\(st.put dst z).hp=st.hp/\(st.put dst z).nxt=st.nxt/\(st.put dst z).stk=st.stk:=by
 cases dst<;>exact⟨rfl,rfl,rfl,rfl⟩
theorem put_defers (a:Act) (dst:Option Nat) (v:Value):(a.put dst v).defers=a.defers:=by cases dst<;>rfl
theorem iq.put (h:iq W0 b0 rd c st a ats) {dst:Option Nat} {z:bH} {v:Value} (d:bI c z v):iq W0 b0 rd c (st.put dst z) (a.put dst v) ats:=by
 obtain⟨e,f,g,i⟩:=ayH st dst z;exact⟨h.hp.trans f.symm,h.nxt.trans g.symm,h.ok,by rw[e];exact aoj a dst v _ z h.fr d,by rw[i];exact h.stk,by rw[put_defers];exact h.df,h.rd⟩
theorem iq.did (h:iq W0 b0 rd c st a ats) {c':Cx} {d:St} (hd:yH W0 c st c' d):iq W0 b0 rd c' d a ats:=
 ⟨hd.hp,hd.nxt,hd.ok,by rw[hd.fr];exact bC.le hd.le _ _ h.fr,by rw[hd.stk];exact zY.le hd.le _ _ h.stk,
  let⟨g,i,j,e⟩:=h.df;⟨g,i,j,fun r f=>⟨hd.le.mks r (e r f).1,(e r f).2⟩⟩,fun l m=>let⟨L,o⟩:=h.rd l m;hd.le.lp l L o⟩
def After (W0:World) (b0:Nat) (rd:Option Nat) (c:Cx) (ats:List (Array Value)) (K:St->Option R) (r:R) (f:Act) (w':World):Prop:=
 ∃d e,K e=a6 r/\iq W0 b0 rd d e f ats/\c.Mono d/\d.w=w'
def kZ (P:Program) (W0:World) (n:Nat) (call:fO R):Prop:=
 ∀(b0:Nat) (rd:Option Nat) (f:bH) (g:List bH) (l:Option Nat) (st:St) (K:bH->St->Option R) (r:R),call f g l st K=a6 r->
  ∀(c:Cx) (a:Act) (ats:List (Array Value)) (h:Value) (i:Array Value),iq W0 b0 rd c st a ats->bI c f h->bC c g i.toList->
   ∀(o:Oper) (next:Act->World->Prop) (Q:Exit->Act->World->Prop),(∀e z u j,K z j=a6 r->iq W0 b0 rd e j a ats->bI e z u->c.Mono e->next (a.put o.dst u) e.w)->
    o.uponIn (FW rd) n P a next Q ((do let d<-Deferred.ofValue h i;invoke d.target d.args:Sem Next).run P c.w)
def oL:Op->Bool
 |.defer _=>true
 |_=>false
theorem uO {o:Oper} (h:oL o.op=false) (rd:Option Nat) (d:Operand->Value):Oper.semAt rd d o=execOp d o:=
 Oper.semAt_eq rd d o fun c e=>by rw[e]at h;cases h
theorem oG (o:Oper) (w:World) (d:Operand->Value): ∀f,o.about P w d=a6 f->(FW rd).fn f:=fun _ _=>trivial
theorem lM {o:Oper} {K:bH->St->Option R} (hd:oL o.op=false) (h:EF P W0 c st o a K r) (g:iq W0 b0 rd c st a ats) {next:Act->World->Prop} {Q:Exit->Act->World->Prop}
  (i: ∀c' z u e,K z e=a6 r->iq W0 b0 rd c' e a ats->bI c' z u->c.Mono c'->next (a.put o.dst u) c'.w):o.wpIn (FW rd) n P a c.w next Q:=by
 obtain⟨z,u,c',e,j,f,l,d⟩:=h;refine⟨oG o c.w _, ?_⟩;rw[uO hd];have:=i c' z u e j (g.did f) l f.le.mono;rcases d with d|⟨d,rfl⟩
 .rw[d];exact this
 .rw[d];exact this
theorem OM (hT:TOk P T) {cl:Bool} {call:fO R} (I:kZ P W0 n call) {o:Oper} {K:bH->St->Option R} (h:dR T cl call o st K=a6 r) (d:iq W0 b0 rd c st a ats) {next:Act->World->Prop} {Q:Exit->Act->World->Prop}
  (e: ∀c' z u B,K z B=a6 r->iq W0 b0 rd c' B a ats->bI c' z u->c.Mono c'->next (a.put o.dst u) c'.w):o.wpIn (FW rd) n P a c.w next Q:=by
 by_cases hq:gG o.op=true
 .obtain⟨z,u,J,s,L⟩:=yf hT d.ok hq d.hp d.fr h;have hd:oL o.op=false:=by cases ho:o.op<;>simp_all [gG,jm,oL]
  exact lM hd ⟨z,u,c,st,J,yH.refl d.ok d.hp d.nxt,s,.inl (L c.w (Below.refl _ _))⟩ d e
 .cases ho:o.op with
  |alloc t=>exact lM (by rw[ho];rfl) (ar0 hT d.ok d.hp d.nxt ho h) d e
  |box t x=>exact lM (by rw[ho];rfl) (aA7 hT d.ok d.hp d.nxt d.fr ho h) d e
  |buildSlice t k O=>exact lM (by rw[ho];rfl) (UU hT d.ok d.hp d.nxt d.fr ho h) d e
  |makeSlice t l cp=>exact lM (by rw[ho];rfl) (Zo hT d.ok d.hp d.nxt d.fr ho h) d e
  |store t x y=>exact lM (by rw[ho];rfl) (ar1 hT d.ok d.hp d.nxt d.fr ho h) d e
  |makeFunc fn first v=>
   obtain⟨dst,A,g,i,j,p⟩:=o;simp only at ho;subst ho;simp only[dR]at h;split at h
   .rename_i f D
    obtain⟨S⟩:=first
    simp only at D;subst D;refine lM rfl ⟨_,.func (.func f) #[] (v.map a.eval),c,st,h,yH.refl d.ok d.hp d.nxt, ?_,.inl ?_⟩ d e
    .simp only[bI];refine⟨_,rfl, ?_⟩;have:=bC.map_eval (c:=c) d.fr v.toList;simpa using this
    simp_all [execOp,Instr.makeFunc]
   .rename_i l f U
    replace h:=di h;obtain⟨V,h⟩:=h;have M:v= #[]:=by
     simp_all
    subst M;refine lM rfl ⟨_,.func (.func f) (first.map a.eval) #[],c,st,h,yH.refl d.ok d.hp d.nxt, ?_,.inl ?_⟩ d e
    .simp only[bI];refine⟨_,rfl, ?_⟩;have:=bC.map_eval (c:=c) d.fr first.toList;simpa using this
    simp_all [execOp,Instr.makeFunc]
   .cases h
  |makeMap t W=>exact lM (by rw[ho];rfl) (aie hT d.ok d.hp d.nxt ho h) d e
  |lookup t x y k=>exact lM (by rw[ho];rfl) (am2 hT d.ok d.hp d.nxt d.fr ho h) d e
  |mapUpdate t x y z=>exact lM (by rw[ho];rfl) (Zp hT d.ok d.hp d.nxt d.fr ho h) d e
  |call N=>
   obtain⟨E,q,G⟩:=N;cases E with
   |builtin b=>
    cases b with
    |append=>exact lM (by rw[ho];rfl) (am1 hT d.ok d.hp d.nxt d.fr ho h) d e
    |unsafeSliceData=>exact lM (by rw[ho];rfl) (Zq hT d.ok d.hp d.nxt d.fr ho h) d e
    |unsafeString=>exact lM (by rw[ho];rfl) (Oa hT d.ok d.hp d.nxt d.fr ho h) d e
    |len=>rw[ho]at hq;exact absurd rfl hq
    |min=>rw[ho]at hq;exact absurd rfl hq
    |max=>rw[ho]at hq;exact absurd rfl hq
    |_=>
     obtain⟨dst,A,g,i,j,p⟩:=o;simp only at ho;subst ho;simp[dR,jH]at h
   |invoke x m=>
    simp_all [dR]
   |value f=>
    obtain⟨dst,A,g,i,j,p⟩:=o;simp only at ho;subst ho;simp only[dR]at h;refine⟨oG _ c.w _, ?_⟩;rw[uO rfl];have s:=I b0 rd _ _ dst st K r h c a ats (a.eval f) (q.map a.eval) d (dH d.fr f) (by
     have:=bC.map_eval (c:=c) d.fr q.toList;simpa using this) ⟨dst,.call {callee:=.value f,args:=q,argTypes:=G},g,i,j,p⟩ next Q e
    exact s
  |_=>
   obtain⟨dst,A,g,i,j,p⟩:=o;simp only at ho;subst ho
   first
    |(simp[gG,jm]at hq;done)
    |(simp[dR]at h;done)
theorem F5 (ops:Array Oper) (j d:Nat) (h:(ops[j]?).bind (·.dst)=a6 d) (tmps:Array Value):yielded ops tmps j=(match tmps[d]? with|some (.bool b)=>a6 b|_=>a7):=by
 grind [yielded]
theorem Ji (hT:TOk P T) {cl:Bool} {call:fO R} (s:kZ P W0 n call) (ops:Array Oper) {K:St->Option R} {Q:Exit->Act->World->Prop}: ∀(l:List Oper) (c:Cx) (st:St) (a:Act),gz T cl call ops K l st=a6 r->iq W0 b0 rd c st a ats->
  (∀c' g p,K g=a6 r->iq W0 b0 rd c' g p ats->c.Mono c'->Q .normal p c'.w)->wpListIn (FW rd) n P ops Q l a c.w
 |[],c,st,a,h,e,q=>by
  simp only[gz]at h;exact q c st a h e (Cx.Mono.refl c)
 |o::l,c,st,a,h,e,q=>by
  simp only[gz]at h;have Y: ∀(c:Cx) (st:St) (a:Act),iq W0 b0 rd c st a ats->(∀c' g p,K g=a6 r->iq W0 b0 rd c' g p ats->c.Mono c'->Q .normal p c'.w)->dR T cl call o st (fun v st=>gz T cl call ops K l (st.put o.dst v))=a6 r->
    o.wpIn (FW rd) n P a c.w (wpListIn (FW rd) n P ops Q l) Q:=fun c st a e q h=>
   OM hT s h e fun c' z u g E G I J=>Ji hT s ops l c' (g.put o.dst z) (a.put o.dst u) E (G.put I) fun L M N k1 k2 k3=>q L M N k1 k2 (J.trans k3)
  have y: ∀(st:St),iq W0 b0 rd c st a ats->gz T cl call ops K l (st.put o.dst (.tup []))=a6 r->(∀f,o.about P c.w a.eval=a6 f->(FW rd).fn f)/\wpListIn (FW rd) n P ops Q l (a.put o.dst undef) c.w:=fun st e h=>
   ⟨oG o c.w _,Ji hT s ops l c (st.put o.dst (.tup [])) (a.put o.dst undef) h (e.put (by simp only[bI];exact⟨#[],rfl,by simp[bC]⟩)) q⟩
  simp only[wpListIn];cases hg:o.guard with
  |none=>
   rw[hg]at h;rw[am (by simp[Region.wanted,hg])]
   grind
  |some O=>
   obtain⟨j,S⟩:=O;rw[hg]at h;simp only at h;split at h
   .cases h
   .rename_i d hd
    have i:=F5 ops j d hd a.tmps;have m:=e.fr.getD d;have U:=bC.length _ _ e.fr;rw[Array.length_toList]at U;split at h
    .rename_i b A
     rw[A]at m;simp only[bI]at m;have V:=m.bool_inv;have Z:d<a.tmps.size:=by
      grind
     have B:a.tmps[d]? =a6 (.bool b):=by
      simp_all
     rw[B]at i;simp only at i;have W:a.put (a6 d) (.bool b)=a:=by
      simp only[Act.put];obtain⟨ab,ad⟩:=Array.getElem?_eq_some_iff.1 B;have:a.tmps.setIfInBounds d (.bool b)=a.tmps:=by
       grind
      rw[this]
     have D:iq W0 b0 rd c (st.put (a6 d) (.val .bool b)) a ats:=by
      have:=e.put (dst:=a6 d) (z:=.val .bool b) (v:=.bool b) (by simp_all [bI]);rwa [W]at this
     cases b<;>cases S<;>(try simp only[aa,ac]at h)
     .rw[am (by simp[Region.wanted,hg,i])]
      grind
     .rw[ap (by simp[Region.wanted,hg,i])];exact y _ D h
     .rw[ap (by simp[Region.wanted,hg,i])];exact y _ D h
     .rw[am (by simp[Region.wanted,hg,i])]
      grind
    .rename_i A
     rw[A]at m;simp only[bI]at m;obtain⟨vs,V,_⟩:=m;have X:yielded ops a.tmps j=a7:=by
      rw[i];cases he:a.tmps[d]? with
      |none=>rfl
      |some x=>
       simp_all
     rw[ap (by simp[Region.wanted,hg,X])];exact y st e h
    .cases h
end
end
section
open List renaming mem_cons_of_mem → ai, map_cons → aj, mem_append_right → bg
open Nat renaming le_refl → af
open Option renaming map_some → aU
open Go.RowKit
structure Cx.Keeps (c c':Cx) (l:List Nat):Prop where
 free: ∀b,c.free b->c'.free b/\c'.w.heap[b]? =c.w.heap[b]?
 ref: ∀id∈l,c.known id->c'.known id
 obj: ∀id∈l,∀o',dG c'.hp id=some o'-> ∃o,dG c.hp id=some o/\o.like (c.mu id) o' (c'.mu id)
theorem Cx.Keeps.sub {c c':Cx} {l m:List Nat} (h:c.Keeps c' l) (e: ∀i∈m,i∈l):c.Keeps c' m:=⟨h.free,fun i d=>h.ref i (e i d),fun i d=>h.obj i (e i d)⟩
theorem Cx.Keeps.left {c c':Cx} {l m:List Nat} (h:c.Keeps c' (l++m)):c.Keeps c' l:=h.sub fun i d=>List.mem_append_left _ d
theorem Cx.Keeps.right {c c':Cx} {l m:List Nat} (h:c.Keeps c' (l++m)):c.Keeps c' m:=h.sub fun i d=>bg _ d
mutual
theorem bI.keeps {c c':Cx}: ∀(v:bH) (x:Value),c.Keeps c' (refs v)->bI c v x->bI c' v x
 |.undef,_,_,_=>by simp[bI]
 |.val t x,v,h,d=>by
  simp only[bI]at d ⊢;exact⟨fun e=>let⟨cs,j,g⟩:=d.1 e;⟨cs,j,dY.mono h.free t x _ g⟩,fun e=>dY.mono h.free t x _ (d.2 e)⟩
 |.nils,_,_,d=>by assumption
 |.emp,_,_,d=>by assumption
 |.lst t x b,v,h,d=>by
  simp only[bI]at d ⊢;exact⟨⟨fun e=>let⟨cs,j,g⟩:=d.1.1 e;⟨cs,j,dY.mono h.free (.list t) x _ g⟩,fun e=>dY.mono h.free (.list t) x _ (d.1.2 e)⟩,d.2⟩
 |.nilp,_,_,d=>by assumption
 |.nilfn,_,_,d=>by assumption
 |.tup l,v,h,d=>by simp only[bI]at d ⊢;obtain⟨s,j,g⟩:=d;exact⟨s,j,bC.keeps l _ (by simpa [refs] using h) g⟩
 |.agg l,v,h,d=>by simp only[bI]at d ⊢;obtain⟨s,j,g,y⟩:=d;exact⟨s,j,bC.keeps l _ (by simpa [refs] using h) g,y⟩
 |.cellp t x,v,h,d=>by
  simp only[bI]at d ⊢;obtain⟨b,o,D,j,g,y,E⟩:=d;exact⟨b,o,D,j,(h.free b g).1,y.of_block (h.free b g).2,dY.mono h.free t x _ E⟩
 |.ptr id G,v,h,d=>by
  simp only[bI]at d ⊢;obtain⟨m,d⟩:=d;refine⟨m,h.ref id (by simp[refs]) d.1,fun t cs q=> ?_⟩;obtain⟨o,j,g⟩:=h.obj id (by simp[refs]) _ q;cases o<;>simp only[dC.like]at g;simp_all
 |.slf id,v,h,d=>by
  simp only[bI]at d ⊢;obtain⟨m,d⟩:=d;refine⟨m,h.ref id (by simp[refs]) d.1,fun t cs q=> ?_⟩;obtain⟨o,j,g⟩:=h.obj id (by simp[refs]) _ q;cases o<;>simp only[dC.like]at g;simp_all
 |.sd id z,v,h,d=>by
  simp only[bI]at d ⊢;obtain⟨m,d⟩:=d;refine⟨m,h.ref id (by simp[refs]) d.1,fun t u A q=> ?_⟩;obtain⟨o,j,g⟩:=h.obj id (by simp[refs]) _ q;cases o with
  |arr t' v' B=>
   grind [dC.like]
  |box _ _=>simp[dC.like]at g
  |lp _ _ _ _ _ _ _ _=>simp[dC.like]at g
  |dead=>simp[dC.like]at g
  |mp _ _ _=>simp[dC.like]at g
 |.slc id z I,v,h,d=>by
  simp only[bI]at d ⊢;obtain⟨m,d⟩:=d;refine⟨m,h.ref id (by simp[refs]) d.1,fun t u A q=> ?_⟩;obtain⟨o,j,g⟩:=h.obj id (by simp[refs]) _ q;cases o with
  |arr t' v' B=>
   grind [dC.like]
  |box _ _=>simp[dC.like]at g
  |lp _ _ _ _ _ _ _ _=>simp[dC.like]at g
  |dead=>simp[dC.like]at g
  |mp _ _ _=>simp[dC.like]at g
 |.ep id z i G,v,h,d=>by
  simp only[bI]at d ⊢;obtain⟨m,d⟩:=d;refine⟨m,h.ref id (by simp[refs]) d.1,fun t u A q=> ?_⟩;obtain⟨o,j,g⟩:=h.obj id (by simp[refs]) _ q;cases o with
  |arr t' v' B=>
   grind [dC.like]
  |box _ _=>simp[dC.like]at g
  |lp _ _ _ _ _ _ _ _=>simp[dC.like]at g
  |dead=>simp[dC.like]at g
  |mp _ _ _=>simp[dC.like]at g
 |.fn f l,v,h,d=>by simp only[bI]at d ⊢;obtain⟨s,j,g⟩:=d;exact⟨s,j,bC.keeps l _ (by simpa [refs] using h) g⟩
 |.mfn f l,v,h,d=>by simp only[bI]at d ⊢;obtain⟨s,j,g⟩:=d;exact⟨s,j,bC.keeps l _ (by simpa [refs] using h) g⟩
 |.mpv id,v,h,d=>by
  simp only[bI]at d ⊢;obtain⟨m,d⟩:=d;refine⟨m,h.ref id (by simp[refs]) d.1,fun J K L q=> ?_⟩;obtain⟨o,j,g⟩:=h.obj id (by simp[refs]) _ q;cases o<;>simp only[dC.like]at g;simp_all
 |.yld id,v,h,d=>by
  simp only[bI]at d ⊢;obtain⟨m,d⟩:=d;refine⟨m,h.ref id (by simp[refs]) d.1,fun f M N O S U n p q=> ?_⟩;obtain⟨o,j,g⟩:=h.obj id (by simp[refs]) _ q;cases o<;>simp only[dC.like]at g;simp_all
theorem bC.keeps {c c':Cx}: ∀(l:List bH) (xs:List Value),c.Keeps c' (kD l)->bC c l xs->bC c' l xs
 |[],[],_,_=>by simp[bC]
 |v::l,x::xs,h,d=>by
  simp only[kD]at h;simp only[bC]at d ⊢;exact⟨bI.keeps v x h.left d.1,bC.keeps l xs h.right d.2⟩
 |[],_::_,_,d=>by simp[bC]at d
 |_::_,[],_,d=>by simp[bC]at d
end
theorem zY.keeps {c c':Cx}: ∀(e:List (List bH)) (g:List (Array Value)),c.Keeps c' (pX e)->zY c e g->zY c' e g
 |[],[],_,_=>trivial
 |f::e,t::g,h,d=>by
  simp only[pX]at h;exact⟨bC.keeps _ _ h.left d.1,zY.keeps e g h.right d.2⟩
 |[],_::_,_,d=>d.elim
 |_::_,[],_,d=>d.elim
theorem jD (p:Nat->Bool): ∀(h:fZ) (i:Nat),dG (h.filter fun e=>p e.1) i=if p i=true then dG h i else none
 |[],i=>by simp[dG]
 |(k,o)::h,i=>by
  rw[List.filter_cons];by_cases hk:p k=true
  .simp only[hk,if_true,dQ,jD p h i]
   grind
  .rw[ap hk,jD p h i,dQ]
   grind
theorem uG: ∀(h:fZ) (i:Nat) (o:dC),dG h i=some o->(i,o)∈h
 |[],i,o,d=>by simp[dG]at d
 |(k,e)::h,i,o,d=>by
  rw[dQ]at d;split at d
  .simp_all
  .exact ai _ (uG h i o d)
theorem yg: ∀(h:fZ) (e:Nat×dC),e∈h-> ∀i∈e.2.refs,i∈uN h
 |[],e,d,i,f=>by simp at d
 |(k,o)::h,e,d,i,f=>by
  simp only[uN,List.mem_append];rcases List.mem_cons.1 d with g|g
  .simp_all
  .right;exact yg h e g i f
theorem qV {d l:List Nat} (h:Bf d l=true): ∀i∈l,i∉d:=by
 intro i e hd;have:=List.all_eq_true.1 h i e;simp only[Bool.not_eq_true',U9]at this;have f:d.any (Nat.beq i)=true:=List.any_eq_true.2 ⟨i,hd,by simp⟩;simp_all
theorem Cx.keeps_filter {c:Cx} {p:Nat->Bool} {l:List Nat} (m: ∀i∈l,i∉((c.hp.filter fun e=> !p e.1).map (·.1))):c.Keeps {c with hp:=c.hp.filter fun e=>p e.1} l:=by
 refine⟨fun b g=>⟨⟨g.1, ?_,g.2.2⟩,rfl⟩,fun i h hk=> ?_,fun i h j d=> ?_⟩
 .rintro ⟨i,o,f,q⟩;rw[jD]at f;split at f
  .exact g.2.1 ⟨i,o,f,q⟩
  .cases f
 .rcases hk with ⟨o,d⟩|hk
  .left;refine⟨o, ?_⟩;rw[jD];split
   .exact d
   .rename_i hp
    exfalso;refine m i h (List.mem_map.2 ⟨(i,o),List.mem_filter.2 ⟨uG _ _ _ d,by simp[hp]⟩,rfl⟩)
  .exact .inr hk
 .rw[jD]at d;split at d
  .exact⟨j,d,j.like_refl _⟩
  .cases d
section
variable {P:Program} {T:TT} {W0:World} {b0 n:Nat} {rd:Option Nat} {c:Cx} {R:Type} {r:R} {st:St} {a:Act} {ats:List (Array Value)}
theorem OQ (c:Cx) (p:Nat->Bool): ∀b,c.out b->({c with hp:=c.hp.filter fun e=>p e.1}:Cx).out b/\({c with hp:=c.hp.filter fun e=>p e.1}:Cx).w.heap[b]? =c.w.heap[b]? :=fun b f=>⟨⟨f.1,(by
 rintro ⟨i,o,d,g⟩;simp only at d g;rw[jD]at d;split at d
 .exact f.2.1 ⟨i,o,d,g⟩
 .cases d),f.2.2⟩,rfl⟩
theorem Cx.Ok.filter (l:c.Ok W0) {p:Nat->Bool} (hk:c.Keeps {c with hp:=c.hp.filter fun e=>p e.1} (uN (c.hp.filter fun e=>p e.1))):({c with hp:=c.hp.filter fun e=>p e.1}:Cx).Ok W0:=by
 have sub: ∀i o,dG (c.hp.filter fun e=>p e.1) i=some o->dG c.hp i=some o:=fun i o h=>by
  simp_all [jD]
 refine⟨l.bel,fun i o y=> ?_,fun i j o q b d g=>l.inj i j o q b (sub i o d) (sub j q g),l.mks,fun b u=>⟨(l.bar b u).1,(fun⟨i,o,d,g⟩=>(l.bar b u).2.1 ⟨i,o,sub i o d,g⟩),(l.bar b u).2.2⟩,l.phi⟩;have m:=l.obj i o (sub i o y);have z:=uG _ _ _ y;cases o with
 |box e cs=>
  obtain⟨d,A,g,s,v⟩:=m;exact⟨d,A,g,bC.keeps _ _ (hk.sub fun j x=>yg _ _ z j x) s,v⟩
 |arr t ver D=>
  obtain⟨m,e,B,d,g,s⟩:=m;exact⟨m,e,B,d,eY.mono (dY.mono hk.free t) _ _ g,s⟩
 |lp f fr ps asg bd ky n p=>
  obtain⟨m,d,L,g,s,v⟩:=m;exact⟨m,d,L,g,bC.keeps _ _ (hk.sub fun j x=>yg _ _ z j x) s,v⟩
 |dead=>trivial
 |mp kk vk E=>exact m
theorem iq.gc (d:iq W0 b0 rd c st a ats) {f:Nat} {v:bH} {u:Value} (m:bI c v u) {g:St} (h:gc f v st=some g):
  ∃c',iq W0 b0 rd c' g a ats/\bI c' v u/\c.Mono c'/\c'.w=c.w/\g.stk=st.stk/\g.fr=st.fr:=by
 obtain⟨fr,stk,o,q⟩:=st;simp only[Go.Proofs.YtjgoejaajmhllaaGreatDoor.gc]at h;rw[cond_eq_ite]at h;split at h
 .rename_i j
  cases h;have l:=d.hp;simp only at l;subst l;have s: ∀p:Nat->Bool,Bf ((c.hp.filter fun e=> !p e.1).map (·.1)) (refs v++kD fr++pX stk++uN (c.hp.filter fun e=>p e.1))=true->
    ∃c',iq W0 b0 rd c' ⟨fr,stk,c.hp.filter fun e=>p e.1,q⟩ a ats/\bI c' v u/\c.Mono c'/\c'.w=c.w/\stk=stk/\fr=fr:=fun p j=>by
   have x:=qV j;have hk:=Cx.keeps_filter (c:=c) (p:=p) x;exact⟨{c with hp:=c.hp.filter fun e=>p e.1},⟨rfl,d.nxt,d.ok.filter (p:=p) hk.right,bC.keeps _ _ hk.left.left.right d.fr,zY.keeps _ _ hk.left.right d.stk,d.df,d.rd⟩,bI.keeps _ _ hk.left.left.left m,⟨fun _ h=>h,fun b L h=>⟨L,h⟩,af _,rfl,OQ c p⟩,rfl,rfl,rfl⟩
  exact s (fun i=>Nat.blt i f||U9 (aom (c.hp.filter fun e=> !Nat.blt e.1 f) 3 (refs v++kD fr++pX stk++uN (c.hp.filter fun e=>Nat.blt e.1 f))) i) j
 .cases h
theorem Y7 (f:dC->dC): ∀(h:fZ) (i:Nat),dG (h.map fun e=>(e.1,f e.2)) i=(dG h i).map f
 |[],i=>rfl
 |(k,o)::h,i=>by
  simp only[aj,dQ,Y7 f h i];split<;>rfl
def Cx.anew (c:Cx):Cx:={c with hp:=c.hp.map fun e=>(e.1,e.2.anew c.hp)}
theorem dC.anew_blk (h:fZ) (o:dC) (l:Loc):(o.anew h).blk l=o.blk l:=by cases o<;>rfl
theorem Cx.anew_get (c:Cx) (i:Nat):dG c.anew.hp i=(dG c.hp i).map (dC.anew c.hp):=Y7 _ _ _
theorem Cx.anew_free (c:Cx): ∀b,c.free b->c.anew.free b/\c.anew.w.heap[b]? =c.w.heap[b]? :=fun b d=>⟨⟨d.1,by
 rintro ⟨i,o,e,f⟩;rw[Cx.anew_get]at e;obtain⟨g,h,rfl⟩:=Option.map_eq_some_iff.1 e;rw[dC.anew_blk]at f;exact d.2.1 ⟨i,g,h,f⟩,d.2.2⟩,rfl⟩
theorem Cx.anew_out (c:Cx): ∀b,c.out b->c.anew.out b/\c.anew.w.heap[b]? =c.w.heap[b]? :=fun b d=>⟨⟨d.1,(by
 rintro ⟨i,o,e,f⟩;rw[Cx.anew_get]at e;obtain⟨g,h,rfl⟩:=Option.map_eq_some_iff.1 e;rw[dC.anew_blk]at f;exact d.2.1 ⟨i,g,h,f⟩),d.2.2⟩,rfl⟩
theorem Cx.anew_known (c:Cx) {i:Nat} (h:c.known i):c.anew.known i:=by
 rcases h with ⟨o,d⟩|h
 .exact .inl ⟨_,by rw[Cx.anew_get,d];rfl⟩
 .exact .inr h
theorem AA {h:fZ} {id d:Nat} (hf:NS h id d=true): ∃t xs,dG h id=some (.arr t d xs):=by
 simp only[NS,av5]at hf
 grind
mutual
theorem bI.anew {c:Cx}: ∀(v:bH) (x:Value),bI c v x->bI c.anew (Go.Proofs.YtjgoejaajmhllaaGreatDoor.anew c.hp v) x
 |.undef,_,_=>by simp[bI,Go.Proofs.YtjgoejaajmhllaaGreatDoor.anew]
 |.val t x,v,d=>by
  simp only[bI,Go.Proofs.YtjgoejaajmhllaaGreatDoor.anew]at d ⊢;exact⟨fun e=>let⟨cs,h,g⟩:=d.1 e;⟨cs,h,dY.mono c.anew_free t x _ g⟩,fun e=>dY.mono c.anew_free t x _ (d.2 e)⟩
 |.nils,_,d=>by simpa only[bI,Go.Proofs.YtjgoejaajmhllaaGreatDoor.anew] using d
 |.emp,_,d=>by simpa only[bI,Go.Proofs.YtjgoejaajmhllaaGreatDoor.anew] using d
 |.lst t x b,v,d=>by
  simp only[bI,Go.Proofs.YtjgoejaajmhllaaGreatDoor.anew]at d ⊢;exact⟨⟨fun e=>let⟨cs,h,g⟩:=d.1.1 e;⟨cs,h,dY.mono c.anew_free (.list t) x _ g⟩,fun e=>dY.mono c.anew_free (.list t) x _ (d.1.2 e)⟩,d.2⟩
 |.nilp,_,d=>by simpa only[bI,Go.Proofs.YtjgoejaajmhllaaGreatDoor.anew] using d
 |.nilfn,_,d=>by simpa only[bI,Go.Proofs.YtjgoejaajmhllaaGreatDoor.anew] using d
 |.tup l,v,d=>by simp only[bI,Go.Proofs.YtjgoejaajmhllaaGreatDoor.anew]at d ⊢;obtain⟨q,h,g⟩:=d;exact⟨q,h,bC.anew l _ g⟩
 |.agg l,v,d=>by simp only[bI,Go.Proofs.YtjgoejaajmhllaaGreatDoor.anew]at d ⊢;obtain⟨q,h,g,z⟩:=d;exact⟨q,h,bC.anew l _ g,z⟩
 |.cellp t x,v,d=>by
  simp only[bI,Go.Proofs.YtjgoejaajmhllaaGreatDoor.anew]at d ⊢;obtain⟨b,o,J,h,g,z,K⟩:=d;exact⟨b,o,J,h,(c.anew_free b g).1,z.of_block (c.anew_free b g).2,dY.mono c.anew_free t x _ K⟩
 |.ptr id L,v,d=>by
  simp only[bI,Go.Proofs.YtjgoejaajmhllaaGreatDoor.anew]at d ⊢;obtain⟨m,d⟩:=d;refine⟨m,c.anew_known d.1,fun t cs j=> ?_⟩;rw[Cx.anew_get]at j;obtain⟨o,h,g⟩:=Option.map_eq_some_iff.1 j;cases o<;>simp only[dC.anew,reduceCtorEq]at g;exact d.2 _ _ h
 |.slf id,v,d=>by
  simp only[bI,Go.Proofs.YtjgoejaajmhllaaGreatDoor.anew]at d ⊢;obtain⟨m,d⟩:=d;refine⟨m,c.anew_known d.1,fun t cs j=> ?_⟩;rw[Cx.anew_get]at j;obtain⟨o,h,g⟩:=Option.map_eq_some_iff.1 j;cases o<;>simp only[dC.anew,reduceCtorEq]at g;exact d.2 _ _ h
 |.sd id B,v,d=>by
  simp only[bI,Go.Proofs.YtjgoejaajmhllaaGreatDoor.anew]at d ⊢;rw[cond_eq_ite];split
  .rename_i y
   obtain⟨D,E,s⟩:=AA y;simp only[bI];obtain⟨m,d⟩:=d;refine⟨m,c.anew_known d.1,fun t u G j=>⟨Nat.zero_le _,fun I=> ?_⟩⟩;exact(d.2 _ _ _ s).2 rfl
  .simp[bI]
 |.slc id B M,v,d=>by
  simp only[bI,Go.Proofs.YtjgoejaajmhllaaGreatDoor.anew]at d ⊢;rw[cond_eq_ite];split
  .rename_i y
   obtain⟨D,E,s⟩:=AA y;simp only[bI];obtain⟨m,d⟩:=d;refine⟨m,c.anew_known d.1,fun t u G j=>⟨Nat.zero_le _,fun I=> ?_⟩⟩;rw[Cx.anew_get,s]at j;simp only[aU,dC.anew,Option.some.injEq,dC.arr.injEq]at j;obtain⟨A,_,_⟩:=j;rw[<-A];exact(d.2 _ _ _ s).2 rfl
  .simp[bI]
 |.ep id B i L,v,d=>by
  simp only[bI,Go.Proofs.YtjgoejaajmhllaaGreatDoor.anew]at d ⊢;rw[cond_eq_ite];split
  .rename_i y
   obtain⟨D,E,s⟩:=AA y;simp only[bI];obtain⟨m,d⟩:=d;refine⟨m,c.anew_known d.1,fun t u G j=>⟨Nat.zero_le _,fun I=> ?_⟩⟩;rw[Cx.anew_get,s]at j;simp only[aU,dC.anew,Option.some.injEq,dC.arr.injEq]at j;obtain⟨A,_,_⟩:=j;rw[<-A];exact(d.2 _ _ _ s).2 rfl
  .simp[bI]
 |.fn f l,v,d=>by simp only[bI,Go.Proofs.YtjgoejaajmhllaaGreatDoor.anew]at d ⊢;obtain⟨q,h,g⟩:=d;exact⟨q,h,bC.anew l _ g⟩
 |.mfn f l,v,d=>by simp only[bI,Go.Proofs.YtjgoejaajmhllaaGreatDoor.anew]at d ⊢;obtain⟨q,h,g⟩:=d;exact⟨q,h,bC.anew l _ g⟩
 |.mpv id,v,d=>by
  simp only[bI,Go.Proofs.YtjgoejaajmhllaaGreatDoor.anew]at d ⊢;obtain⟨m,d⟩:=d;refine⟨m,c.anew_known d.1,fun N O S j=> ?_⟩;rw[Cx.anew_get]at j;obtain⟨o,h,g⟩:=Option.map_eq_some_iff.1 j;cases o<;>simp only[dC.anew,reduceCtorEq]at g;exact d.2 _ _ _ h
 |.yld id,v,d=>by
  simp only[bI,Go.Proofs.YtjgoejaajmhllaaGreatDoor.anew]at d ⊢;obtain⟨m,d⟩:=d;refine⟨m,c.anew_known d.1,fun f U V W X Y n p j=> ?_⟩;rw[Cx.anew_get]at j;obtain⟨o,h,g⟩:=Option.map_eq_some_iff.1 j;cases o<;>simp only[dC.anew,reduceCtorEq]at g;exact d.2 _ _ _ _ _ _ _ _ h
theorem bC.anew {c:Cx}: ∀(l:List bH) (xs:List Value),bC c l xs->bC c.anew (xE c.hp l) xs
 |[],[],_=>by simp[bC,xE]
 |v::l,x::xs,d=>by
  simp only[bC,xE]at d ⊢;exact⟨bI.anew v x d.1,bC.anew l xs d.2⟩
 |[],_::_,d=>by simp[bC]at d
 |_::_,[],d=>by simp[bC]at d
end
theorem zY.anew {c:Cx}: ∀(e:List (List bH)) (g:List (Array Value)),zY c e g->zY c.anew (e.map (xE c.hp)) g
 |[],[],_=>trivial
 |f::e,t::g,d=>⟨bC.anew _ _ d.1,zY.anew e g d.2⟩
 |[],_::_,d=>d.elim
 |_::_,[],d=>d.elim
theorem iq.anew (d:iq W0 b0 rd c st a ats): ∃c',iq W0 b0 rd c' (TQ st) a ats/\c.Mono c'/\c'.w=c.w:=by
 obtain⟨z,K,M,N⟩:=st;have v:=d.hp;simp only at v;subst v;refine⟨c.anew,⟨rfl,d.nxt,⟨d.ok.bel,fun i o x=> ?_,fun i j o q b g l m u=> ?_,d.ok.mks,fun b A=>(Cx.anew_out c b (d.ok.bar b A)).1,d.ok.phi⟩,bC.anew _ _ d.fr,zY.anew _ _ d.stk,d.df,d.rd⟩,⟨fun _ h=>h,fun b L h=>⟨L,h⟩,af _,rfl,Cx.anew_out c⟩,rfl⟩
 .rw[Cx.anew_get]at x;obtain⟨y,g,rfl⟩:=Option.map_eq_some_iff.1 x;have s:=d.ok.obj i y g;cases y with
  |box e cs=>
   obtain⟨g,B,l,m,u⟩:=s;exact⟨g,B,l,bC.anew _ _ m,u⟩
  |arr t ver O=>
   obtain⟨s,e,D,g,l,m⟩:=s;exact⟨s,e,D,g,eY.mono (dY.mono c.anew_free t) _ _ l,m⟩
  |lp f z ps asg bd ky n p=>
   obtain⟨s,g,L,l,m,u⟩:=s;exact⟨s,g,L,l,bC.anew _ _ m,u⟩
  |dead=>trivial
  |mp kk vk S=>exact s
 .rw[Cx.anew_get]at g l;obtain⟨E,G,rfl⟩:=Option.map_eq_some_iff.1 g;obtain⟨I,J,rfl⟩:=Option.map_eq_some_iff.1 l;rw[dC.anew_blk]at m u;exact d.ok.inj i j E I b G J m u
theorem xU {l:List Nat}: ∀(i:Nat) (fr:List bH) (xs:List Value),bC c fr xs->bC c (Eg l i fr) xs
 |i,[],[],_=>by simp[bC,Eg]
 |i,v::fr,x::xs,h=>by
  simp only[bC,Eg]at h ⊢;refine⟨?_,xU (i+1) fr xs h.2⟩;rw[cond_eq_ite]
  grind [bI]
 |i,[],_::_,h=>by simp[bC]at h
 |i,_::_,[],h=>by simp[bC]at h
end
end
end Go.Proofs.YtjgoejaajmhllaaGreatDoor
