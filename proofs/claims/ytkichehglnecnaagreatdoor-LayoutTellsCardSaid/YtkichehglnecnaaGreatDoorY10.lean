/- Parts of the proof, joined and shortened by a program: the plain machine, the functions as it prints them, and the mathematics over them. -/
import Derived.Test.YtkichehglnecnaaGreatDoorY3
import Derived.Test.YtkichehglnecnaaGreatDoorY4
import Derived.Test.YtkichehglnecnaaGreatDoorY5
import Derived.Test.YtkichehglnecnaaGreatDoorY6
import Derived.Test.YtkichehglnecnaaGreatDoorY7
import Derived.Test.YtkichehglnecnaaGreatDoorY8
import Derived.Test.YtkichehglnecnaaGreatDoorY9
set_option linter.unusedVariables false
set_option linter.unusedSimpArgs false
set_option maxRecDepth 100000
set_option maxHeartbeats 4000000
namespace Go.Proofs.YtkichehglnecnaaGreatDoor
section
open List renaming length_map → aI, length_drop → aQ
open Nat renaming le_trans → aG
open Go.RowKit
theorem Wq {s:List UInt8} (d:s.length<=10000):U2 (gJ s (oJ s).1):=by
 refine⟨?_,fun f e=> ?_⟩
 .have h:=(JS d).2.2;unfold gJ;rw[aI];exact aG (List.length_filter_le _ _) (aG h d)
 .unfold gJ at e;obtain⟨t,_,rfl⟩:=List.mem_map.1 e;refine aG ?_ d;unfold azM sub;simp only[List.length_take,aQ];omega
theorem aDn {s:List UInt8} (d:s.length<=10000): ∃l,amK (gJ s (oJ s).1)=some (l,())/\amJ (gJ s (oJ s).1)=some (l,())/\l.length<=16*(gJ s (oJ s).1).length+1/\ ∃m,l=(1,0,((gJ s (oJ s).1).length:Int),-1,())::m/\Tr (gJ s (oJ s).1) 0 (gJ s (oJ s).1).length 0 1 m:=
 atd (Wq d)
end
section
open Option renaming some → a6, none → a7
open Bool renaming and_eq_true → af, not_true → ay, not_false → aB
open Go.RowKit
theorem aui (x:bW) (a b:Int):lY (6,(x,(a,(b,()))))=lY (6,(x,(0,(0,())))):=by
 unfold lY;simp only[show bT 6 2=false from rfl,show bT 6 5=false from rfl,show bT 6 4=false from rfl,ac]
def auh (w:bW):Bool:=match lY (6,(w,(0,(0,()))))with
 |some ([c],_)=>c !=60&&c !=35
 |_=>false
theorem anq:aa3.all auh=true:=by kernel_rfl
theorem aeo {x:List UInt8} (hx:x.length<=10000) (a b:Int):O6 (6,(x,(a,(b,()))))≠60/\O6 (6,(x,(a,(b,()))))≠35:=by
 unfold O6;rw[aui];cases hw:aa3.contains x with
 |true=>
  have:=List.all_eq_true.1 anq x (by simpa using hw);unfold auh at this;split at this
  .rename_i c u d
   rw[d];simp only[af,bne_iff_ne]at this;exact this
  .cases this
 |false=>
  have:lY (6,(x,(0,(0,()))))=a6 ([120],()):=by
   unfold lY;simp only[show bT 6 2=false from rfl,show bT 6 5=false from rfl,show bT 6 4=false from rfl,show bT 6 6=true from rfl,ac,ay];rw[aj1 x (by omega) hw,bD];rfl
  rw[this];exact⟨by decide,by decide⟩
theorem auf {x:List UInt8} (hx:x.length<=10000) (a b:Int):O6 (4,(x,(a,(b,()))))≠35:=by
 unfold O6;cases hw:LJ.contains x with
 |true=>
  rcases asJ hw with h|h|h|h|h|h|h|h|h|h|h|h|h|h|h|h|h
  .subst h;rw[show lY (4,([38,38],(a,(b,()))))=a6 ([97],()) by kernel_rfl];decide
  .subst h;rw[show lY (4,([124,124],(a,(b,()))))=a6 ([111],()) by kernel_rfl];decide
  .subst h;rw[show lY (4,([59,59],(a,(b,()))))=a6 ([121],()) by kernel_rfl];decide
  .subst h;rw[show lY (4,([60,60],(a,(b,()))))=a6 ([60],()) by kernel_rfl];decide
  .subst h;rw[show lY (4,([60,60,45],(a,(b,()))))=a6 ([60],()) by kernel_rfl];decide
  .subst h;rw[show lY (4,([62,62],(a,(b,()))))=a6 ([60],()) by kernel_rfl];decide
  .subst h;rw[show lY (4,([60,38],(a,(b,()))))=a6 ([60],()) by kernel_rfl];decide
  .subst h;rw[show lY (4,([62,38],(a,(b,()))))=a6 ([60],()) by kernel_rfl];decide
  .subst h;rw[show lY (4,([60,62],(a,(b,()))))=a6 ([60],()) by kernel_rfl];decide
  .subst h;rw[show lY (4,([62,124],(a,(b,()))))=a6 ([60],()) by kernel_rfl];decide
  .subst h;rw[show lY (4,([60],(a,(b,()))))=a6 ([60],()) by kernel_rfl];decide
  .subst h;rw[show lY (4,([62],(a,(b,()))))=a6 ([60],()) by kernel_rfl];decide
  .subst h;rw[show lY (4,([38],(a,(b,()))))=a6 ([38],()) by kernel_rfl];decide
  .subst h;rw[show lY (4,([59],(a,(b,()))))=a6 ([59],()) by kernel_rfl];decide
  .subst h;rw[show lY (4,([124],(a,(b,()))))=a6 ([124],()) by kernel_rfl];decide
  .subst h;rw[show lY (4,([40],(a,(b,()))))=a6 ([40],()) by kernel_rfl];decide
  .subst h;rw[show lY (4,([41],(a,(b,()))))=a6 ([41],()) by kernel_rfl];decide
 |false=>
  have:lY (4,(x,(a,(b,()))))=a6 ([63],()):=by
   unfold lY;simp only[show bT 4 2=false from rfl,show bT 4 5=false from rfl,show bT 4 4=true from rfl,ac,aa];rw[show(1:Int)=((0:Nat):Int)+1 from rfl,abe x hw 4 a b bJ 0 (by omega) (dH)];rfl
  rw[this];decide
theorem aue {f:Lf} (hf:f.2.1.length<=10000) (h:O6 f=60):f.1=4:=by
 obtain⟨k,x,a,b,u⟩:=f;by_cases h4:k=4
 .exact h4
 exfalso;by_cases h2:k=2
 .subst h2;rw[show O6 (2,(x,(a,(b,u))))=110 from rfl]at h;exact absurd h (by decide)
 by_cases h5:k=5
 .subst h5;rw[show O6 (5,(x,(a,(b,u))))=35 from rfl]at h;exact absurd h (by decide)
 by_cases h6:k=6
 .subst h6;exact(aeo hf a b).1 h
 have:lY (k,(x,(a,(b,()))))=a6 ([63],()):=by
  unfold lY;simp only[dR h2,dR h4,dR h5,dR h6,ac,aB,aa]
 unfold O6 at h;rw[this]at h;exact absurd h (by decide)
theorem ayM {f:Lf} (hf:f.2.1.length<=10000) (h:O6 f=35):f.1≠4:=by
 obtain⟨k,x,a,b,u⟩:=f;rintro rfl;exact auf hf a b h
end
section
open Bool renaming and_eq_true → af, not_false → aB
open Int renaming toNat_natCast → aS
open List renaming append_assoc → ag, length_append → ai, mem_cons_of_mem → au, nil_append → aA, length_cons → aH, getElem_mem → aJ, mem_cons_self → aP, append_nil → aV, cons_append → aW, flatMap_cons → bi
open Go.RowKit
theorem aD6 {f:Lf} (hf:f.2.1.length<=10000) (h:O6 f=35):f.1=5:=by
 obtain⟨k,x,a,b,u⟩:=f;by_cases h5:k=5
 .exact h5
 exfalso;by_cases h2:k=2
 .subst h2;rw[show O6 (2,(x,(a,(b,u))))=110 from rfl]at h;exact absurd h (by decide)
 by_cases h4:k=4
 .exact ayM hf h h4
 by_cases h6:k=6
 .subst h6;exact(aeo hf a b).2 h
 have:lY (k,(x,(a,(b,()))))=some ([63],()):=by
  unfold lY;simp only[dR h2,dR h4,dR h5,dR h6,ac,aB,aa]
 unfold O6 at h;rw[this]at h;exact absurd h (by decide)
def tx (F:List Lf) (p:Nat):bW:=(F.getD p dLf).2.1
def kd (F:List Lf) (p:Nat):Int:=(F.getD p dLf).1
def kM (F:List Lf) (p:Nat) (n:Nd):Prop:=n.2.1<=(p:Int)/\(p:Int)<n.2.2.1/\(n.1=6\/n.1=7\/n.1=8/\(kd F p=4\/kd F p=5))
instance (F:List Lf) (p:Nat) (n:Nd):Decidable (kM F p n):=by unfold kM;infer_instance
def Dj (F:List Lf) (p:Nat) (n:Nd):List bW:=if kM F p n then [tx F p]else []
def wLf (F:List Lf) (m:List Nd) (p:Nat):List bW:=m.flatMap (Dj F p)
def l9 (F:List Lf) (m:List Nd) (a c:Nat):List bW:=(List.range' a c).flatMap (wLf F m)
def fkF (i:Int) (n:Nd) (x:Option Nd):Int:=match x with
 |some x=>if x.2.2.2.1=i then x.2.1 else n.2.2.1
 |none=>n.2.2.1
def uQ (F:List Lf) (i:Int) (n:Nd) (x:Option Nd):List bW:=if n.1=6\/n.1=7 then [tx F n.2.1.toNat]else if n.1=8 then(List.range' n.2.1.toNat ((max (fkF i n x) n.2.1).toNat-n.2.1.toNat)).map (tx F)else []
def zl (F:List Lf):Nat->List Nd->List bW
 |_,[]=>[]
 |k,n::m=>uQ F (k:Int) n m.head?++zl F (k+1) m
theorem BB {F:List Lf} {m:List Nd} {a c:Nat} (h: ∀p,a<=p->p<a+c-> ∀x∈m,¬kM F p x):l9 F m a c=[]:=by
 unfold l9 wLf;rw[List.flatMap_eq_nil_iff];intro p d;rw[List.flatMap_eq_nil_iff];intro x e;have:=List.mem_range'_1.1 d;unfold Dj;rw[aq (h p this.1 this.2 x e)]
theorem JC {d e:Type} {f g:d->List e}: ∀{l:List d},(∀x∈l,f x=g x)->l.flatMap f=l.flatMap g
 |[],_=>rfl
 |a::l,h=>by rw[bi,bi,h a (aP ..),JC fun x i=>h x (au _ i)]
theorem aAL {F:List Lf} {m n:List Nd} {p:Nat} (h: ∀x∈m,¬kM F p x):wLf F (m++n) p=wLf F n p:=by
 unfold wLf;rw[List.flatMap_append,List.flatMap_eq_nil_iff.2 (fun x d=>by unfold Dj;rw[aq (h x d)]),aA]
theorem aIp {F:List Lf} {m n:List Nd} {p:Nat} (h: ∀x∈n,¬kM F p x):wLf F (m++n) p=wLf F m p:=by
 unfold wLf;have e:n.flatMap (Dj F p)=[]:=List.flatMap_eq_nil_iff.2 fun x d=>by unfold Dj;rw[aq (h x d)]
 rw[List.flatMap_append,e,aV]
theorem abS {F:List Lf} {m n:List Nd} {a c:Nat} (h: ∀p,a<=p->p<a+c-> ∀x∈m,¬kM F p x):l9 F (m++n) a c=l9 F n a c:=by
 exact JC fun p d=>aAL (h p (List.mem_range'_1.1 d).1 (List.mem_range'_1.1 d).2)
theorem ahr {F:List Lf} {m n:List Nd} {a c:Nat} (h: ∀p,a<=p->p<a+c-> ∀x∈n,¬kM F p x):l9 F (m++n) a c=l9 F m a c:=by
 exact JC fun p d=>aIp (h p (List.mem_range'_1.1 d).1 (List.mem_range'_1.1 d).2)
theorem BA {F:List Lf} {m:List Nd} (a c d:Nat):l9 F m a (c+d)=l9 F m a c++l9 F m (a+c) d:=by
 unfold l9;rw[<-List.flatMap_append,<-List.range'_append_1]
theorem UR (F:List Lf) (m:List Nd) (a:Nat):l9 F m a 1=wLf F m a:=by simp[l9]
theorem Xz (F:List Lf) (m:List Nd) (a:Nat):l9 F m a 0=[]:=rfl
theorem Tr.rng {F:List Lf} {a b:Nat} {u:Int} {k:Nat} {m:List Nd} (h:Tr F a b u k m): ∀n∈m,(a:Int)<=n.2.1/\n.2.1<=n.2.2.1/\n.2.2.1<=b:=by
 induction h with
 |nil h=>intro n d;cases d
 | @leaf a b f t u k kd m h1 hk hf h2 g=>
  intro n d;have i:=h2.le;rcases List.mem_cons.1 d with e|e
  .subst e;simp only;omega
  .have:=g n e;omega
 | @node a b f t u k kd m n' h1 hk h8 h h2 ih1 j=>
  intro n d;have i:=h.le;have l:=h2.le;rcases List.mem_cons.1 d with e|e
  .subst e;simp only;omega
  .rcases List.mem_append.1 e with e|e
   .have:=ih1 n e;omega
   .have:=j n e;omega
theorem Tr.one_inv {F:List Lf} {a b:Nat} {u:Int} {k:Nat} {x:Nd} (h:Tr F a b u k [x]):x.2.2.2.1=u/\(x.1=6\/x.1=7-> ∃p:Nat,x.2.1=(p:Int)/\ ∃h:p<F.length,F[p].1=6):=by
 generalize d:[x]=m at h;cases h with
 |nil _=>cases d
 | @leaf _ _ f t _ _ kd m h1 hk hf e=>
  injection d with e1 e2
  subst e1;exact⟨rfl,fun h=>⟨f,rfl,hf h⟩⟩
 | @node _ _ f t _ _ kd m n' h1 hk h8 h e=>
  injection d with e1 e2
  subst e1;exact⟨rfl,fun h=>by simp only at h;omega⟩
theorem avy {F:List Lf} {p:Nat} (h:p<F.length):kd F p=F[p].1:=by
 unfold kd;rw[List.getD_eq_getElem?_getD,List.getElem?_eq_getElem h];rfl
theorem az7 {F:List Lf} (hF:U2 F) {p:Nat} {c:UInt8} (h:fD F p [c]=true): ∃hp:p<F.length,O6 F[p]=c:=by
 unfold fD at h;simp only[af,decide_eq_true_eq,List.contains_iff_mem,List.mem_singleton]at h;exact⟨h.1,by rw[<-Uh h.1];exact h.2⟩
theorem avD {F:List Lf} (hF:U2 F) {a b:Nat} {u:Int} {k:Nat} {m:List Nd} (h:Tr F a b u k m): ∀R:List Nd,zl F k (m++R)=l9 F m a (b-a)++zl F (k+m.length) R:=by
 induction h with
 |nil h=>intro R;rw[BB (by simp)];rfl
 | @leaf a b f t u k kd m h1 hk hf h2 M=>
  intro R;have N:=h2.le;have o:=h2.rng;have A:l9 F ((kd,(f:Int),(t:Int),u,())::m) a (f-a)=[]:=BB fun p i j x d=>by
   rcases List.mem_cons.1 d with e|e
   .subst e;unfold kM;simp only;omega
   .have:=o x e;unfold kM;omega
  have B:l9 F ((kd,(f:Int),(t:Int),u,())::m) f (t-f)=uQ F (k:Int) (kd,(f:Int),(t:Int),u,()) (m++R).head?:=by
   have s:l9 F ([(kd,(f:Int),(t:Int),u,())]++m) f (t-f)=l9 F [(kd,(f:Int),(t:Int),u,())] f (t-f):=ahr fun p i j x d=>by
    have:=o x d;unfold kM;omega
   rw[List.singleton_append]at s;rw[s];rcases hk with ⟨k18,l⟩|⟨hk,l⟩
   .rw[l,Nat.sub_self,Xz];unfold uQ;rw[aq (by simp only;omega),aq (by simp only;omega)]
   .rw[l,show f+1-f=1 by omega,UR];unfold wLf Dj uQ;by_cases h67:kd=6\/kd=7
    .rw[bi,List.flatMap_nil,am (by unfold kM;simp only;omega),am h67];simp
    .rw[bi,List.flatMap_nil,aq (by unfold kM;simp only;omega),aq (by simpa using h67),aq (by simp only;omega)];rfl
  have l:l9 F ((kd,(f:Int),(t:Int),u,())::m) t (b-t)=l9 F m t (b-t):=abS (m:=[(kd,(f:Int),(t:Int),u,())]) fun p i j x d=>by
   rw[List.mem_singleton.1 d];unfold kM;simp only;omega
  rw[show b-a=(f-a)+((t-f)+(b-t)) by omega,BA,BA,show a+(f-a)=f by omega,show f+(t-f)=t by omega,A,B,l,aW,zl,M R,aA,ag,aH,show k+1+m.length=k+(m.length+1) by omega]
 | @node a b f t u k kd m n' h1 hk h8 h h2 ih1 O=>
  intro R;have N:=h.le;have ak:=h2.le;have o:=h.rng;have G:=h2.rng;have A:l9 F ((kd,(f:Int),(t:Int),u,())::(m++n')) a (f-a)=[]:=BB fun p i j x d=>by
   rcases List.mem_cons.1 d with e|e
   .subst e;unfold kM;simp only;omega
   .rcases List.mem_append.1 e with e|e
    .have:=o x e;unfold kM;omega
    .have:=G x e;unfold kM;omega
  have l:l9 F ((kd,(f:Int),(t:Int),u,())::(m++n')) t (b-t)=l9 F n' t (b-t):=abS (m:=(kd,(f:Int),(t:Int),u,())::m) fun p i j x d=>by
   rcases List.mem_cons.1 d with e|e
   .subst e;unfold kM;simp only;omega
   .have:=o x e;unfold kM;omega
  have S:l9 F ((kd,(f:Int),(t:Int),u,())::(m++n')) f (t-f)=l9 F ((kd,(f:Int),(t:Int),u,())::m) f (t-f):=ahr (m:=(kd,(f:Int),(t:Int),u,())::m) fun p i j x d=>by
   have:=G x d;unfold kM;omega
  have B:l9 F ((kd,(f:Int),(t:Int),u,())::m) f (t-f)=uQ F (k:Int) (kd,(f:Int),(t:Int),u,()) (m++(n'++R)).head?++l9 F m f (t-f):=by
   by_cases k8:kd=8
   .subst k8;obtain⟨p,I,U,V⟩:=h8 rfl;obtain⟨J,W⟩:=az7 hF U;have k4:=aue (hF.txt _ (aJ J)) W;rw[<-avy J]at k4;have own: ∀(x:Nd) (t:Nat),p+1<=t->(x.2.1=((p+1:Nat):Int))->l9 F ((8,(f:Int),(t:Int),u,())::[x]) f (p+1-f)=(List.range' f (p+1-f)).map (tx F):=fun x t l d=>by
     have s:l9 F ([(8,(f:Int),(t:Int),u,())]++[x]) f (p+1-f)=l9 F [(8,(f:Int),(t:Int),u,())] f (p+1-f):=ahr fun q i j y X=>by
      rw[List.mem_singleton.1 X];unfold kM;omega
     rw[List.singleton_append]at s;have Y: ∀q,f<=q->q<f+(p+1-f)->wLf F [(8,(f:Int),(t:Int),u,())] q=[tx F q]:=fun q i j=>by
      have ab:kd F q=4\/kd F q=5:=by
       by_cases e:q=p
       .subst e;exact .inl k4
       .have K:p=f+1/\fD F f [35]=true:=I.resolve_left (by omega);have ad:q=f:=by omega
        obtain⟨L,r2⟩:=az7 hF K.2;have:=aD6 (hF.txt _ (aJ L)) r2;rw[<-avy L]at this;rw[ad];exact .inr this
      unfold wLf Dj;rw[bi,List.flatMap_nil,am (by unfold kM;simp only;exact⟨by omega,by omega,.inr (.inr ⟨trivial,ab⟩)⟩)];rfl
     rw[s];unfold l9;rw[JC (g:=fun q=>[tx F q]) fun q z=>Y q (List.mem_range'_1.1 z).1 (List.mem_range'_1.1 z).2,List.map_eq_flatMap]
    have node: ∀(x:Nd) (t:Nat) (Z:List Nd),x.2.1=((p+1:Nat):Int)->x.2.2.2.1=(k:Int)->uQ F (k:Int) (8,(f:Int),(t:Int),u,()) ([x]++Z).head?=(List.range' f (p+1-f)).map (tx F):=fun x t Z d hu=>by
     unfold uQ fkF;rw[aq (by simp),am rfl];simp only[List.singleton_append,List.head?_cons,hu,if_true,d,aS];rw[show(max ((p+1:Nat):Int) (f:Int)).toNat=p+1 by omega]
    have K:f<=p:=by rcases I with e|e<;>omega
    rcases V with ⟨D,w,E⟩|⟨D,w,E⟩
    .subst E;obtain⟨v,i2⟩:=h.one_inv;obtain⟨q,z,ae,ah⟩:=i2 (.inr rfl);simp only at z v;have aj:q=p+1:=by omega
     subst aj;rw[<-avy ae]at ah;rw[node _ t _ rfl v,D,show p+2-f=(p+1-f)+1 by omega,BA,own _ (p+2) (by omega) rfl,show f+(p+1-f)=p+1 by omega,BA,show f+(p+1-f)=p+1 by omega,UR,UR];rw[BB (m:=[(7,((p+1:Nat):Int),((p+2:Nat):Int),w,())]) (fun y i j x d=>by rw[List.mem_singleton.1 d];unfold kM;simp only;omega),aA];rw[show wLf F ((8,(f:Int),((p+2:Nat):Int),u,())::[(7,((p+1:Nat):Int),((p+2:Nat):Int),w,())]) (p+1)=wLf F [(7,((p+1:Nat):Int),((p+2:Nat):Int),w,())] (p+1) from aAL (m:=[(8,(f:Int),((p+2:Nat):Int),u,())]) fun x d=>by
      rw[List.mem_singleton.1 d];unfold kM;simp only;omega]
    .subst E;obtain⟨v,_⟩:=h.one_inv;simp only at v;rw[node _ t _ rfl v,D,own _ (p+1) (by omega) rfl];rw[BB (m:=[(18,((p+1:Nat):Int),((p+1:Nat):Int),w,())]) (fun y i j x d=>by rw[List.mem_singleton.1 d];unfold kM;simp only;omega),aV]
   .have hn:uQ F (k:Int) (kd,(f:Int),(t:Int),u,()) (m++(n'++R)).head?=[]:=by
     unfold uQ;rw[aq (by simp only;omega),aq (by simpa using k8)]
    rw[hn,aA];exact abS (m:=[(kd,(f:Int),(t:Int),u,())]) fun p i j x d=>by
     rw[List.mem_singleton.1 d];unfold kM;simp only;omega
  rw[show b-a=(f-a)+((t-f)+(b-t)) by omega,BA,BA,show a+(f-a)=f by omega,show f+(t-f)=t by omega,A,S,B,l,aA,aW,zl,ag m n' R,ih1 (n'++R),O R];simp only[ag,aH,ai];rw[show k+1+m.length+n'.length=k+(m.length+n'.length+1) by omega]
theorem ahs {F:List Lf} (hF:U2 F) {l m:List Nd} (hl:l=(1,0,(F.length:Int),-1,())::m) (h:Tr F 0 F.length 0 1 m):zl F 0 l=l9 F l 0 F.length:=by
 have d:=avD hF h [];rw[aV]at d;rw[hl,zl,d];have e:l9 F ([(1,0,(F.length:Int),-1,())]++m) 0 F.length=l9 F m 0 F.length:=abS fun p f i x g=>by
  rw[List.mem_singleton.1 g];unfold kM;simp only;omega
 rw[List.singleton_append]at e;rw[e];have f:uQ F ((0:Nat):Int) (1,0,(F.length:Int),-1,()) m.head?=[]:=rfl;rw[f];simp[zl]
end
section
open Int renaming toNat_natCast → aS, eq_ofNat_of_zero_le → aY
open Go.RowKit
def Xx (l:List Nd) (i:Int):Int:=(eX l dNd i).2.2.2.1
def UZ (l:List Nd) (i:Int):Int:=(eX l dNd i).1
def aeO (l:List Nd):Prop:= ∀i:Nat,i<l.length-> -1<=Xx l (i:Int)/\Xx l (i:Int)<(i:Int)/\1<=UZ l (i:Int)/\UZ l (i:Int)<=18
def dpN (l:List Nd):Nat->Int->Nat
 |0,_=>0
 |n+1,i=>if Xx l i<0 then 0 else dpN l n (Xx l i)+1
def dp (l:List Nd) (i:Nat):Nat:=dpN l (i+1) (i:Int)
theorem aci {l:List Nd} (h:aeO l): ∀(n m i:Nat),i<n->i<m->i<l.length->dpN l n (i:Int)=dpN l m (i:Int)
 |0,_,_,h,_,_=>by omega
 |_+1,0,_,_,h,_=>by omega
 |n+1,m+1,i,f,g,d=>by
  rw[dpN,dpN];split
  .rfl
  .have o:=h i d;obtain⟨j,e⟩:=aY (show 0<=Xx l (i:Int) by omega);rw[e,aci h n m j (by omega) (by omega) (by omega)]
theorem Ph {l:List Nd} {i:Nat} (h:Xx l (i:Int)<0):dp l i=0:=by
 unfold dp;rw[dpN,am h]
theorem X3 {l:List Nd} (h:aeO l) {i j:Nat} (hi:i<l.length) (d:Xx l (i:Int)=(j:Int)):dp l i=dp l j+1:=by
 have e:=h i hi;unfold dp;rw[dpN,aq (by omega),d,aci h i (j+1) j (by omega) (by omega) (by omega)]
theorem apH {l:List Nd} (h:aeO l): ∀(n i:Nat),i<n->i<l.length->dp l i<=i
 |0,_,h,_=>by omega
 |n+1,i,f,d=>by
  have g:=h i d;by_cases h0:Xx l (i:Int)<0
  .rw[Ph h0];omega
  .obtain⟨j,e⟩:=aY (show 0<=Xx l (i:Int) by omega);rw[X3 h d e];have:=apH h n j (by omega) (by omega);omega
theorem Tr.upOk {F:List Lf} {a b:Nat} {u:Int} {k:Nat} {m:List Nd} (h:Tr F a b u k m):0<=u->u<k-> ∀(j:Nat) (d:j<m.length),0<=m[j].2.2.2.1/\m[j].2.2.2.1<((k+j:Nat):Int)/\2<=m[j].1/\m[j].1<=18:=by
 induction h with
 |nil h=>intro _ _ j d;simp at d
 | @leaf a b f t u k kd m h1 hk hf h2 g=>
  intro e i j d;cases j with
  |zero=>simp only[List.getElem_cons_zero];omega
  |succ j=>
   have:=g e (by omega) j (by simpa using d);simp only[List.getElem_cons_succ];omega
 | @node a b f t u k kd m n' h1 hk h8 h h2 ih1 l=>
  intro e i j d;cases j with
  |zero=>simp only[List.getElem_cons_zero];omega
  |succ j=>
   simp only[List.getElem_cons_succ];by_cases hjm:j<m.length
   .have:=ih1 (by omega) (by omega) j hjm;rw[List.getElem_append_left hjm];omega
   .have o:j-m.length<n'.length:=by simp at d;omega
    have:=l e (by omega) (j-m.length) o;rw[List.getElem_append_right (by omega)];omega
theorem aot {F:List Lf} {l m:List Nd} (hl:l=(1,0,(F.length:Int),-1,())::m) (h:Tr F 0 F.length 0 1 m):aeO l:=by
 intro i d;subst hl;have e:eX ((1,0,(F.length:Int),-1,())::m) dNd (i:Int)=((1,0,(F.length:Int),-1,())::m)[i]:=by
  simp only[eX,dD,dw,aS,List.getD_eq_getElem?_getD];rw[List.getElem?_eq_getElem d];rfl
 unfold Xx UZ;rw[e];cases i with
 |zero=>simp only[List.getElem_cons_zero];omega
 |succ i=>
  have:=h.upOk (by omega) (by omega) i (by simpa using d);simp only[List.getElem_cons_succ];omega
end
section
open Option renaming some → a6, none → a7
open Tryz
open Go.RowKit
def aqZ (d:bW):Option ((List fJ)×(List fE)×Unit):=bF (awm d) fun f=>bF (awn d f.1) fun e=>bF (amK e.1) fun g=>a6 (e.1,(g.1,()))
def auF:Sum:=⟨[.str],[(.list NJ,false),(.list oZ,false)],fun x=>aqZ x.1⟩
theorem aeq:dK prog 15 auF:=qA f15 [] (sE aet (sE aeu (sE aev aN)))
def aq0 (e:List fE) (d f:Int):Option lW:=cond (iq (bZ .i64 d 1) (bG e)) (cond (gm e (bZ .i64 d 1)) (cond (bT (eX e (0,(0,(0,(0,())))) (bZ .i64 d 1)).2.2.2.1 d) (cond (gm e (bZ .i64 d 1)) (a6 ((eX e (0,(0,(0,(0,())))) (bZ .i64 d 1)).2.1,())) a7)<|some (f,())) a7)<|some (f,())
def aAf:Sum:=⟨[OX,di,di],Vz,fun x=>aq0 x.1 x.2.1 x.2.2.1⟩
theorem auK:dK prog 16 aAf:=qA f16 [] aN
noncomputable def b6:Code:=(Tryz.f6.body).getD .skip
noncomputable def azh:Code:=cA (cA (cB (cA (cB (cB (cB (cA (cB (cB (cA (cA (cB (cB (cA (cA (cB (cA (cB (cB (b6))))))))))))))))))))
noncomputable def aF8:Code:=cA (cA (cB (cA (cB (cB (b6))))))
def azH:eG:=⟨[2,3,4,14,15,16,48,49,50,100011],[(2,.str)],[2,3,4,14,15,16],[],[2],[(2,.str)]⟩
def aGQ:eG:=⟨[2,3,4,14,15,16,100003],[(2,.str)],[2],[],[2],[(2,.str)]⟩
def ajH:SP:=⟨us [.u,.u,.slc 1800002,.v nR,eK,.u,.u,.u,.u,.u,.u,.u,.u,.u,eK,bR,bR,.u,.u,.u,.u,.u,.u,.u,.u,.u,.u,.u,.u,.u,.u,.u,.u,.u,.u,.u,.u,.u,.u,.u,.u,.u,.u,.u,.u,.u,.u,.u,.v nR,bR,bR] 11,dz⟩
def agt:SP:=⟨cW,dz⟩
def agN:SP:=⟨us [.u,.u,dk] 59,[]⟩
def abu {e:Type} (p:(List fJ)->(List fE)->(List fE)->Int->Int->(List fJ)->Int->Int->(List bW)->Option e) (q:(List fJ)->(List fE)->(List fE)->Int->Int->(List bW)->Option e) (s:(List bW)->Option e) (h:List fJ) (i j:List fE) (l m:Int) (f:List fJ) (o d:Int) (g:List bW):Option e:=cond (iq d o) (cond (gm f d) (cond (dV (bM g [(eX f (0,([],(0,(0,())))) d).2.1]) 16) (p h i j l m f o (bZ .i64 d 1) (bM g [(eX f (0,([],(0,(0,())))) d).2.1])) a7) a7)<|q h i j l m g
def MM:Nat->(List fJ)->(List fE)->(List fE)->Int->Int->(List fJ)->Int->Int->(List bW)->Option (agt.den⊕agN.den)
 |0,_,_,_,_,_,_,_,_,_=>a7
 |n+1,d,e,f,g,h,i,j,l,m=>abu (MM n) (fun o p q s u v=>a6 (.inl ((o,p,q,s,u,()),(v,())))) (fun x=>a6 (.inr ((x,()),()))) d e f g h i j l m
def aCL (n:Nat) (v:ajH.den):=bA (MM n) v
noncomputable def asC:dA:=fH azH ajH agt agN (.exit 3) (aCL bJ) 6
def ayr:SP:=⟨cW,dz⟩
def as7:SP:=⟨us [.u,.u,.slc 1800002] 59,dz⟩
def ate:SP:=⟨us [.u,.u,dk] 59,[]⟩
def lN (d:List fE) (e:Int):=eX d (0,(0,(0,(0,())))) e
def QF {g:Type} (d:List fJ) (e:List fE) (f:Int) (h:List bW) (i:(List fJ)->(List fE)->(List fE)->Int->Int->(List bW)->Option g) (j:List fE) (l:Int):Option g:=cond (gm d (lN e f).2.1) (cond (dV (bM h [(eX d (0,([],(0,(0,())))) (lN e f).2.1).2.1]) 16) (i d j e l (bZ .i64 f 1) (bM h [(eX d (0,([],(0,(0,())))) (lN e f).2.1).2.1])) a7) a7
def QG {h:Type} (e:List fE) (d:Int) (i:List fE) (g:List fJ) (l:Int) (m:List bW) (o:(List fJ)->(List fE)->(List fE)->Int->Int->(List bW)->Option h) (p:(List bW)->Option h):Option h:=cond (bT (lN e d).1 8) (bF (aq0 i d (lN e d).2.2.1) fun j=>cond (eU (bG g) (lN e d).2.1 (su j.1 (lN e d).2.1)) (bF (MM bJ g i e l d (sub g (lN e d).2.1 (su j.1 (lN e d).2.1)) (bG (sub g (lN e d).2.1 (su j.1 (lN e d).2.1))) 0 m) fun q=>dL q (fun f=>o f.1.1 f.1.2.1 f.1.2.2.1 f.1.2.2.2.1 (bZ .i64 f.1.2.2.2.2.1 1) f.2.1) (fun s=>p s.1.1)) a7)<|o g i e l (bZ .i64 d 1) m
def akT {l:Type} (h:(List fJ)->(List fE)->(List fE)->Int->Int->(List bW)->Option l) (o m:(List bW)->Option l) (i:List fJ) (j e:List fE) (f d:Int) (g:List bW):Option l:=cond (iq d f) (cond (gm e d) (cond (bT (lN e d).1 7) (cond (bT (lN e d).1 7) (QF i e d g h j f)<|QG e d j i f g h m)<|cond (bT (lN e d).1 6) (QF i e d g h j f)<|QG e d j i f g h m) a7)<|o g
def Kr:Nat->(List fJ)->(List fE)->(List fE)->Int->Int->(List bW)->Option (as7.den⊕ate.den)
 |0,_,_,_,_,_,_=>a7
 |n+1,d,e,f,g,h,i=>akT (Kr n) (fun j=>a6 (.inl ((),(j,())))) (fun l=>a6 (.inr ((l,()),()))) d e f g h i
def aHp (n:Nat) (v:ayr.den):=bp (Kr n) v
noncomputable def azO:dA:=fH aGQ ayr as7 ate (.exit 0) (aHp bJ) 12
def fn6 (e:bW):Option ((List bW)×Unit):=bF (aqZ e) fun d=>bF (Kr bJ d.1 d.2.1 d.2.1 (bG d.2.1) 0 []) fun f=>dL f (fun g=>a6 (g.2.1,())) (fun h=>a6 (h.1.1,()))
def aHQ:Sum:=⟨[.str],[(.list .str,false)],fun x=>fn6 x.1⟩
noncomputable def av4:Env:=iU prog tt 6 [(15,auF),(16,aAf)] [(11,azH),(3,aGQ)] [(11,asC),(3,azO)]
def atO {d:Type} (a:ajH.den->Option d) (b:agt.den->Option d) (c:agN.den->Option d) (v:ajH.den):Option d:=bA (abu (fun e f g h i j l m o=>a ((e,f,g,h,i,j,l,m,()),(o,()))) (fun p q s u x y=>b ((p,q,s,u,x,()),(y,()))) (aE c)) v
theorem aDe:dQ av4 6 azh asC:=vS (atO) (h2:=by intros;simp only[atO,aE,bA,abu,cu,cO,bD,bV,cZ])
def azY {d:Type} (a:ayr.den->Option d) (b:as7.den->Option d) (c:ate.den->Option d) (v:ayr.den):Option d:=bp (akT (fun e f g h i j=>a ((e,f,g,h,i,()),(j,()))) (fun l=>b ((),(l,()))) (aE c)) v
theorem aHv:dQ av4 6 aF8 azO:=vS (azY) (h2:=by intros;simp only[azY,aE,bp,akT,cu,cO,bD,bV,cZ,lN,QF,QG])
theorem aI3:dO av4 6 b6:=pI [azh,aF8] (aD (fM (aDe)) (aD (fM (aHv)) aN))
theorem av5:eP av4:=eA Tryz.f6 (aD aeq (aD auK aN)) (aI3)
theorem ayQ:dK prog 6 aHQ:=sA av5
noncomputable def b9:Code:=(f9.body).getD .skip
noncomputable def aGc:Code:=cA (cA (cB (cA (cB (cB (cB (cB (b9))))))))
def aGU:eG:=⟨[5,6,17,18,19,100005],[],[6],[],[2],[]⟩
def aGW:eG:=⟨[5,6,7,8,17,18,19],[],[],[],[],[]⟩
def aBM:eG:=⟨[5,6,7,17,18,19],[],[],[],[],[]⟩
def aBN:eG:=⟨[6],[],[],[],[],[]⟩
def ayv:SP:=⟨us [.u,.u,.u,.u,.u,.slc 1000016,dy,.u,.u,.u,.u,.u,.u,.u,.u,.u,.u,eK,bR,bR] 28,[d7,.arr 1500006 (.int .u8),.arr 1000016 di]⟩
def atb:SP:=⟨us [.u,.u,.u,.u,.u,.u,dy] 41,[d7,.arr 1500006 (.int .u8)]⟩
def ati:SP:=⟨us eb 45,[]⟩
def zh (d:jo) (e:List fE) (f:Int):=bM d [(bY [63,80,76,65,73,83,88,87,82,66,85,70,72,79,67,84,78,69,77] (eX e (0,(0,(0,(0,())))) f).1)]
def Gs (d:jo) (e:Int) (f:List fE):=ik d (dw e) (bZ .i64 (dD d 0 (dw (eX f (0,(0,(0,(0,())))) e).2.2.2.1)) 1)
def akX {i:Type} (l:(List fE)->Int->Int->jo->jo->Option i) (m:jo->Option i) (o:bW->Option i) (e:List fE) (j d:Int) (g f:jo):Option i:=cond (iq d j) (cond (gm e d) (cond (leI 0 (eX e (0,(0,(0,(0,())))) d).2.2.2.1) (cond (gm f (eX e (0,(0,(0,(0,())))) d).2.2.2.1) (cond (ni (dw (eX e (0,(0,(0,(0,())))) d).2.2.2.1) f) (cond (gm f d) (cond (ni (dw d) f) (cond (gm [63,80,76,65,73,83,88,87,82,66,85,70,72,79,67,84,78,69,77] (eX e (0,(0,(0,(0,())))) d).1) (cond (dV (zh g e d) 1) (cond (gm (Gs f d e) d) (cond (ni (dw d) (Gs f d e)) (bF (Sm (dD (Gs f d e) 0 (dw d))) fun h=>cond (dV (bM (zh g e d) (dn h.1)) 1) (l e j (bZ .i64 d 1) (bM (zh g e d) (dn h.1)) (Gs f d e)) a7) a7) a7) a7) a7) a7) a7) a7) a7)<|cond (gm [63,80,76,65,73,83,88,87,82,66,85,70,72,79,67,84,78,69,77] (eX e (0,(0,(0,(0,())))) d).1) (cond (dV (zh g e d) 1) (cond (gm f d) (cond (ni (dw d) f) (bF (Sm (dD f 0 (dw d))) fun h=>cond (dV (bM (zh g e d) (dn h.1)) 1) (l e j (bZ .i64 d 1) (bM (zh g e d) (dn h.1)) f) a7) a7) a7) a7) a7) a7)<|m g
def WA:Nat->(List fE)->Int->Int->jo->jo->Option (atb.den⊕ati.den)
 |0,_,_,_,_,_=>a7
 |n+1,d,e,f,g,h=>akX (WA n) (fun i=>a6 (.inl ((),((),i,())))) (fun j=>a6 (.inr ((j,()),()))) d e f g h
def aHt (n:Nat) (v:ayv.den):=WA n v.1.1 v.1.2.1 v.1.2.2.1 v.2.2.1 v.2.2.2.1
noncomputable def azS:dA:=fH aGU ayv atb ati (.exit 0) (aHt bJ) 6
def fn9 (f:bW):Option vC:=bF (aqZ f) fun d=>cond ((leI 0 (bG d.2.1))&&((leI (bG d.2.1) (bG d.2.1))&&(atv (bG d.2.1) 8))) (bF (WA bJ d.2.1 (bG d.2.1) 0 [] (aD3 (dw (bG d.2.1)) 0)) fun g=>dL g (fun e=>cond (bT (bG e.2.2.1) (bG e.2.2.1)) (a6 ((ofBytes e.2.2.1),())) a7) (fun h=>a6 (h.1.1,()))) a7
def aHY:Sum:=⟨[.str],GX,fun x=>fn9 x.1⟩
noncomputable def aBs:Env:=gQ prog tt [(15,auF),(21,QI)] [(9,5,aGU),(9,600009,aGW),(9,600010,aBM),(9,600012,aBN),(19,600001,BV),(20,600001,BV)] [(9,5,azS)] []
def az2 {d:Type} (a:ayv.den->Option d) (b:atb.den->Option d) (c:ati.den->Option d) (v:ayv.den):Option d:=akX (fun e f g h i=>a ((e,f,g,()),((),h,i,()))) (fun j=>b ((),((),j,()))) (aE c) v.1.1 v.1.2.1 v.1.2.2.1 v.2.2.1 v.2.2.2.1
theorem aHz:dQ aBs 9 aGc azS:=vS (az2) (h2:=by intros;simp only[az2,aE,akX,cu,cO,bD,bV,cZ,zh,Gs])
theorem aI6:dO aBs 9 b9:=pI [aGc] (aD (fM (aHz)) aN)
theorem av9:eP aBs:=eB (aD aeq (aD UG aN)) [9] (aD ⟨f9,b9,by kernel_rfl,by kernel_rfl,aI6⟩ aN)
theorem ayT:dK prog 9 aHY:=sA av9
noncomputable def b7:Code:=(f7.body).getD .skip
noncomputable def aGa:Code:=cA (cA (cB (cA (cA (cB (cA (cA (cB (cA (cB (cB (cB (cB (b7))))))))))))))
noncomputable def aF9:Code:=cA (cA (cB (cA (cB (cB (cB (cB (b7))))))))
def aGS:eG:=⟨[3,4,5,6,7,100008],[(5,.str)],[3,4,5,6],[],[2],[(2,.str)]⟩
def aGR:eG:=⟨[3,4,5,6,100005],[(5,.str)],[5],[],[2],[(2,.str)]⟩
def ayt:SP:=⟨us [.u,.u,.u,.v nR,eK,cG,bR,bR] 73,dE⟩
def as9:SP:=⟨us [.u,.u,.u,.v nR,eK,cG,bR] 74,dE⟩
def atg:SP:=⟨us [.u,.u,dk] 78,[]⟩
def Gq {f:Type} (d:List fJ) (e:Int) (g:List bW) (h:(List fJ)->(List fE)->Int->Int->(List bW)->Option f) (i:List fE) (j:Int):Option f:=cond (gm d e) (cond (dV (bM g [(eX d (0,([],(0,(0,())))) e).2.1]) 16) (h d i e (bZ .i64 j 1) (bM g [(eX d (0,([],(0,(0,())))) e).2.1])) a7) a7
def akV {j:Type} (i:(List fJ)->(List fE)->Int->Int->(List bW)->Option j) (l:(List fJ)->(List fE)->Int->(List bW)->Option j) (m:(List bW)->Option j) (g:List fJ) (d:List fE) (f e:Int) (h:List bW):Option j:=cond (iq e (bG d)) (cond (gm d e) (cond (gm d e) (cond (iq f (eX d (0,(0,(0,(0,())))) e).2.1) (i g d f (bZ .i64 e 1) h)<|cond (gm d e) (cond (leI (eX d (0,(0,(0,(0,())))) e).2.2.1 f) (i g d f (bZ .i64 e 1) h)<|cond (bT (eX d (0,(0,(0,(0,())))) e).1 6) (Gq g f h i d e)<|cond (bT (eX d (0,(0,(0,(0,())))) e).1 7) (Gq g f h i d e)<|cond (bT (eX d (0,(0,(0,(0,())))) e).1 8) (cond (gm g f) (cond (bT (eX g (0,([],(0,(0,())))) f).1 4) (Gq g f h i d e)<|cond (gm g f) (cond (bT (eX g (0,([],(0,(0,())))) f).1 5) (Gq g f h i d e)<|i g d f (bZ .i64 e 1) h) a7) a7)<|i g d f (bZ .i64 e 1) h) a7) a7) a7)<|l g d f h
def SV:Nat->(List fJ)->(List fE)->Int->Int->(List bW)->Option (as9.den⊕atg.den)
 |0,_,_,_,_,_=>a7
 |n+1,d,e,f,g,h=>akV (SV n) (fun i j l m=>a6 (.inl ((i,j,l,()),(m,())))) (fun o=>a6 (.inr ((o,()),()))) d e f g h
def aHr (n:Nat) (v:ayt.den):=bq (SV n) v
noncomputable def azQ:dA:=fH aGS ayt as9 atg (.exit 2) (aHr bJ) 6
def ays:SP:=⟨us [.u,.u,.u,.v nR,eK,cG,bR] 74,dE⟩
def as8:SP:=⟨us [.u,.u,.u,.u,.u,cG] 75,dE⟩
def atf:SP:=⟨us [.u,.u,dk] 78,[]⟩
def akU {e:Type} (i:(List fJ)->(List fE)->Int->(List bW)->Option e) (j l:(List bW)->Option e) (f:List fJ) (m:List fE) (g:Int) (h:List bW):Option e:=cond (iq g (bG f)) (bF (SV bJ f m g 0 h) fun o=>dL o (fun d=>i d.1.1 d.1.2.1 (bZ .i64 d.1.2.2.1 1) d.2.1) (fun p=>l p.1.1))<|j h
def Wy:Nat->(List fJ)->(List fE)->Int->(List bW)->Option (as8.den⊕atf.den)
 |0,_,_,_,_=>a7
 |n+1,d,e,f,g=>akU (Wy n) (fun h=>a6 (.inl ((),(h,())))) (fun i=>a6 (.inr ((i,()),()))) d e f g
def aHq (n:Nat) (v:ays.den):=Wy n v.1.1 v.1.2.1 v.1.2.2.1 v.2.1
noncomputable def azP:dA:=fH aGR ays as8 atf (.exit 0) (aHq bJ) 12
def fn7 (e:bW):Option ((List bW)×Unit):=bF (amI e) fun d=>bF (amJ d.1) fun f=>bF (Wy bJ d.1 f.1 0 []) fun g=>dL g (fun h=>a6 (h.2.1,())) (fun i=>a6 (i.1.1,()))
def aHT:Sum:=⟨[.str],[(.list .str,false)],fun x=>fn7 x.1⟩
noncomputable def av6:Env:=iU prog tt 7 [(17,auL),(18,auM)] [(8,aGS),(5,aGR)] [(8,azQ),(5,azP)]
def az0 {d:Type} (a:ayt.den->Option d) (b:as9.den->Option d) (c:atg.den->Option d) (v:ayt.den):Option d:=bq (akV (fun e f g h i=>a ((e,f,g,h,()),(i,()))) (fun j l m o=>b ((j,l,m,()),(o,()))) (aE c)) v
theorem aHx:dQ av6 7 aGa azQ:=vS (az0) (h2:=by intros;simp only[az0,aE,bq,akV,cu,cO,bD,bV,cZ,Gq])
def azZ {d:Type} (a:ays.den->Option d) (b:as8.den->Option d) (c:atf.den->Option d) (v:ays.den):Option d:=akU (fun e f g h=>a ((e,f,g,()),(h,()))) (fun i=>b ((),(i,()))) (aE c) v.1.1 v.1.2.1 v.1.2.2.1 v.2.1
theorem aHw:dQ av6 7 aF9 azP:=vS (azZ) (h2:=by intros;simp only[azZ,aE,akU,cu,cO,bD,bV,cZ])
theorem aI4:dO av6 7 b7:=pI [aGa,aF9] (aD (fM (aHx)) (aD (fM (aHw)) aN))
theorem av7:eP av6:=eA f7 (aD aer (aD aes aN)) (aI4)
theorem ayR:dK prog 7 aHT:=sA av7
noncomputable def b10:Code:=(f10.body).getD .skip
noncomputable def ay5:Code:=cA (cA (cB (cA (cB (cA (cA (cB (cA (cA (cB (cA (cB (cB (cB (b10)))))))))))))))
noncomputable def aoU:Code:=cA (cA (cA (cB (cB (cB (cA (cA (cB (cA (cA (cB (cA (cB (cB (cB (b10))))))))))))))))
noncomputable def ay4:Code:=cA (cA (cB (cA (cB (cB (cB (b10)))))))
def azx:eG:=⟨[3,4,5,6,7,100008],[],[3,4,5,6],[],[2],[]⟩
def arp:eG:=⟨[3,4,5,6,8,100012],[],[3,4,5,8],[],[2],[]⟩
def ajv:SP:=⟨us [.u,.u,.u,eK,bS,bR,bR,bR] 59,[]⟩
def agh:SP:=⟨us [.u,.u,.u,eK,bS,bR,bR] 60,[]⟩
def agC:SP:=⟨us eb 64,[]⟩
def Nl {d:Type} (j:(List fE)->bW->Int->Int->Int->Option d) (l:(List fE)->bW->Int->Int->Option d) (m:bW->Option d) (e:List fE) (g:bW) (h i f:Int):Option d:=cond (leI 0 f) (cond (gm e f) (j e g h (bZ .i64 i 1) (eX e (0,(0,(0,(0,())))) f).2.2.2.1) a7)<|l e g h i
def Eb:Nat->(List fE)->bW->Int->Int->Int->Option (agh.den⊕agC.den)
 |0,_,_,_,_,_=>a7
 |n+1,d,e,f,g,h=>Nl (Eb n) (fun i j l m=>a6 (.inl ((i,j,l,m,()),()))) (fun o=>a6 (.inr ((o,()),()))) d e f g h
def aCz (n:Nat) (v:ajv.den):=bB (Eb n) v
noncomputable def asq:dA:=fH azx ajv agh agC (.exit 2) (aCz bJ) 6
def Y4:SP:=⟨us [.u,.u,.u,eK,bS,bR,bR,.u,bS] 58,[]⟩
def ZK:SP:=⟨us [.u,.u,.u,eK,bS,bR,.u,.u,bS] 58,[]⟩
def aar:SP:=⟨us eb 64,[]⟩
def KY {e:Type} (j:(List fE)->bW->Int->Int->bW->Option e) (l:(List fE)->bW->Int->bW->Option e) (m:bW->Option e) (g:List fE) (h:bW) (i d:Int) (f:bW):Option e:=cond (iq 9 d) (cond (!(bT 10 0)) (cond (!(bT 10 0)) (cond (!(bT 10 0)) (cond (eU (bG [48,49,50,51,52,53,54,55,56,57]) (O4 (Ro .i64 d 10) 10) (bZ .i64 (O4 (Ro .i64 d 10) 10) 1)) (cond (iD (sub [48,49,50,51,52,53,54,55,56,57] (O4 (Ro .i64 d 10) 10) (bZ .i64 (O4 (Ro .i64 d 10) 10) 1)) f) (j g h i (Ro .i64 d 10) (bM (sub [48,49,50,51,52,53,54,55,56,57] (O4 (Ro .i64 d 10) 10) (bZ .i64 (O4 (Ro .i64 d 10) 10) 1)) f)) a7) a7) a7) a7) a7)<|l g h i f
def FC:Nat->(List fE)->bW->Int->Int->bW->Option (ZK.den⊕aar.den)
 |0,_,_,_,_,_=>a7
 |n+1,d,e,f,g,h=>KY (FC n) (fun i j l m=>a6 (.inl ((i,j,l,m,()),()))) (fun o=>a6 (.inr ((o,()),()))) d e f g h
def aw0 (n:Nat) (v:Y4.den):=bB (FC n) v
noncomputable def aiL:dA:=fH arp Y4 ZK aar (.exit 4) (aw0 bJ) 12
def aju:SP:=⟨us [.u,.u,.u,eK,bS,bR] 61,[]⟩
def agf:SP:=⟨us [.u,.u,.u,.u,bS] 62,[]⟩
def agB:SP:=⟨us eb 64,[]⟩
def abh {h:Type} (l:(List fE)->bW->Int->Option h) (m i:bW->Option h) (f:List fE) (j:bW) (g:Int):Option h:=cond (iq g (bG f)) (cond (gm f g) (bF (Eb bJ f j g 0 (eX f (0,(0,(0,(0,())))) g).2.2.2.1) fun o=>dL o (fun e=>cond (!(bT 10 0)) (cond (!(bT 10 0)) (cond (eU (bG [48,49,50,51,52,53,54,55,56,57]) (O4 e.1.2.2.2.1 10) (bZ .i64 (O4 e.1.2.2.2.1 10) 1)) (bF (FC bJ e.1.1 e.1.2.1 e.1.2.2.1 e.1.2.2.2.1 (sub [48,49,50,51,52,53,54,55,56,57] (O4 e.1.2.2.2.1 10) (bZ .i64 (O4 e.1.2.2.2.1 10) 1))) fun p=>dL p (fun d=>cond (gm d.1.1 d.1.2.2.1) (cond (gm d.1.1 d.1.2.2.1) (cond (eU (bG [63,80,76,65,73,83,88,87,82,66,85,70,72,79,67,84,78,69,77]) (eX d.1.1 (0,(0,(0,(0,())))) d.1.2.2.1).1 (bZ .i64 (eX d.1.1 (0,(0,(0,(0,())))) d.1.2.2.1).1 1)) (cond (iD d.1.2.1 (sub [63,80,76,65,73,83,88,87,82,66,85,70,72,79,67,84,78,69,77] (eX d.1.1 (0,(0,(0,(0,())))) d.1.2.2.1).1 (bZ .i64 (eX d.1.1 (0,(0,(0,(0,())))) d.1.2.2.1).1 1))) (cond (iD (bM d.1.2.1 (sub [63,80,76,65,73,83,88,87,82,66,85,70,72,79,67,84,78,69,77] (eX d.1.1 (0,(0,(0,(0,())))) d.1.2.2.1).1 (bZ .i64 (eX d.1.1 (0,(0,(0,(0,())))) d.1.2.2.1).1 1))) d.1.2.2.2.1) (l d.1.1 (bM (bM d.1.2.1 (sub [63,80,76,65,73,83,88,87,82,66,85,70,72,79,67,84,78,69,77] (eX d.1.1 (0,(0,(0,(0,())))) d.1.2.2.1).1 (bZ .i64 (eX d.1.1 (0,(0,(0,(0,())))) d.1.2.2.1).1 1))) d.1.2.2.2.1) (bZ .i64 d.1.2.2.1 1)) a7) a7) a7) a7) a7) (fun q=>i q.1.1)) a7) a7) a7) (fun s=>i s.1.1)) a7)<|m j
def MI:Nat->(List fE)->bW->Int->Option (agf.den⊕agB.den)
 |0,_,_,_=>a7
 |n+1,d,e,f=>abh (MI n) (fun g=>a6 (.inl ((g,()),()))) (fun h=>a6 (.inr ((h,()),()))) d e f
def aCy (n:Nat) (v:aju.den):=a8 (MI n) v
noncomputable def aso:dA:=fH YF aju agf agB (.exit 0) (aCy bJ) 18
def awl (d:bW):Option vC:=bF (amI d) fun e=>bF (amJ e.1) fun f=>bF (MI bJ f.1 [] 0) fun g=>dL g (fun h=>a6 (h.1.1,())) (fun i=>a6 (i.1.1,()))
def aAe:Sum:=⟨[.str],GX,fun x=>awl x.1⟩
noncomputable def ack:Env:=iU prog tt 10 [(17,auL),(18,auM)] [(8,azx),(12,arp),(4,YF)] [(8,asq),(12,aiL),(4,aso)]
def atA {d:Type} (a:ajv.den->Option d) (b:agh.den->Option d) (c:agC.den->Option d) (v:ajv.den):Option d:=bB (Nl (fun e f g h i=>a ((e,f,g,h,i,()),())) (aM b) (aE c)) v
theorem aC2:dQ ack 10 ay5 asq:=vS (atA) (h2:=by intros;simp only[atA,aM,aE,bB,Nl,cu,cO,bD,bV,cZ])
def aj8 {d:Type} (a:Y4.den->Option d) (b:ZK.den->Option d) (c:aar.den->Option d) (v:Y4.den):Option d:=bB (KY (fun e f g h i=>a ((e,f,g,h,i,()),())) (aM b) (aE c)) v
theorem axN:dQ ack 10 aoU aiL:=vS (aj8) (h2:=by intros;simp only[aj8,aM,aE,bB,KY,cu,cO,bD,bV,cZ])
def atz {d:Type} (a:aju.den->Option d) (b:agf.den->Option d) (c:agB.den->Option d) (v:aju.den):Option d:=a8 (abh (fun e f g=>a ((e,f,g,()),())) (aE b) (aE c)) v
theorem aC1:dQ ack 10 ay4 aso:=vS (atz) (h2:=by intros;simp only[atz,aE,a8,abh,cu,cO,bD,bV,cZ])
theorem aG5:dO ack 10 b10:=pI [ay5,aoU,ay4] (aD (fM (aC2)) (aD (fM (axN)) (aD (fM (aC1)) aN)))
theorem apP:eP ack:=eA f10 (aD aer (aD aes aN)) (aG5)
theorem aup:dK prog 10 aAe:=sA apP
noncomputable def b8:Code:=(f8.body).getD .skip
noncomputable def aGb:Code:=cA (cA (cB (cA (cB (cB (b8))))))
def aGT:eG:=⟨[0,1,5,100004],[],[],[],[4],[]⟩
def ayu:SP:=⟨us [dk,dk,.u,.u,.u,bR] 20,[]⟩
def ata:SP:=⟨us [] 26,[]⟩
def ath:SP:=⟨us [.u,.u,.u,.u,cg] 21,[]⟩
def akW {e:Type} (h:(List bW)->(List bW)->Int->Option e) (i:Option e) (j:Bool->Option e) (f g:List bW) (d:Int):Option e:=cond (iq d (bG f)) (cond (gm f d) (cond (gm g d) (cond (!(gI (eX f [] d) (eX g [] d))) (j false)<|h f g (bZ .i64 d 1)) a7) a7) i
def adk:Nat->(List bW)->(List bW)->Int->Option (ata.den⊕ath.den)
 |0,_,_,_=>a7
 |n+1,d,e,f=>akW (adk n) (a6 (.inl ((),()))) (fun g=>a6 (.inr ((g,()),()))) d e f
def aHs (n:Nat) (v:ayu.den):=a8 (adk n) v
noncomputable def azR:dA:=fH aGT ayu ata ath (.exit 0) (aHs bJ) 6
def fn8 (d e:List bW):Option uO:=cond (!(bT (bG d) (bG e))) (a6 (false,()))<|bF (adk bJ d e 0) fun f=>dL f (fun h=>a6 (true,())) (fun g=>a6 (g.1.1,()))
def aHX:Sum:=⟨[.list .str,.list .str],O7,fun x=>fn8 x.1 x.2.1⟩
noncomputable def aBr:Env:=iU prog tt 8 [] [(4,aGT)] [(4,azR)]
def az1 {d:Type} (a:ayu.den->Option d) (b:ata.den->Option d) (c:ath.den->Option d) (v:ayu.den):Option d:=a8 (akW (fun e f g=>a ((e,f,g,()),())) (b ((),())) (aE c)) v
theorem aHy:dQ aBr 8 aGb azR:=vS (az1) (h2:=by intros;simp only[az1,aE,a8,akW,cu,cO,bD,bV,cZ])
theorem aI5:dO aBr 8 b8:=pI [aGb] (aD (fM (aHy)) aN)
theorem av8:eP aBr:=eA f8 aN (aI5)
theorem ayS:dK prog 8 aHX:=sA av8
end
section
open Int renaming toNat_natCast → aS, eq_ofNat_of_zero_le → aY
open List renaming append_assoc → ag, length_append → ai, nil_append → aA, length_cons → aH, length_singleton → aO, append_nil → aV, cons_append → aW, length_nil → aX
open Nat renaming le_refl → ae, lt_or_ge → az
open Go.RowKit
theorem ag4 {a b:List UInt8} (h:a.length+b.length<=140737488355328):iD a b=true:=by
 unfold iD jO;simpa using h
theorem avv (t:bW):(dn t).length=t.length:=by simp[dn]
theorem axK (t:bW):ofBytes (dn t)=t:=by simp[ofBytes,dn,Function.comp_def]
theorem avu (a b:bW):bM (dn a) (dn b)=dn (a++b):=by simp[bM,dn]
theorem aqT {a:List UInt8} (h:a.length<=140737488355328):dV (dn a) 1=true:=by
 unfold dV jO;rw[avv];simpa using h
def Tz (v:Nat):bW:=Jo 20 v
theorem acg: ∀(f u:Nat),(Jo f u).length<=f
 |0,u=>ae _
 |f+1,u=>by
  rw[Jo];cases Nat.blt u 10 with
  |true=>simp
  |false=>
   have:=acg f (u/10);simp only[ac,ai,aO];omega
theorem Rn {f u:Nat} (h:u<10):Jo (f+1) u=[UInt8.ofNat (48+u)]:=by
 rw[Jo,show Nat.blt u 10=true by simpa [Nat.blt_eq] using h];rfl
theorem acf {f u:Nat} (h:10<=u):Jo (f+1) u=Jo f (u/10)++[UInt8.ofNat (48+u %10)]:=by
 rw[Jo,show Nat.blt u 10=false from Bool.eq_false_iff.2 (by simpa [Nat.blt_eq] using h)];rfl
theorem apE: ∀d:Fin 10,sub [48,49,50,51,52,53,54,55,56,57] ((d.val:Nat):Int) ((d.val:Nat)+1:Int)=[UInt8.ofNat (48+d.val)]:=by decide
theorem VN {d:Nat} (h:d<10):sub [48,49,50,51,52,53,54,55,56,57] (d:Int) ((d:Int)+1)=[UInt8.ofNat (48+d)]:=apE ⟨d,h⟩
theorem VM {d:Nat} (h:d<10):eU (bG ([48,49,50,51,52,53,54,55,56,57]:List Nat)) (d:Int) ((d:Int)+1)=true:=fV (by omega) (by omega) (by rw[bI];simp only[aH,aX];omega)
theorem aHJ (v:Nat):O4 (v:Int) 10=((v %10:Nat):Int):=by
 unfold O4;rw[Int.tmod_eq_emod_of_nonneg (by omega)];omega
theorem aIX {v:Nat} (h:v<1000000000):Ro .i64 (v:Int) 10=((v/10:Nat):Int):=by
 unfold Ro;rw[Int.tdiv_eq_ediv_of_nonneg (by omega),IntKind.wrap_i64];omega
theorem aBI {v:Nat} (d:v<1000000000):Sm (v:Int)=some (Tz v,()):=by
 unfold Sm aiy Tz;rw[show(decide (-9223372036854775808<=(v:Int))&&decide ((v:Int)<=9223372036854775807))=true by simp;omega,aa,show decide ((v:Int)<0)=false by simp,ac,aS]
def alI (f v:Nat) (d:bW):bW:=if v<10 then d else Jo f (v/10)++d
theorem VO (l:List Nd) (t:bW) (i:Int): ∀(f N v:Nat) (d:bW),f<N->v<10^(f+1)->v<1000000000->d.length+f<=1000->
  FC N l t i (v:Int) d=some (.inl ((l,t,i,alI f v d,()),()))
 |_,0,_,_,h,_,_,_=>by omega
 |0,N+1,v,d,_,e,_,_=>by
  rw[FC,KY,dG (kW (by simp at e;omega))];unfold alI;rw[am (by simpa using e)]
 |f+1,N+1,v,d,o,e,j,hd=>by
  rw[FC,KY];by_cases h:v<10
  .rw[dG (kW)];unfold alI;rw[am h]
  .have g:v/10 %10<10:=Nat.mod_lt _ (by decide);have m:bZ .i64 ((v/10 %10:Nat):Int) 1=((v/10 %10:Nat):Int)+1:=dh;rw[bU (eQ),show(!bT 10 0)=true from rfl];simp only[aa];rw[aIX j,aHJ,m,VM g,aa,VN g,ag4 (by rw[aO];omega),aa];rw[VO l t i f N (v/10) (bM [UInt8.ofNat (48+v/10 %10)] d) (by omega) (by rw[Nat.pow_succ]at e;omega) (by omega) (by unfold bM;rw[ai,aO];omega)];unfold alI bM;rw[aq h];by_cases h2:v/10<10
   .rw[am h2,Rn h2,show v/10 %10=v/10 by omega]
   .rw[aq h2,acf (by omega),ag]
theorem azo {l:List Nd} (h:aeO l) (hl:l.length<1000000) (t:bW) (i:Int): ∀(N j c:Nat),j+1<N->j<l.length->c+j<2000000->
  Eb N l t i (c:Int) (j:Int)=some (.inl ((l,t,i,((c+dp l j+1:Nat):Int),()),()))
 |0,j,c,e,_,_=>by omega
 |N+1,j,c,e,d,g=>by
  have m:=h j d;rw[Eb,Nl,bU (nK),bU (dU),dh,show(c:Int)+1=((c+1:Nat):Int) by omega];have f:(eX l (0,(0,(0,(0,())))) (j:Int)).2.2.2.1=Xx l (j:Int):=rfl;rw[f];by_cases h0:Xx l (j:Int)<0
  .obtain⟨N,rfl⟩: ∃M,N=M+1:=⟨N-1,by omega⟩;rw[Eb,Nl,dG (D9),Ph h0]
  .obtain⟨k,hk⟩:=aY (show 0<=Xx l (j:Int) by omega);rw[hk,azo h hl t i N k (c+1) (by omega) (by omega) (by omega),X3 h d hk];rw[show c+1+dp l k+1=c+(dp l k+1)+1 by omega]
def awX:bW:=[63,80,76,65,73,83,88,87,82,66,85,70,72,79,67,84,78,69,77]
def O0 (k:Int):UInt8:=awX.getD k.toNat 0
theorem awY: ∀d:Fin 19,sub awX ((d.val:Nat):Int) ((d.val:Nat)+1:Int)=[O0 ((d.val:Nat):Int)]:=by decide
theorem ar7 {k:Int} (e:0<=k) (h:k<=18):sub awX k (k+1)=[O0 k]:=by
 obtain⟨d,rfl⟩:=aY e;exact awY ⟨d,by omega⟩
def Uj (l:List Nd):Nat->Nat->bW
 |_,0=>[]
 |k,n+1=>O0 (UZ l (k:Int))::Tz (dp l k)++Uj l (k+1) n
theorem adH (v:Nat):(Tz v).length<=20:=acg 20 v
theorem akO {l:List Nd} (h:aeO l) (hl:l.length<1000000): ∀(N k:Nat) (t:bW),l.length-k<N->k<=l.length->t.length<=21*k->
  MI N l t (k:Int)=some (.inl ((t++Uj l k (l.length-k),()),()))
 |0,k,t,o,_,_=>by omega
 |N+1,k,t,o,hk,E=>by
  rw[MI,abh];rcases az k l.length with d|G
  .have p:=h k d;have e:gm l (k:Int)=true:=dU;have q:(eX l (0,(0,(0,(0,())))) (k:Int)).2.2.2.1=Xx l (k:Int):=rfl;have s:(eX l (0,(0,(0,(0,())))) (k:Int)).1=UZ l (k:Int):=rfl;have I:=apH h (k+1) k (by omega) d;have u:Eb bJ l t (k:Int) 0 (Xx l (k:Int))=some (.inl ((l,t,(k:Int),((dp l k:Nat):Int),()),())):=by
    by_cases h0:Xx l (k:Int)<0
    .obtain⟨M,v⟩: ∃M,bJ=M+1:=⟨bJ-1,by have:=dH (n:=0) (by omega);omega⟩;rw[v,Eb,Nl,dG (D9),Ph h0];rfl
    .obtain⟨j,g⟩:=aY (show 0<=Xx l (k:Int) by omega);have:=azo h hl t (k:Int) bJ j 0 (dH) (by omega) (by omega);rw[g,show((0:Int))=((0:Nat):Int) from rfl,this,X3 h d g,Nat.zero_add]
   have i:dp l k %10<10:=Nat.mod_lt _ (by decide);have x:bZ .i64 ((dp l k %10:Nat):Int) 1=((dp l k %10:Nat):Int)+1:=dh;have y:dp l k<10^20:=by
    have:(10:Nat)^20=100000000000000000000:=by decide
    omega
   have z:=VO l t (k:Int) 19 bJ (dp l k) [UInt8.ofNat (48+dp l k %10)] (dH) y (by omega) (by simp);have A:alI 19 (dp l k) [UInt8.ofNat (48+dp l k %10)]=Tz (dp l k):=by
    unfold alI Tz;by_cases h10:dp l k<10
    .rw[am h10,Rn h10,show dp l k %10=dp l k by omega]
    .rw[aq h10,acf (f:=19) (by omega)]
   rw[bU (eQ (by rw[bI];omega)),e,q,u];simp only[aa,bD,dL];rw[show(!bT 10 0)=true from rfl,aa,aa,aHJ,x,VM i,aa,VN i,z,A];simp only[bD,dL,e,aa,s];have B:bZ .i64 (UZ l (k:Int)) 1=UZ l (k:Int)+1:=dh;have D:eU (bG ([63,80,76,65,73,83,88,87,82,66,85,70,72,79,67,84,78,69,77]:List Nat)) (UZ l (k:Int)) (UZ l (k:Int)+1)=true:=fV (by omega) (by omega) (by rw[bI];simp only[aH,aX];omega);have m:=ar7 (k:=UZ l (k:Int)) (by omega) p.2.2.2;unfold awX at m;have J:=adH (dp l k);rw[B,D,aa,m,ag4 (by rw[aO];omega),aa,ag4 (by unfold bM;rw[ai,aO];omega),aa,dh,show(k:Int)+1=((k+1:Nat):Int) by omega];rw[akO h hl N (k+1) _ (by omega) (by omega) (by unfold bM;simp only[ai,aO];omega)];rw[show l.length-k=(l.length-(k+1))+1 by omega,Uj];unfold bM;simp only[ag,List.singleton_append,aW,aA]
  .rw[dG (gK (by rw[bI];omega)),show l.length-k=0 by omega,Uj,aV]
def dpA (l:List Nd) (k:Nat):List Int:=(List.range l.length).map fun j=>if j<k then((dp l j:Nat):Int)else 0
theorem Pg (l:List Nd) (k:Nat):(dpA l k).length=l.length:=by simp[dpA]
theorem X0 {l:List Nd} {k j:Nat} (d:j<l.length):dD (dpA l k) 0 j=if j<k then((dp l j:Nat):Int)else 0:=by
 unfold dD dpA;rw[List.getD_eq_getElem?_getD,List.getElem?_map,List.getElem?_range d];rfl
theorem av1 {l:List Nd} {k:Nat} (hk:k<l.length):ik (dpA l k) k ((dp l k:Nat):Int)=dpA l (k+1):=by
 unfold ik dpA;apply List.ext_getElem
 .simp
 .intro i g f;have d:i<l.length:=by simpa using f
  simp only[List.getElem_set,List.getElem_map,List.getElem_range];by_cases e:k=i
  .subst e;rw[am rfl,am (by omega)]
  .rw[aq e];by_cases d:i<k
   .rw[am d,am (by omega)]
   .rw[aq d,aq (by omega)]
theorem apG (l:List Nd):dpA l 0=aD3 l.length 0:=by
 unfold dpA aD3;apply List.ext_getElem
 .simp
 .intro i d e;simp
theorem apF {l:List Nd} {k:Nat} (h:dp l k=0):dpA l (k+1)=dpA l k:=by
 unfold dpA;apply List.map_congr_left;intro j _;by_cases e:j=k
 .subst e;rw[am (by omega),aq (by omega),h];rfl
 .by_cases h3:j<k
  .rw[am h3,am (by omega)]
  .rw[aq h3,aq (by omega)]
theorem akN {l:List Nd} (h:aeO l) (hl:l.length<1000000): ∀(N k:Nat) (t:bW),l.length-k<N->k<=l.length->t.length<=21*k->
  WA N l (bG l) (k:Int) (dn t) (dpA l k)=some (.inl ((),((),dn (t++Uj l k (l.length-k)),())))
 |0,k,t,I,_,_=>by omega
 |N+1,k,t,I,hk,Z=>by
  (rewrite [WA,akX];delta Gs zh)
  rcases az k l.length with d|ab
  .have hu:=h k d;have J:gm l (k:Int)=true:=dU;have K:(eX l (0,(0,(0,(0,())))) (k:Int)).2.2.2.1=Xx l (k:Int):=rfl;have L:(eX l (0,(0,(0,(0,())))) (k:Int)).1=UZ l (k:Int):=rfl;have ad:=apH h (k+1) k (by omega) d;have e: ∀{A:List Int} {i:Int},A.length=l.length->0<=i->i<l.length->gm A i=true/\ni (dw i) A=true:=fun {A i} hA f h1=>⟨dU f (by omega),pJ (by unfold dw;omega)⟩;have af:=adH (dp l k);have s:bY [63,80,76,65,73,83,88,87,82,66,85,70,72,79,67,84,78,69,77] (UZ l (k:Int))=((O0 (UZ l (k:Int))).toNat:Int):=rfl;have u:gm ([63,80,76,65,73,83,88,87,82,66,85,70,72,79,67,84,78,69,77]:List Nat) (UZ l (k:Int))=true:=dU (by omega) (by simp only[aH,aX];omega);have x:bM (dn t) [((O0 (UZ l (k:Int))).toNat:Int)]=dn (t++[O0 (UZ l (k:Int))]):=by simp[bM,dn]
   have y:dV (dn (t++[O0 (UZ l (k:Int))])) 1=true:=aqT (by rw[ai,aO];omega);have z:bM (dn (t++[O0 (UZ l (k:Int))])) (dn (Tz (dp l k)))=dn (t++(O0 (UZ l (k:Int))::Tz (dp l k))):=by rw[avu,ag];rfl
   have B:dV (dn (t++(O0 (UZ l (k:Int))::Tz (dp l k)))) 1=true:=aqT (by rw[ai,aH];omega);have D:=aBI (v:=dp l k) (by omega);have g:dw (k:Int)=k:=by unfold dw;omega
   have m:=akN h hl N (k+1) (t++(O0 (UZ l (k:Int))::Tz (dp l k))) (by omega) (by omega) (by rw[ai,aH];omega);have M:t++(O0 (UZ l (k:Int))::Tz (dp l k))++Uj l (k+1) (l.length-(k+1))=t++Uj l k (l.length-k):=by
    rw[show l.length-k=(l.length-(k+1))+1 by omega,Uj,ag,aW]
   rw[M]at m;rw[bU (eQ (by rw[bI];omega)),J,K];simp only[aa,L];by_cases f:Xx l (k:Int)<0
   .have E:=Ph f;obtain⟨o,p⟩:=e (Pg l k) (i:=(k:Int)) (by omega) (by omega);have q:dD (dpA l k) 0 k=((dp l k:Nat):Int):=by rw[X0 d,aq (by omega),E];rfl
    rw[dG (D9),u,aa,s,x,y,aa,o,aa,p,aa,g,q,D,bD];simp only;rw[z,B,aa,dh,show(k:Int)+1=((k+1:Nat):Int) by omega,<-apF E,m]
   .obtain⟨j,G⟩:=aY (show 0<=Xx l (k:Int) by omega);have O:=X3 h d G;obtain⟨o,p⟩:=e (Pg l k) (i:=(j:Int)) (by omega) (by omega);obtain⟨S,U⟩:=e (Pg l k) (i:=(k:Int)) (by omega) (by omega);have V:dD (dpA l k) 0 (dw (j:Int))=((dp l j:Nat):Int):=by
     rw[show dw (j:Int)=j by unfold dw;omega,X0 (by omega),am (by omega)]
    have W:bZ .i64 ((dp l j:Nat):Int) 1=((dp l k:Nat):Int):=by
     rw[dh,O];omega
    obtain⟨X,Y⟩:=e (Pg l (k+1)) (i:=(k:Int)) (by omega) (by omega);have q:dD (dpA l (k+1)) 0 k=((dp l k:Nat):Int):=by rw[X0 d,am (by omega)]
    rw[bU (nK),G,o,aa,p,aa,S,aa,U,aa,u,aa,s,x,y,aa,V,W,g,av1 d,X,aa,show ni k (dpA l (k+1))=true from by rw[<-g];exact Y,aa,q,D,bD];simp only;rw[z,B,aa,dh,show(k:Int)+1=((k+1:Nat):Int) by omega,m]
  .rw[dG (gK (by rw[bI];omega)),show l.length-k=0 by omega,Uj,aV]
end
section
open Option renaming some → a6, none → a7
open Bool renaming not_true → ay
open Int renaming toNat_natCast → aS, eq_ofNat_of_zero_le → aY
open List renaming append_assoc → ag, length_append → ai, map_cons → ak, nil_append → aA, drop_eq_getElem_cons → aF, length_cons → aH, length_map → aI, getElem_mem → aJ, drop_of_length_le → aK, length_drop → aQ, append_nil → aV, flatMap_cons → bi
open Nat renaming le_refl → ae, lt_or_ge → az
open Go.RowKit
def WB (F:List Lf) (l:List Nd):Prop:= ∀n∈l,0<=n.2.1/\n.2.1<=n.2.2.1/\n.2.2.1<=(F.length:Int)/\(n.1=6\/n.1=7->n.2.1<(F.length:Int))
theorem Tr.wb {F:List Lf} {a b:Nat} {u:Int} {k:Nat} {m:List Nd} (h:Tr F a b u k m): ∀n∈m,n.1=6\/n.1=7->n.2.1<(F.length:Int):=by
 induction h with
 |nil h=>intro n d;cases d
 | @leaf a b f t u k kd m h1 hk g h2 i=>
  intro n d;rcases List.mem_cons.1 d with e|e
  .subst e;intro h;obtain⟨g,_⟩:=g h;simp only;omega
  .exact i n e
 | @node a b f t u k kd m n' h1 hk h8 h h2 ih1 j=>
  intro n d;rcases List.mem_cons.1 d with e|e
  .subst e;intro h;simp only at h;omega
  .rcases List.mem_append.1 e with e|e
   .exact ih1 n e
   .exact j n e
theorem ayW {F:List Lf} {l m:List Nd} (hl:l=(1,0,(F.length:Int),-1,())::m) (h:Tr F 0 F.length 0 1 m):WB F l:=by
 subst hl;intro n d;rcases List.mem_cons.1 d with e|e
 .subst e;simp only;omega
 .have g:=h.rng n e;have f:=h.wb n e;exact⟨by omega,by omega,by omega,f⟩
theorem aqU {l:List bW} (h:l.length<=1000000000000):dV l 16=true:=by
 unfold dV jO;simpa using (by omega:l.length*16<=140737488355328)
theorem Pn {e:Type} {l:List e} {d:e} {k:Nat} (h:k<l.length):eX l d (k:Int)=l[k]:=by
 simp only[eX,aS,List.getD_eq_getElem?_getD];rw[List.getElem?_eq_getElem h];rfl
theorem axF (a b:Int):su a b=max a b:=by
 unfold su;split<;>omega
theorem aD9 {F:List Lf} {a b:Nat} (h:b<=F.length):(sub F (a:Int) (b:Int)).map (·.2.1)=(List.range' a (b-a)).map (tx F):=by
 unfold sub;apply List.ext_getElem
 .simp;omega
 .intro i e d;have f:i<b-a:=by simpa using d
  simp only[aS,List.getElem_map,List.getElem_drop,List.getElem_take,List.getElem_range',Nat.one_mul];unfold tx;rw[List.getD_eq_getElem?_getD,List.getElem?_eq_getElem (by omega)];rfl
theorem UN (e:List Lf) (f h:List Nd) (i j:Int) (g:List Lf) (m:g.length<=1000000): ∀(N k:Nat) (d:List bW),g.length-k<N->k<=g.length->d.length+(g.length-k)<=1000000000000->
  MM N e f h i j g (bG g) (k:Int) d=a6 (.inl ((e,f,h,i,j,()),(d++(g.drop k).map (·.2.1),())))
 |0,k,d,o,_,_=>by omega
 |N+1,k,d,o,hk,q=>by
  rw[MM,abu];rcases az k g.length with l|p
  .have s:(bM d [g[k].2.1]).length=d.length+1:=by unfold bM;simp
   rw[bU (eQ (by rw[bI];omega)),bU (dU),Pn l,bU (aqU (by omega)),dh,show(k:Int)+1=((k+1:Nat):Int) by omega,
    UN e f h i j g m N (k+1) _ (by omega) (by omega) (by omega),aF l,ak]
   unfold bM;rw[ag];rfl
  .rw[dG (gK (by rw[bI];omega)),aK p,List.map_nil,aV]
theorem aGX {l:List Nd} {k:Nat} (hk:k<l.length) (hl:l.length<1000000) (n:Nd):aq0 l (k:Int) n.2.2.1=a6 (fkF (k:Int) n l[k+1]?,()):=by
 rw[aq0,dh,show(k:Int)+1=((k+1:Nat):Int) by omega];rcases az (k+1) l.length with h|h
 .rw[bU (eQ (by rw[bI];omega)),bU (dU),Pn h,List.getElem?_eq_getElem h];unfold fkF;by_cases e:l[k+1].2.2.2.1=(k:Int)
  .rw[bU (fO e),bU (dU)];simp only;rw[am e]
  .rw[dG (dR e)];simp only;rw[aq e]
 .rw[dG (gK (by rw[bI];omega)),List.getElem?_eq_none h];rfl
theorem aln {F:List Lf} {l:List Nd} (hF:F.length<=10000) (hl:l.length<1000000) (m:WB F l): ∀(N k:Nat) (d:List bW),l.length-k<N->k<=l.length->d.length<=10001*k->
  Kr N F l l (bG l) (k:Int) d=a6 (.inl ((),(d++zl F k (l.drop k),())))
 |0,k,d,B,_,_=>by omega
 |N+1,k,d,B,hk,S=>by
  (rewrite [Kr,akT];delta QG QF lN)
  rcases az k l.length with j|D
  .obtain⟨o,U,E,G⟩:=m l[k] (aJ j);have p:bZ .i64 (k:Int) 1=((k+1:Nat):Int):=by rw[dh];omega
   have I:(l.drop (k+1)).head?=l[k+1]? :=by rw[List.head?_drop]
   have q:=fun d h=>aln hF hl m N (k+1) d (by omega) (by omega) h;have u: ∀x:bW,(bM d [x]).length=d.length+1:=fun x=>by unfold bM;simp
   rw[bU (eQ (by rw[bI];omega)),bU (dU),Pn j,aF j,zl,I];generalize l[k]=n at*;have one:n.1=6\/n.1=7->(bif(gm F n.2.1)then
      bif(dV (bM d [(eX F (0,([],(0,(0,())))) n.2.1).2.1]) 16)then
       Kr N F l l (bG l) (bZ .i64 (k:Int) 1) (bM d [(eX F (0,([],(0,(0,())))) n.2.1).2.1])
      else a7
     else a7)=a6 (.inl ((),(d++(uQ F (k:Int) n l[k+1]? ++zl F (k+1) (l.drop (k+1))),()))):=fun v=>by
    have:=G v;rw[bU (dU o (by omega)),bU (aqU (by rw[u];omega)),p,q _ (by rw[u];omega)];unfold uQ;rw[am v];unfold bM;rw[ag];rfl
   have J:n.1=8->(bF (aq0 l (k:Int) n.2.2.1) fun s=>
     bif(eU (bG F) n.2.1 (su s.1 n.2.1))then
      bF (MM bJ F l l (bG l) (k:Int) (sub F n.2.1 (su s.1 n.2.1)) (bG (sub F n.2.1 (su s.1 n.2.1))) 0 d) fun K=>
       dL K (fun f=>Kr N f.1.1 f.1.2.1 f.1.2.2.1 f.1.2.2.2.1 (bZ .i64 f.1.2.2.2.2.1 1) f.2.1) (fun L=>a6 (.inr ((L.1.1,()),())))
     else a7)=a6 (.inl ((),(d++(uQ F (k:Int) n l[k+1]? ++zl F (k+1) (l.drop (k+1))),()))):=fun e=>by
    have V:fkF (k:Int) n l[k+1]? <=(F.length:Int):=by
     unfold fkF;rcases az (k+1) l.length with h|h
     .obtain⟨W,X,Y,_⟩:=m l[k+1] (aJ h);rw[List.getElem?_eq_getElem h];simp only;split<;>omega
     .rw[List.getElem?_eq_none h];exact E
    rw[aGX j hl,bD];simp only;rw[axF];obtain⟨a,y⟩:=aY o;obtain⟨b,z⟩:=aY (show 0<=max (fkF (k:Int) n l[k+1]?) n.2.1 by omega);have M:b<=F.length:=by omega
    have Z:(sub F n.2.1 (max (fkF (k:Int) n l[k+1]?) n.2.1)).length<=F.length:=by
     unfold sub;rw[aQ,List.length_take];omega
    rw[bU (fV o (by omega) (by rw[bI];omega)),show((0:Int))=((0:Nat):Int) from rfl,UN F l l (bG l) (k:Int) _ (by omega) bJ 0 d (dH) (by omega) (by omega),bD];simp only[dL];have A:(sub F n.2.1 (max (fkF (k:Int) n l[k+1]?) n.2.1)).map (·.2.1)=uQ F (k:Int) n l[k+1]? :=by
     rw[z,y,aD9 M];unfold uQ;rw[aq (by omega),am e,z,y,aS,aS]
    rw[List.drop_zero,A,p];rw[q _ (by
     rw[ai,<-A,aI];omega),ag]
   have O:n.1≠6->n.1≠7->n.1≠8->Kr N F l l (bG l) (bZ .i64 (k:Int) 1) d=a6 (.inl ((),(d++(uQ F (k:Int) n l[k+1]? ++zl F (k+1) (l.drop (k+1))),()))):=fun i g e=>by
    rw[p,q _ (by omega)];unfold uQ;rw[aq (by omega),aq e,aA]
   by_cases g:n.1=7
   .rw[bU (fO g),bU (fO g)];exact one (.inr g)
   .rw[dG (dR g)];by_cases i:n.1=6
    .rw[bU (fO i)];exact one (.inl i)
    .rw[dG (dR i)];by_cases e:n.1=8
     .rw[bU (fO e)];exact J e
     .rw[dG (dR e)];exact O i g e
  .rw[dG (gK (by rw[bI];omega)),aK D,zl,aV]
theorem acd {F:List Lf} {l:List Nd} (hl:l.length<1000000) {p:Nat} (hp:p<F.length) (hF:F.length<=10000): ∀(N i:Nat) (d:List bW),l.length-i<N->i<=l.length->d.length+(l.length-i)<=1000000000000->
  SV N F l (p:Int) (i:Int) d=a6 (.inl ((F,l,(p:Int),()),(d++(l.drop i).flatMap (Dj F p),())))
 |0,i,d,o,_,_=>by omega
 |N+1,i,d,o,A,B=>by
  (rewrite [SV,akV];delta Gq)
  rcases az i l.length with g|q
  .have s:bZ .i64 (i:Int) 1=((i+1:Nat):Int):=by rw[dh];omega
   have u:gm l (i:Int)=true:=dU;have v:gm F (p:Int)=true:=dU;have j: ∀x:bW,(bM d [x]).length=d.length+1:=fun x=>by unfold bM;simp
   have m:=fun d h=>acd hl hp hF N (i+1) d (by omega) (by omega) h;have y:(eX F (0,([],(0,(0,())))) (p:Int)).2.1=tx F p:=by unfold tx eX;rw[aS];rfl
   have z:(eX F (0,([],(0,(0,())))) (p:Int)).1=kd F p:=by unfold kd eX;rw[aS];rfl
   rw[bU (eQ (by rw[bI];omega)),aF g,bi];simp only[u,v,aa,Pn g,y,z,s];generalize l[i]=n at*;have e:kM F p n->(bif(dV (bM d [tx F p]) 16)then SV N F l (p:Int) ((i+1:Nat):Int) (bM d [tx F p])else a7)=a6 (.inl ((F,l,(p:Int),()),(d++(Dj F p n++(l.drop (i+1)).flatMap (Dj F p)),()))):=fun h=>by
    rw[bU (aqU (by rw[j];omega)),m _ (by rw[j];omega)];unfold Dj;rw[am h];unfold bM;rw[ag]
   have f: ¬kM F p n->SV N F l (p:Int) ((i+1:Nat):Int) d=a6 (.inl ((F,l,(p:Int),()),(d++(Dj F p n++(l.drop (i+1)).flatMap (Dj F p)),()))):=fun h=>by
    rw[m _ (by omega)];have:Dj F p n=[]:=by unfold Dj;rw[aq h]
    rw[this,aA]
   unfold kM at e f;by_cases h1:(p:Int)<n.2.1
   .rw[bU (eQ h1)];exact f (by omega)
   .rw[dG (gK h1)];by_cases h2:n.2.2.1<=(p:Int)
    .rw[bU (nK h2)];exact f (by omega)
    .rw[dG (D9)];by_cases h6:n.1=6
     .rw[bU (fO h6)];exact e (by omega)
     .rw[dG (dR h6)];by_cases h7:n.1=7
      .rw[bU (fO h7)];exact e (by omega)
      .rw[dG (dR h7)];by_cases h8:n.1=8
       .rw[bU (fO h8)];by_cases h4:kd F p=4
        .rw[bU (fO h4)];exact e (by omega)
        .rw[dG (dR h4)];by_cases h5:kd F p=5
         .rw[bU (fO h5)];exact e (by omega)
         .rw[dG (dR h5)];exact f (by omega)
       .rw[dG (dR h8)];exact f (by omega)
  .rw[dG (gK (by rw[bI];omega)),aK q,List.flatMap_nil,aV]
theorem afy {d e:Type} {f:d->List e} (hf: ∀a,(f a).length<=1): ∀l:List d,(l.flatMap f).length<=l.length
 |[]=>ae _
 |a::l=>by
  rw[bi,ai,aH];have:=hf a;have:=afy hf l;omega
theorem aeG (F:List Lf) (p:Nat) (n:Nd):(Dj F p n).length<=1:=by
 unfold Dj;split<;>simp
theorem alo {F:List Lf} {l:List Nd} (hF:F.length<=10000) (hl:l.length<1000000): ∀(N p:Nat) (d:List bW),F.length-p<N->p<=F.length->d.length<=1000000*p->
  Wy N F l (p:Int) d=a6 (.inl ((),(d++l9 F l p (F.length-p),())))
 |0,p,d,e,_,_=>by omega
 |N+1,p,d,e,i,j=>by
  rw[Wy,akU];rcases az p F.length with f|m
  .have g:bZ .i64 (p:Int) 1=((p+1:Nat):Int):=by rw[dh];omega
   have h:=acd (F:=F) (l:=l) hl f hF bJ 0 d (dH) (by omega) (by omega);have o:=afy (aeG F p) l;rw[bU (eQ (by rw[bI];omega)),show((0:Int))=((0:Nat):Int) from rfl,h,bD];simp only[dL];rw[g,alo hF hl N (p+1) _ (by omega) (by omega) (by rw[ai,List.drop_zero];omega),show F.length-p=(F.length-(p+1))+1 by omega];unfold l9;rw[List.range'_succ,bi,ag];rfl
  .rw[dG (gK (by rw[bI];omega)),show F.length-p=0 by omega,Xz,aV]
theorem WX (l:List bW) (hl:l.length<1000000000000): ∀(N k:Nat),l.length-k<N->k<=l.length->adk N l l (k:Int)=a6 (.inl ((),()))
 |0,k,h,_=>by omega
 |N+1,k,h,hk=>by
  rw[adk,akW];rcases az k l.length with d|e
  .rw[bU (eQ (by rw[bI];omega)),bU (dU),bU (dU),show gI (eX l [] (k:Int)) (eX l [] (k:Int))=true by simp[gI],ay,ac,dh,show(k:Int)+1=((k+1:Nat):Int) by omega];exact WX l hl N (k+1) (by omega) (by omega)
  .rw[dG (gK (by rw[bI];omega))]
theorem aD5 {l:List bW} (hl:l.length<bJ) (d:l.length<1000000000000):fn8 l l=a6 (true,()):=by
 rw[fn8,eH,ay,ac,show((0:Int))=((0:Nat):Int) from rfl,WX l d bJ 0 (by omega) (by omega),bD];rfl
end
section
open Tryz
open Go.RowKit
def aGH (e:List fE) (d:Int):Option uO:=cond (leI 0 d) (some ((iq d (bG e)),()))<|some (false,())
def aAy:Sum:=⟨[OX,di],O7,fun x=>aGH x.1 x.2.1⟩
theorem avk:dK prog 99 aAy:=qA f99 [] aN
noncomputable def b61:Code:=(f61.body).getD .skip
noncomputable def azf:Code:=cA (cA (cB (cA (cB (cB (b61))))))
def azF:eG:=⟨[1,4,11,12,13,100004],[(4,di)],[4],[],[4],[]⟩
def ajF:SP:=⟨us [.u,bR,.u,.u,db,.u,.u,.u,.u,.u,.u,eK,bR,bR] 14,[.arr 1800004 di]⟩
def agr:SP:=⟨us [.u,.u,.u,.u,db] 23,[.arr 1800004 di]⟩
def agL:SP:=⟨us [.u,.u,.u,.u,.v (.list di)] 23,[]⟩
def ag8 {g:Type} (j:Int->(List fE)->Int->Int->jo->Option g) (l m:jo->Option g) (h:Int) (e:List fE) (i d:Int) (f:jo):Option g:=cond (iq d i) (cond (gm e d) (cond (bT (eX e (0,(0,(0,(0,())))) d).2.2.2.1 h) (cond (dV (bM f [d]) 8) (j h e i (bZ .i64 d 1) (bM f [d])) none)<|j h e i (bZ .i64 d 1) f) none)<|l f
def af1:Nat->Int->(List fE)->Int->Int->jo->Option (agr.den⊕agL.den)
 |0,_,_,_,_,_=>none
 |n+1,d,e,f,g,h=>ag8 (af1 n) (fun i=>some (.inl ((),(i,())))) (fun j=>some (.inr ((j,()),()))) d e f g h
def aCJ (n:Nat) (v:ajF.den):=bq (af1 n) v
noncomputable def asA:dA:=fH azF ajF agr agL (.exit 0) (aCJ bJ) 6
def aI0 (d:List fE) (e:Int):Option (jo×Unit):=bF (aGH d e) fun f=>cond (!f.1) none<|bF (af1 bJ e d (bG d) 0 []) fun g=>dL g (fun h=>some (h.2.1,())) (fun i=>none)
def aAo:Sum:=⟨[OX,di],[(.list di,true)],fun x=>aI0 x.1 x.2.1⟩
noncomputable def ap6:Env:=iU prog tt 61 [(99,aAy)] [(4,azF)] [(4,asA)]
def atL {d:Type} (a:ajF.den->Option d) (b:agr.den->Option d) (c:agL.den->Option d) (v:ajF.den):Option d:=bq (ag8 (fun e f g h i=>a ((e,f,g,h,()),(i,()))) (fun j=>b ((),(j,()))) (aE c)) v
theorem aDc:dQ ap6 61 azf asA:=vS (atL) (h2:=by intros;simp only[atL,aE,bq,ag8,cu,cO,bD,bV,cZ])
theorem aHf:dO ap6 61 b61:=pI [azf] (aD (fM (aDc)) aN)
theorem ap7:eP ap6:=eA f61 (aD avk aN) (aHf)
theorem ava:dK prog 61 aAo:=sA ap7
end
section
open Option renaming some → a6, none → a7
open Nat renaming eq_of_beq_eq_true → aj
open Tryz
open Go.RowKit
noncomputable def kS (sg:FuncId->Option Sum):Env:={P:=prog,T:=tt,cl:=true,kp:=fun _ _=>a7,sg:=sg,lp:=fun _ _=>a7,bf:=JO,em:=G9,np:=fun g=>[26,27,60,62,63,100,101,147,185,186,187,188,189,190,191,228,229,230].any (Nat.beq g)}
theorem E8 {sg:FuncId->Option Sum} (h: ∀g s,sg g=a6 s->dK prog g s):eP (kS sg):=⟨tok,mixed,KC,h,fun f fn c _ _=>jy (fun _=>rfl) (fun _=>rfl) c,ad4 _ fun f fn c _ _=>jy (fun _=>rfl) (fun _=>rfl) c,Ri,fun _ _ h=>by cases h⟩
theorem KU {sg:FuncId->Option Sum} (h: ∀g s,sg g=a6 s->dK prog g s) {f:FuncId} {d:Sum} (i:dK prog f d): ∀g s,(bif Nat.beq g f then a6 d else sg g)=a6 s->dK prog g s:=fun g s e=>by
 rw[cond_eq_ite]at e;split at e
 .rename_i j
  obtain rfl:g=f:=aj j;cases e;exact i
 .exact h g s e
noncomputable def az4 (g:FuncId):Option Sum:=cond (Nat.beq g 28) (a6 aAg)<|sg1 g
theorem aua: ∀g s,az4 g=a6 s->dK prog g s:=KU ag5 aet
noncomputable def az5 (g:FuncId):Option Sum:=cond (Nat.beq g 29) (a6 aAh)<|az4 g
theorem aub: ∀g s,az5 g=a6 s->dK prog g s:=KU aua aeu
noncomputable def az6 (g:FuncId):Option Sum:=cond (Nat.beq g 30) (a6 aAi)<|az5 g
theorem auc: ∀g s,az6 g=a6 s->dK prog g s:=KU aub aev
noncomputable def qI (g:FuncId):Option Sum:=cond (Nat.beq g 61) (a6 aAo)<|az6 g
theorem aen: ∀g s,qI g=a6 s->dK prog g s:=KU auc ava
theorem aDK:jD (kS qI) 98 [di] GX ((1,()):lW)=a6 (([38,38],()):vC):=by kernel_rfl
theorem aDL:jD (kS qI) 98 [di] GX ((2,()):lW)=a6 (([124,124],()):vC):=by kernel_rfl
theorem aDM:jD (kS qI) 98 [di] GX ((3,()):lW)=a6 (([59,59],()):vC):=by kernel_rfl
theorem aDN:jD (kS qI) 98 [di] GX ((4,()):lW)=a6 (([60,60],()):vC):=by kernel_rfl
theorem aDO:jD (kS qI) 98 [di] GX ((5,()):lW)=a6 (([60,60,45],()):vC):=by kernel_rfl
theorem aDP:jD (kS qI) 98 [di] GX ((6,()):lW)=a6 (([62,62],()):vC):=by kernel_rfl
theorem aDQ:jD (kS qI) 98 [di] GX ((7,()):lW)=a6 (([60,38],()):vC):=by kernel_rfl
theorem aDR:jD (kS qI) 98 [di] GX ((8,()):lW)=a6 (([62,38],()):vC):=by kernel_rfl
theorem aDS:jD (kS qI) 98 [di] GX ((9,()):lW)=a6 (([60,62],()):vC):=by kernel_rfl
theorem aDT:jD (kS qI) 98 [di] GX ((10,()):lW)=a6 (([62,124],()):vC):=by kernel_rfl
theorem ayA:jD (kS qI) 98 [di] GX ((11,()):lW)=a6 (([60],()):vC):=by kernel_rfl
theorem ayB:jD (kS qI) 98 [di] GX ((12,()):lW)=a6 (([62],()):vC):=by kernel_rfl
theorem ayC:jD (kS qI) 98 [di] GX ((13,()):lW)=a6 (([38],()):vC):=by kernel_rfl
theorem ayD:jD (kS qI) 98 [di] GX ((14,()):lW)=a6 (([59],()):vC):=by kernel_rfl
theorem ayE:jD (kS qI) 98 [di] GX ((15,()):lW)=a6 (([124],()):vC):=by kernel_rfl
theorem ayF:jD (kS qI) 98 [di] GX ((16,()):lW)=a6 (([40],()):vC):=by kernel_rfl
theorem ayG:jD (kS qI) 98 [di] GX ((17,()):lW)=a6 (([41],()):vC):=by kernel_rfl
def ajW (x:lW):Option vC:=cond (decide (x=(1,()))) (a6 ([38,38],()))<|cond (decide (x=(2,()))) (a6 ([124,124],()))<|cond (decide (x=(3,()))) (a6 ([59,59],()))<|cond (decide (x=(4,()))) (a6 ([60,60],()))<|cond (decide (x=(5,()))) (a6 ([60,60,45],()))<|cond (decide (x=(6,()))) (a6 ([62,62],()))<|cond (decide (x=(7,()))) (a6 ([60,38],()))<|cond (decide (x=(8,()))) (a6 ([62,38],()))<|cond (decide (x=(9,()))) (a6 ([60,62],()))<|cond (decide (x=(10,()))) (a6 ([62,124],()))<|cond (decide (x=(11,()))) (a6 ([60],()))<|cond (decide (x=(12,()))) (a6 ([62],()))<|cond (decide (x=(13,()))) (a6 ([38],()))<|cond (decide (x=(14,()))) (a6 ([59],()))<|cond (decide (x=(15,()))) (a6 ([124],()))<|cond (decide (x=(16,()))) (a6 ([40],()))<|cond (decide (x=(17,()))) (a6 ([41],())) a7
theorem anl (x:lW) (y:vC) (h:ajW x=a6 y):jD (kS qI) 98 [di] GX x=a6 y:=by
 unfold ajW at h;rw[cond_eq_ite]at h;split at h
 .rename_i d
  have e:=of_decide_eq_true d;subst e;cases h;exact aDK
 rw[cond_eq_ite]at h;split at h
 .rename_i d
  have e:=of_decide_eq_true d;subst e;cases h;exact aDL
 rw[cond_eq_ite]at h;split at h
 .rename_i d
  have e:=of_decide_eq_true d;subst e;cases h;exact aDM
 rw[cond_eq_ite]at h;split at h
 .rename_i d
  have e:=of_decide_eq_true d;subst e;cases h;exact aDN
 rw[cond_eq_ite]at h;split at h
 .rename_i d
  have e:=of_decide_eq_true d;subst e;cases h;exact aDO
 rw[cond_eq_ite]at h;split at h
 .rename_i d
  have e:=of_decide_eq_true d;subst e;cases h;exact aDP
 rw[cond_eq_ite]at h;split at h
 .rename_i d
  have e:=of_decide_eq_true d;subst e;cases h;exact aDQ
 rw[cond_eq_ite]at h;split at h
 .rename_i d
  have e:=of_decide_eq_true d;subst e;cases h;exact aDR
 rw[cond_eq_ite]at h;split at h
 .rename_i d
  have e:=of_decide_eq_true d;subst e;cases h;exact aDS
 rw[cond_eq_ite]at h;split at h
 .rename_i d
  have e:=of_decide_eq_true d;subst e;cases h;exact aDT
 rw[cond_eq_ite]at h;split at h
 .rename_i d
  have e:=of_decide_eq_true d;subst e;cases h;exact ayA
 rw[cond_eq_ite]at h;split at h
 .rename_i d
  have e:=of_decide_eq_true d;subst e;cases h;exact ayB
 rw[cond_eq_ite]at h;split at h
 .rename_i d
  have e:=of_decide_eq_true d;subst e;cases h;exact ayC
 rw[cond_eq_ite]at h;split at h
 .rename_i d
  have e:=of_decide_eq_true d;subst e;cases h;exact ayD
 rw[cond_eq_ite]at h;split at h
 .rename_i d
  have e:=of_decide_eq_true d;subst e;cases h;exact ayE
 rw[cond_eq_ite]at h;split at h
 .rename_i d
  have e:=of_decide_eq_true d;subst e;cases h;exact ayF
 rw[cond_eq_ite]at h;split at h
 .rename_i d
  have e:=of_decide_eq_true d;subst e;cases h;exact ayG
 cases h
theorem aos:dK prog 98 ⟨[di],GX,ajW⟩:=qE (E8 aen) (by decide) fun x y h=>anl x y h
noncomputable def yU (g:FuncId):Option Sum:=cond (Nat.beq g 98) (a6 ⟨[di],GX,ajW⟩)<|qI g
theorem aem: ∀g s,yU g=a6 s->dK prog g s:=KU aen aos
theorem aDt:jD (kS yU) 59 [.str] tzJ (([59,116,104],()):vC)=a6 ((0,()):lW):=by kernel_rfl
theorem aDu:jD (kS yU) 59 [.str] tzJ (([59,116],()):vC)=a6 ((0,()):lW):=by kernel_rfl
theorem aDv:jD (kS yU) 59 [.str] tzJ (([59],()):vC)=a6 ((14,()):lW):=by kernel_rfl
theorem aDw:jD (kS yU) 59 [.str] tzJ (([38,102,105],()):vC)=a6 ((0,()):lW):=by kernel_rfl
theorem aDx:jD (kS yU) 59 [.str] tzJ (([38,102],()):vC)=a6 ((0,()):lW):=by kernel_rfl
theorem aDy:jD (kS yU) 59 [.str] tzJ (([38],()):vC)=a6 ((13,()):lW):=by kernel_rfl
theorem aDz:jD (kS yU) 59 [.str] tzJ (([105,102],()):vC)=a6 ((0,()):lW):=by kernel_rfl
theorem aDA:jD (kS yU) 59 [.str] tzJ (([97],()):vC)=a6 ((0,()):lW):=by kernel_rfl
theorem aDB:jD (kS yU) 59 [.str] tzJ (([116,104,101,110],()):vC)=a6 ((0,()):lW):=by kernel_rfl
theorem aDC:jD (kS yU) 59 [.str] tzJ (([98],()):vC)=a6 ((0,()):lW):=by kernel_rfl
theorem ayz:jD (kS yU) 59 [.str] tzJ (([102,105],()):vC)=a6 ((0,()):lW):=by kernel_rfl
def ajU (x:vC):Option lW:=cond (decide (x=([59,116,104],()))) (a6 (0,()))<|cond (decide (x=([59,116],()))) (a6 (0,()))<|cond (decide (x=([59],()))) (a6 (14,()))<|cond (decide (x=([38,102,105],()))) (a6 (0,()))<|cond (decide (x=([38,102],()))) (a6 (0,()))<|cond (decide (x=([38],()))) (a6 (13,()))<|cond (decide (x=([105,102],()))) (a6 (0,()))<|cond (decide (x=([97],()))) (a6 (0,()))<|cond (decide (x=([116,104,101,110],()))) (a6 (0,()))<|cond (decide (x=([98],()))) (a6 (0,()))<|cond (decide (x=([102,105],()))) (a6 (0,())) a7
theorem anj (x:vC) (y:lW) (h:ajU x=a6 y):jD (kS yU) 59 [.str] tzJ x=a6 y:=by
 unfold ajU at h;rw[cond_eq_ite]at h;split at h
 .rename_i d
  have e:=of_decide_eq_true d;subst e;cases h;exact aDt
 rw[cond_eq_ite]at h;split at h
 .rename_i d
  have e:=of_decide_eq_true d;subst e;cases h;exact aDu
 rw[cond_eq_ite]at h;split at h
 .rename_i d
  have e:=of_decide_eq_true d;subst e;cases h;exact aDv
 rw[cond_eq_ite]at h;split at h
 .rename_i d
  have e:=of_decide_eq_true d;subst e;cases h;exact aDw
 rw[cond_eq_ite]at h;split at h
 .rename_i d
  have e:=of_decide_eq_true d;subst e;cases h;exact aDx
 rw[cond_eq_ite]at h;split at h
 .rename_i d
  have e:=of_decide_eq_true d;subst e;cases h;exact aDy
 rw[cond_eq_ite]at h;split at h
 .rename_i d
  have e:=of_decide_eq_true d;subst e;cases h;exact aDz
 rw[cond_eq_ite]at h;split at h
 .rename_i d
  have e:=of_decide_eq_true d;subst e;cases h;exact aDA
 rw[cond_eq_ite]at h;split at h
 .rename_i d
  have e:=of_decide_eq_true d;subst e;cases h;exact aDB
 rw[cond_eq_ite]at h;split at h
 .rename_i d
  have e:=of_decide_eq_true d;subst e;cases h;exact aDC
 rw[cond_eq_ite]at h;split at h
 .rename_i d
  have e:=of_decide_eq_true d;subst e;cases h;exact ayz
 cases h
theorem aoq:dK prog 59 ⟨[.str],tzJ,ajU⟩:=qE (E8 aem) (by decide) fun x y h=>anj x y h
noncomputable def H5 (g:FuncId):Option Sum:=cond (Nat.beq g 59) (a6 ⟨[.str],tzJ,ajU⟩)<|yU g
theorem aek: ∀g s,H5 g=a6 s->dK prog g s:=KU aem aoq
theorem aDD:jD (kS H5) 64 [NJ] tzI (((6,([105,102],(0,(2,())))),()):taT)=a6 ((105,()):lW):=by kernel_rfl
theorem aDE:jD (kS H5) 64 [NJ] tzI (((6,([97],(3,(4,())))),()):taT)=a6 ((120,()):lW):=by kernel_rfl
theorem aDF:jD (kS H5) 64 [NJ] tzI (((4,([59],(4,(5,())))),()):taT)=a6 ((59,()):lW):=by kernel_rfl
theorem aDG:jD (kS H5) 64 [NJ] tzI (((6,([116,104,101,110],(5,(9,())))),()):taT)=a6 ((116,()):lW):=by kernel_rfl
theorem aDH:jD (kS H5) 64 [NJ] tzI (((6,([98],(10,(11,())))),()):taT)=a6 ((120,()):lW):=by kernel_rfl
theorem aDI:jD (kS H5) 64 [NJ] tzI (((4,([38],(11,(12,())))),()):taT)=a6 ((38,()):lW):=by kernel_rfl
theorem aDJ:jD (kS H5) 64 [NJ] tzI (((6,([102,105],(12,(14,())))),()):taT)=a6 ((102,()):lW):=by kernel_rfl
def ajV (x:taT):Option lW:=cond (decide (x=((6,([105,102],(0,(2,())))),()))) (a6 (105,()))<|cond (decide (x=((6,([97],(3,(4,())))),()))) (a6 (120,()))<|cond (decide (x=((4,([59],(4,(5,())))),()))) (a6 (59,()))<|cond (decide (x=((6,([116,104,101,110],(5,(9,())))),()))) (a6 (116,()))<|cond (decide (x=((6,([98],(10,(11,())))),()))) (a6 (120,()))<|cond (decide (x=((4,([38],(11,(12,())))),()))) (a6 (38,()))<|cond (decide (x=((6,([102,105],(12,(14,())))),()))) (a6 (102,())) a7
theorem ank (x:taT) (y:lW) (h:ajV x=a6 y):jD (kS H5) 64 [NJ] tzI x=a6 y:=by
 unfold ajV at h;rw[cond_eq_ite]at h;split at h
 .rename_i d
  have e:=of_decide_eq_true d;subst e;cases h;exact aDD
 rw[cond_eq_ite]at h;split at h
 .rename_i d
  have e:=of_decide_eq_true d;subst e;cases h;exact aDE
 rw[cond_eq_ite]at h;split at h
 .rename_i d
  have e:=of_decide_eq_true d;subst e;cases h;exact aDF
 rw[cond_eq_ite]at h;split at h
 .rename_i d
  have e:=of_decide_eq_true d;subst e;cases h;exact aDG
 rw[cond_eq_ite]at h;split at h
 .rename_i d
  have e:=of_decide_eq_true d;subst e;cases h;exact aDH
 rw[cond_eq_ite]at h;split at h
 .rename_i d
  have e:=of_decide_eq_true d;subst e;cases h;exact aDI
 rw[cond_eq_ite]at h;split at h
 .rename_i d
  have e:=of_decide_eq_true d;subst e;cases h;exact aDJ
 cases h
theorem aor:dK prog 64 ⟨[NJ],tzI,ajV⟩:=qE (E8 aek) (by decide) fun x y h=>ank x y h
noncomputable def akM (g:FuncId):Option Sum:=cond (Nat.beq g 64) (a6 ⟨[NJ],tzI,ajV⟩)<|H5 g
theorem ael: ∀g s,akM g=a6 s->dK prog g s:=KU aek aor
theorem aDs:jD (kS akM) 58 [OX] O7 (([(1,(0,(7,((-1),())))),(2,(0,(7,(0,())))),(3,(0,(7,(1,())))),(4,(0,(7,(2,())))),(11,(0,(7,(3,())))),(2,(1,(3,(4,())))),(3,(1,(2,(5,())))),(4,(1,(2,(6,())))),(5,(1,(2,(7,())))),(7,(1,(2,(8,())))),(2,(4,(6,(4,())))),(3,(4,(5,(10,())))),(4,(4,(5,(11,())))),(5,(4,(5,(12,())))),(7,(4,(5,(13,()))))],()):((List (Int×(Int×(Int×lW))))×Unit))=a6 ((true,()):uO):=by kernel_rfl
def ajT (x:((List (Int×(Int×(Int×lW))))×Unit)):Option uO:=cond (decide (x=([(1,(0,(7,((-1),())))),(2,(0,(7,(0,())))),(3,(0,(7,(1,())))),(4,(0,(7,(2,())))),(11,(0,(7,(3,())))),(2,(1,(3,(4,())))),(3,(1,(2,(5,())))),(4,(1,(2,(6,())))),(5,(1,(2,(7,())))),(7,(1,(2,(8,())))),(2,(4,(6,(4,())))),(3,(4,(5,(10,())))),(4,(4,(5,(11,())))),(5,(4,(5,(12,())))),(7,(4,(5,(13,()))))],()))) (a6 (true,())) a7
theorem ani (x:((List (Int×(Int×(Int×lW))))×Unit)) (y:uO) (h:ajT x=a6 y):jD (kS akM) 58 [OX] O7 x=a6 y:=by
 unfold ajT at h;rw[cond_eq_ite]at h;split at h
 .rename_i d
  have e:=of_decide_eq_true d;subst e;cases h;exact aDs
 cases h
theorem aop:dK prog 58 ⟨[OX],O7,ajT⟩:=qE (E8 ael) (by decide) fun x y h=>ani x y h
noncomputable def akL (g:FuncId):Option Sum:=cond (Nat.beq g 58) (a6 ⟨[OX],O7,ajT⟩)<|akM g
theorem aej: ∀g s,akL g=a6 s->dK prog g s:=KU ael aop
theorem aDr:jD (kS akL) 25 [.str] tzK (([105,102,32,97,59,116,104,101,110,32,98,38,102,105],()):vC)=a6 (([(6,([105,102],(0,(2,())))),(6,([97],(3,(4,())))),(4,([59],(4,(5,())))),(6,([116,104,101,110],(5,(9,())))),(6,([98],(10,(11,())))),(4,([38],(11,(12,())))),(6,([102,105],(12,(14,()))))],([(1,(0,(7,((-1),())))),(2,(0,(7,(0,())))),(3,(0,(7,(1,())))),(4,(0,(7,(2,())))),(11,(0,(7,(3,())))),(2,(1,(3,(4,())))),(3,(1,(2,(5,())))),(4,(1,(2,(6,())))),(5,(1,(2,(7,())))),(7,(1,(2,(8,())))),(2,(4,(6,(4,())))),(3,(4,(5,(10,())))),(4,(4,(5,(11,())))),(5,(4,(5,(12,())))),(7,(4,(5,(13,()))))],(0,()))):taU):=by kernel_rfl
def ajS (x:vC):Option taU:=cond (decide (x=([105,102,32,97,59,116,104,101,110,32,98,38,102,105],()))) (a6 ([(6,([105,102],(0,(2,())))),(6,([97],(3,(4,())))),(4,([59],(4,(5,())))),(6,([116,104,101,110],(5,(9,())))),(6,([98],(10,(11,())))),(4,([38],(11,(12,())))),(6,([102,105],(12,(14,()))))],([(1,(0,(7,((-1),())))),(2,(0,(7,(0,())))),(3,(0,(7,(1,())))),(4,(0,(7,(2,())))),(11,(0,(7,(3,())))),(2,(1,(3,(4,())))),(3,(1,(2,(5,())))),(4,(1,(2,(6,())))),(5,(1,(2,(7,())))),(7,(1,(2,(8,())))),(2,(4,(6,(4,())))),(3,(4,(5,(10,())))),(4,(4,(5,(11,())))),(5,(4,(5,(12,())))),(7,(4,(5,(13,()))))],(0,())))) a7
theorem anh (x:vC) (y:taU) (h:ajS x=a6 y):jD (kS akL) 25 [.str] tzK x=a6 y:=by
 unfold ajS at h;rw[cond_eq_ite]at h;split at h
 .rename_i d
  have e:=of_decide_eq_true d;subst e;cases h;exact aDr
 cases h
theorem aoo:dK prog 25 ⟨[.str],tzK,ajS⟩:=qE (E8 aej) (by decide) fun x y h=>anh x y h
noncomputable def az3 (g:FuncId):Option Sum:=cond (Nat.beq g 25) (a6 ⟨[.str],tzK,ajS⟩)<|akL g
theorem at7: ∀g s,az3 g=a6 s->dK prog g s:=KU aej aoo
theorem alv:jD (kS az3) 5 [] O7 ()=a6 (true,()):=by kernel_rfl
def UF:Sum:=⟨[],O7,fun _=>a6 (true,())⟩
theorem Vw:dK prog 5 UF:=qE (E8 at7) (by decide) fun x y h=>by
 cases h;exact alv
end
section
open Tryz
open Go.RowKit
def fn3 (d:bW):Option uO:=cond (iq 100 (bG d)) (some (true,()))<|bF (fn6 d) fun e=>bF (fn7 d) fun f=>bF (fn8 e.1 f.1) fun g=>cond g.1 (bF (fn9 d) fun h=>bF (awl d) fun i=>some ((gI h.1 i.1),()))<|some (false,())
def aE7:Sum:=⟨[.str],O7,fun x=>fn3 x.1⟩
noncomputable def aGj:Env:=iU prog tt 3 [(5,UF),(6,aHQ),(7,aHT),(8,aHX),(9,aHY),(10,aAe)] [] []
theorem ahN:eP aGj:=eA Tryz.f3 (aD Vw (aD ayQ (aD ayR (aD ayS (aD ayT (aD aup aN))))))
theorem aIG:dK prog 3 aE7:=sA ahN
end
section
open List renaming length_append → ai, nil_append → aA, length_cons → aH, length_map → aI, flatMap_cons → bi
open Nat renaming le_trans → aG
open Go.RowKit
theorem axL {s:List UInt8} (d:s.length<=10000) {l:List Nd} (hp:amK (gJ s (oJ s).1)=some (l,())):aqZ s=some (gJ s (oJ s).1,(l,())):=by
 rw[aqZ,aFN d,bD];simp only;rw[aoD d,bD];simp only;rw[hp,bD]
theorem amY (s:bW):fn3 s=some (true,()):=by
 rw[fn3];by_cases h:s.length<=100
 .obtain⟨l,o,f,G,m,d,e⟩:=aDn (s:=s) (by omega);have hF:U2 (gJ s (oJ s).1):=Wq (by omega);have u:(gJ s (oJ s).1).length<=100:=by
   have:=(JS (s:=s) (by omega)).2.2;unfold gJ;rw[aI];exact aG (List.length_filter_le _ _) (aG this h)
  have g:=aot d e;have v:=ayW d e;have i:=axL (s:=s) (by omega) o;have j:amI s=some (gJ s (oJ s).1,()):=aoE (by omega);generalize gJ s (oJ s).1=F at*;have x:=ahs hF d e;have y:fn6 s=some (l9 F l 0 F.length,()):=by
   have:=aln (F:=F) (l:=l) (by omega) (by omega) v bJ 0 [] (dH) (by omega) (by simp);rw[fn6,i,bD];simp only;rw[show Kr bJ F l l (bG l) 0 []=_ from this,bD];simp only[dL,aA,List.drop_zero,x]
  have z:fn7 s=some (l9 F l 0 F.length,()):=by
   have:=alo (F:=F) (l:=l) (by omega) (by omega) bJ 0 [] (dH) (by omega) (by simp);rw[fn7,j,bD];simp only;rw[f,bD];simp only;rw[show Wy bJ F l 0 []=_ from this,bD];simp only[dL,aA,Nat.sub_zero]
  have A:fn9 s=some (Uj l 0 l.length,()):=by
   have:=akN (l:=l) g (by omega) bJ 0 [] (dH) (by omega) (by simp);rw[fn9,i,bD];simp only;have B:((leI 0 (bG l))&&((leI (bG l) (bG l))&&(atv (bG l) 8)))=true:=by
    rw[nK (by rw[bI];omega),nK];unfold atv jO;rw[bI];simp;omega
   rw[B,aa,show dw (bG l)=l.length by unfold dw;rw[bI];omega,<-apG l,show WA bJ l (bG l) 0 [] (dpA l 0)=_ from this,bD];simp only[dL,eH,aa,axK,aA,Nat.sub_zero]
  have D:awl s=some (Uj l 0 l.length,()):=by
   have:=akO (l:=l) g (by omega) bJ 0 [] (dH) (by omega) (by simp);rw[awl,j,bD];simp only;rw[f,bD];simp only;rw[show MI bJ l [] 0=_ from this,bD];simp only[dL,aA,Nat.sub_zero]
  have E:(l9 F l 0 F.length).length<1000000000000:=by
   unfold l9 wLf;have g1: ∀p,(l.flatMap (Dj F p)).length<=l.length:=fun p=>afy (aeG F p) l;have g2: ∀q:List Nat,(q.flatMap fun p=>l.flatMap (Dj F p)).length<=q.length*l.length:=fun q=>by
    induction q with
    |nil=>simp
    |cons a q I=>
     rw[bi,ai,aH,Nat.succ_mul];have:=g1 a;omega
   have g3:=g2 (List.range' 0 F.length);rw[List.length_range']at g3;have g4:F.length*l.length<=100*10000:=Nat.mul_le_mul u (by omega);omega
  rw[dG (kW (by rw[bI];omega)),y,bD];simp only;rw[z,bD];simp only;rw[aD5 (by unfold bJ;omega) E,bD];simp only[aa];rw[A,bD];simp only;rw[D,bD];simp[gI]
 .rw[bU (eQ (by rw[bI];omega))]
end
end Go.Proofs.YtkichehglnecnaaGreatDoor
