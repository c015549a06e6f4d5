/- Lemmas for the tops: the walk of the house and its laws. No condition is added. -/
import Derived.WalkKit
import Derived.ProofKit
import Derived.OpenShut
import Derived.Deep.Slices
import Derived.Deep.DeepHandedRow
import Derived.Deep.DeepWitnessRowRef
import Derived.Lib.LaidTab
import Derived.Lib.LaidIn
import Derived.Lib.SmallJoins
import Derived.Lib.LaidU8
import Derived.Carry
import Derived.Test.YtaaihojmcfaejaaGreatDoorCards
import Derived.Test.YtaaihojmcfaejaaGreatDoorTie
import Derived.Test.YtaaihojmcfaejaaGreatDoorQbc
set_option linter.all false
namespace Go.Proofs.YtaaihojmcfaejaaGreatDoor
open Go Go.RowKit Go.ChangeShapes Go.WideShapes Go.ChangeAt Go.Lib Go.Deep
section
variable{H:Type}{d7:TypeId×Value->H}{w:World}{N0:Nat}{sp:Nat->Bool}{Bk:Bool}
theorem Yx:Tryz.prog.cellsOf 3=1:=Zb2
theorem hc4:Tryz.prog.cellsOf 4=1:=Zb2
theorem hc5:Tryz.prog.cellsOf 5=1:=Zb2
theorem amq:Tryz.prog.cellsOf 45=1:=Zb2
theorem amr:Tryz.prog.cellsOf 37=7:=Zb2
theorem ams:Tryz.prog.cellsOf 35=4:=Zb2
theorem adL{f:Type}{l:List f}(h:l.length=17):∃e c1 c2 c3 c4 c5 d c b a c10 c11 c12 c13 c14 c15 c16,l=[e,c1,c2,c3,c4,c5,d,c,b,a,c10,c11,c12,c13,c14,c15,c16]:=by
 match l,h with
 |[e,c1,c2,c3,c4,c5,d,c,b,a,c10,c11,c12,c13,c14,c15,c16],_=>simp
theorem IB{a:Array Field}{xs:List (DataW H×List MemPlace)}{m:Nat}{cs:List Value}(d:∀(i:Nat)(f:Field),a[i]? =some f->DataW.trod d7 Tryz.prog w N0 sp Bk m f.type ((cs.drop f.offset).take (Tryz.prog.cellsOf f.type))=xs[i]?)(b:xs.length=a.size)(i o t k:Nat)(c:(a[i]?).map (λf=>(f.type,f.offset))=some (t,o))(e:Tryz.prog.cellsOf t=k):∃y,DataW.trod d7 Tryz.prog w N0 sp Bk m t ((cs.drop o).take k)=some y:=Zb1
theorem elt{xs:List (DataW H×List MemPlace)}{m n e:Nat}{cs:List Value}(c:∀i:Nat,i<n->DataW.trod d7 Tryz.prog w N0 sp Bk m e ((cs.drop (i*Tryz.prog.cellsOf e)).take (Tryz.prog.cellsOf e))=xs[i]?)(a:xs.length=n)(i:Nat)(b:i<n)(d:Tryz.prog.cellsOf e=1):∃y,DataW.trod d7 Tryz.prog w N0 sp Bk m e ((cs.drop i).take 1)=some y:=Zb7
theorem OL{x:Int}(h:(Lit.int .u8 x).wf=true):∃s:BitVec 8,x=(s.toNat:Int):=by have:=bounds_u8 h;exact⟨BitVec.ofNat 8 x.toNat,Zb1⟩
theorem acG{x:Int}(h:(Lit.int .u16 x).wf=true):∃s:BitVec 16,x=(s.toNat:Int):=by have:=bounds_u16 h;exact⟨BitVec.ofNat 16 x.toNat,Zb1⟩
theorem akb{n:Nat}{cs:List Value}{x:DataW H×List MemPlace}(h:DataW.trod d7 Tryz.prog w N0 sp Bk n 47 cs=some x):∃ev:Ev,cs=ev.f∧M7 ev.op.n:=by
 obtain⟨xs,m,_,_,i,b,a⟩:=DataW.trod_struct Tryz.underlying47 h;have i:cs.length=17:=i.trans Zb2;obtain⟨c0,c1,c2,c3,c4,c5,c6,c7,c8,c9,c10,c11,c12,c13,c14,c15,c16,rfl⟩:=adL i;obtain⟨y0,Z⟩:=IB a b 0 0 3 1 rfl Yx;obtain⟨G,u,_,_⟩:=DataW.trod_int Tryz.underlying3 Z;injection u with u _
 obtain⟨y1,f1⟩:=IB a b 1 1 3 1 rfl Yx;obtain⟨F,t,_,_⟩:=DataW.trod_int Tryz.underlying3 f1;injection t with t _
 obtain⟨y2,f2⟩:=IB a b 2 2 3 1 rfl Yx;obtain⟨E,s,_,_⟩:=DataW.trod_int Tryz.underlying3 f2;injection s with s _
 obtain⟨y3,Y⟩:=IB a b 3 3 3 1 rfl Yx;obtain⟨D,r,_,_⟩:=DataW.trod_int Tryz.underlying3 Y;injection r with r _
 obtain⟨y4,f4⟩:=IB a b 4 4 3 1 rfl Yx;obtain⟨n4,q,_,_⟩:=DataW.trod_int Tryz.underlying3 f4;injection q with q _
 obtain⟨y5,X⟩:=IB a b 5 5 3 1 rfl Yx;obtain⟨C,p,_,_⟩:=DataW.trod_int Tryz.underlying3 X;injection p with p _
 obtain⟨y6,V⟩:=IB a b 6 6 3 1 rfl Yx;obtain⟨A,o,_,_⟩:=DataW.trod_int Tryz.underlying3 V;injection o with o _
 obtain⟨y7,T⟩:=IB a b 7 7 45 1 rfl amq;obtain⟨n7,l,_,v⟩:=DataW.trod_int Tryz.underlying45 T;injection l with l _
 obtain⟨y8,S⟩:=IB a b 8 8 4 1 rfl hc4;obtain⟨z,k,_⟩:=DataW.trod_bool Tryz.underlying4 S;injection k with k _
 obtain⟨y9,R⟩:=IB a b 9 9 4 1 rfl hc4;obtain⟨y,j,_⟩:=DataW.trod_bool Tryz.underlying4 R;injection j with j _
 obtain⟨yo,fo⟩:=IB a b 10 10 37 7 rfl amr;obtain⟨os,mo,_,_,_,g,c⟩:=DataW.trod_struct Tryz.underlying37 fo;obtain⟨y10,f10⟩:=IB c g 0 0 3 1 rfl Yx;obtain⟨n10,e10,_,w10⟩:=DataW.trod_int Tryz.underlying3 f10;injection e10 with e10 _
 obtain⟨y11,f11⟩:=IB c g 1 1 3 1 rfl Yx;obtain⟨n11,e11,_,w11⟩:=DataW.trod_int Tryz.underlying3 f11;injection e11 with e11 _
 obtain⟨y16,f16⟩:=IB c g 3 6 3 1 rfl Yx;obtain⟨n16,e16,_,w16⟩:=DataW.trod_int Tryz.underlying3 f16;injection e16 with e16 _
 obtain⟨yk,Q⟩:=IB c g 2 2 35 4 rfl ams;obtain⟨ks,mk,_,_,_,e,d⟩:=DataW.trod_array Tryz.underlying35 Q;obtain⟨y12,f12⟩:=elt d e 0 m4 hc5;obtain⟨n12,e12,_,w12⟩:=DataW.trod_int Tryz.underlying5 f12;injection e12 with e12 _
 obtain⟨y13,f13⟩:=elt d e 1 m4 hc5;obtain⟨n13,e13,_,w13⟩:=DataW.trod_int Tryz.underlying5 f13;injection e13 with e13 _
 obtain⟨y14,f14⟩:=elt d e 2 m4 hc5;obtain⟨n14,e14,_,w14⟩:=DataW.trod_int Tryz.underlying5 f14;injection e14 with e14 _
 obtain⟨y15,f15⟩:=elt d e 3 m4 hc5;obtain⟨n15,e15,_,w15⟩:=DataW.trod_int Tryz.underlying5 f15;injection e15 with e15 _
 subst u t s r q p o l k j e10 e11 e12 e13 e14 e15 e16;obtain⟨J,rfl⟩:=acG v;obtain⟨N,rfl⟩:=OL w12;obtain⟨M,rfl⟩:=OL w13;obtain⟨L,rfl⟩:=OL w14;obtain⟨K,rfl⟩:=OL w15;exact⟨⟨G,F,E,D,n4,C,A,J,z,y,⟨n10,n11,⟨N,M,L,K⟩,n16⟩⟩,rfl,bounds_i64 w16⟩
theorem NT{a:Option Addr}{len cap G:Nat}{x:DataW H×List MemPlace}(h:DataW.trod d7 Tryz.prog w 0 (λ_=>true) true G 24 [.slice a len cap]=some x):∃l:List Ev,l.length=len∧(0<len->Sx eEv w a len cap l)∧∀ev∈l,M7 ev.op.n:=by
 rcases open_slice Tryz.underlying24 h with⟨hcs,A⟩|⟨y,anO,S,m,n,D,Q,hcs,M,t,K,F,A,q⟩
 ·simp_all
 ·simp only[List.cons.injEq,Value.slice.injEq,and_true]at hcs;obtain⟨rfl,rfl,rfl⟩:=hcs;have R:len<=m:=by rw[F];simpa using t
  have C:Tryz.prog.cellsOf 47=17:=Zb2
  rw[C]at q;have key:∀k,k<=len->∃l:List Ev,l.length=k∧∀i ev,i3 l i=some ev->(∀r,r<17->w.cell? (y.add (i*17+r))=ev.f[r]?)∧M7 ev.op.n:=by
   intro k;induction k with
   |zero=>intro _;exact⟨[],rfl,λi ev h=>by cases i<;>cases h⟩
   |succ k z=>
    intro L;obtain⟨l,p,j⟩:=z m4;obtain⟨cs,s,g⟩:=q k m4;obtain⟨ev,rfl,u⟩:=akb g;obtain⟨_,_,E⟩:=World.cells?_some s;refine⟨l++[ev],Zb6,λi ev' h=>?_⟩;rw[Z0]at h;by_cases e:i<l.length
    ·rw[Hm e,<-Z0]at h;grind
    ·rw[Im m4]at h;have N:i=k:=by have:=(Cp.1 h).1;rw[Gm]at this;omega
     simp_all[Go.Deep.add_add]
  obtain⟨l,p,j⟩:=key len (V7 len);refine⟨l,p,λh0=>?_,λev hev=>?_⟩
  ·obtain⟨tH,amm⟩:∃ev,i3 l 0=some ev:=⟨l[0],by simp[Z0]⟩;obtain⟨b,o,spot⟩:=y;have s:=(j 0 tH amm).1 0 m4;have aji:spot=none:=by have:w.cell? (Addr.add ⟨b,o,spot⟩ (0*17+0))=some (I tH.W0):=s;simpa [Addr.add] using World.cell?_spot this
   subst aji;refine⟨.row (by rw[Qb.p8,p]) λi v d=>?_,p,t⟩;have J:i<l.length*17:=by
    have:i<(eEv.P3 l).length:=by rw[Z0]at d;exact(Cp.1 d).1
    rw[Qb.p8]at this;exact this
   obtain⟨ev,hev⟩:∃ev,i3 l (i/17)=some ev:=⟨_,by rw[Z0];exact d8 m4⟩;obtain⟨c,hv'⟩:∃c,i3 ev.f (i%17)=some c:=⟨_,by rw[Z0];exact d8 (by show i%17<17;omega)⟩;have g:=eEv.nj l (i/17) (i%17) ev c hev hv';have u:i/17*eEv.sz+i%17=i:=by show i/17*17+i%17=i;omega
   rw[u]at g;have e:c=v:=by rw[g]at d;injection d
   subst e;have E:=(j _ ev hev).1 (i%17) m4;grind[Z0,Go.WideShapes.add_plain]
  ·obtain⟨i,q,rfl⟩:=List.getElem_of_mem hev;exact(j i _ (by rw[Z0];simp)).2
theorem aiJ{b:Type}{l:List b}(h:l.length=5):∃a c1 c2 c3 c4,l=[a,c1,c2,c3,c4]:=by
 match l,h with
 |[a,c1,c2,c3,c4],_=>simp
theorem XF{cs:Array Value}{d:DataW H}{p:List MemPlace}(j:cs.size=5)(h:DataW.Trod d7 Tryz.prog w N0 sp Bk 23 (.agg cs) d p):∃(q:R9)(s R0:Int),cs= #[I q.A0,I q.F0,I q.L0,I s,I R0]:=by
 obtain⟨E,t⟩:=h;obtain⟨l⟩:=cs;obtain⟨D,c1,c2,c3,c4,rfl⟩:=aiJ j;obtain⟨xs,m,_,_,_,b,a⟩:=DataW.trod_struct Tryz.underlying23 t;obtain⟨C,v⟩:=IB a b 0 0 3 1 rfl Yx;obtain⟨r,i,_⟩:=DataW.trod_int Tryz.underlying3 v;obtain⟨A,f1⟩:=IB a b 1 1 3 1 rfl Yx;obtain⟨o,g,_⟩:=DataW.trod_int Tryz.underlying3 f1;obtain⟨z,f2⟩:=IB a b 2 2 3 1 rfl Yx;obtain⟨n,f,_⟩:=DataW.trod_int Tryz.underlying3 f2;obtain⟨y,u⟩:=IB a b 3 3 3 1 rfl Yx;obtain⟨k,e,_⟩:=DataW.trod_int Tryz.underlying3 u;obtain⟨x,f4⟩:=IB a b 4 4 3 1 rfl Yx;obtain⟨n4,c,_⟩:=DataW.trod_int Tryz.underlying3 f4;injection i with i _
 injection g with g _;injection f with f _;injection e with e _;injection c with c _;subst i g f e c;exact⟨⟨r,o,n⟩,k,n4,rfl⟩
end
end Go.Proofs.YtaaihojmcfaejaaGreatDoor
