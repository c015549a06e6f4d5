/- Lemmas for the tops: the walk of the house and its laws. No condition is added. -/
import Derived.Test.YtaaihojmcfaejaaGreatDoorQau
import Derived.Test.YtaaihojmcfaejaaGreatDoorQah
import Derived.Test.YtaaihojmcfaejaaGreatDoorQaf
import Derived.Test.YtaaihojmcfaejaaGreatDoorQat
set_option linter.all false
namespace Go.Proofs.YtaaihojmcfaejaaGreatDoor
open Go Go.RowKit Tryz
variable{up:Bool}{s:E1}{r r':E6}{F:End->P9->Prop}{C0 E0 N3 T me t tx:Int}{k:J2}{S0:List A5}{R:List HP}{l:N7}{Xb b cap d n pk pr:Nat}{a ak:Option Addr}{m:P9}{x:U2}{v0 v1 v2 v3 v4 v5:Value}{c w:World}{p:d4}
def KH(kb:Nat)(k:J2)(g:Nat):HP:=sf λ(q:Option Addr×Nat×Nat)=>C5 [bk kb (fc k g q.1 q.2.1 q.2.2) 129,so 140 Om q.1 q.2.1 k.Kd,mr End.v cj q.2.2 k.ways]
theorem Hp.SX{L:List HP}{kb g b mk:Nat}{a:Option Addr}(h:Hp c w (bk kb (fc k g a b mk) 129::so 140 Om a b k.Kd::mr End.v cj mk k.ways::L)):Hp c w (KH kb k g::L):=
 Hp.R8 (a,b,mk) (Hp.C3 (A:=[bk kb (fc k g a b mk) 129,so 140 Om a b k.Kd,mr End.v cj mk k.ways]) h)
section
theorem ajT{kb:Nat}(h:Hp c w (K1 kb k::R)):Cs 18 #[Pt kb] w (λe w'=>∃g,e= .returned (Pt g)∧Hp c w' (Ma g k.R4::KH kb k g::R)):=by obtain⟨g,a,b,mk,h⟩:=h.d5;refine(Mp (g:=g) h).mono ?_;rintro _ w' ⟨rfl,h⟩;have h:=(h.g [0,2,3] O).SX;exact⟨g,rfl,h.g [1] O⟩
end
def tc(k:J2)(r:T4)(m:P9)(C0:Int):T4×J2:=
 let r:=if r.N2=0∧r.V3.getD m.E0.toNat 0= -1 then{r with V3:=r.V3.set m.E0.toNat m.H8}else r
 (if¬r.N2=0∧m.H8=1∧Qe (W r.done) m.E0=false then{r with ka:=r.ka|||Lk m.E0}else r,(k.Z6 k.D0.A0 m.E0 ⟨5,m.E0,m.tx,0⟩ C0).2)
theorem QC(l:N7)(B0:List (Int×T4))(k:J2)(d:U2)(r:T4)(m:P9)(C0:Int):CW.z7 ⟨⟨l,B0⟩,k,d⟩ r m C0=⟨⟨l,R1 B0 m.tx (tc k r m C0).1⟩,(tc k r m C0).2,d⟩:=by unfold CW.z7 tc CW.Z6 CW.setRow;simp only;generalize(if r.N2=0∧r.V3.getD m.E0.toNat 0= -1 then{r with V3:=r.V3.set m.E0.toNat m.H8}else r)=a;grind[qe]
def Re(l:N7)(d:U2)(r:T4)(m:P9):T4×N7×U2:=
 let r:={r with done:=r.done|||Lk m.E0,ka:=r.ka&&& ~~~(Lk m.E0)}
 if¬r.N2=2∨r.G'=true∨¬((r.need&&& ~~~r.done).toNat:Int)=0 then(r,l,d)else
 let y:=l.append d [⟨6,m.tx,0#16,Y3,X0,X0⟩] 0
 ({r with G':=Decidable.decide (y.1=0)},y.2.1,y.2.2)
theorem RT(l:N7)(B0:List (Int×T4))(k:J2)(d:U2)(r:T4)(m:P9):CW.done ⟨⟨l,B0⟩,k,d⟩ r m=⟨⟨(Re l d r m).2.1,R1 B0 m.tx (Re l d r m).1⟩,k,(Re l d r m).2.2⟩:=by unfold CW.done Re CW.setRow<;>grind
def adJ(tx:Int)(r:T4):List A5:=if(r.s9.toNat:Int)=0 then[⟨2,tx,r.J0,Y3,X0,X0⟩,⟨4,tx,0#16,Y3,X0,X0⟩,⟨6,tx,0#16,Y3,X0,X0⟩]
 else[⟨2,tx,r.s9,Y3,X0,X0⟩,⟨4,tx,0#16,Y3,X0,X0⟩]
def Fb(l:N7)(d:U2)(tx:Int)(r:T4):Bool×T4×N7×U2:=
 let f:=fL l d 4 (adJ tx r)
 if¬f.1=0 then(false,r,f.2.1,f.2.2)else(true,{r with need:=r.s9,G':=Decidable.decide ((r.s9.toNat:Int)=0)},f.2.1,f.2.2)
theorem PS(l:N7)(B0:List (Int×T4))(k:J2)(d:U2)(tx:Int)(r:T4):CW.Uf ⟨⟨l,B0⟩,k,d⟩ tx r=((Fb l d tx r).1,(Fb l d tx r).2.1,⟨⟨(Fb l d tx r).2.2.1,B0⟩,k,(Fb l d tx r).2.2.2⟩):=by have a:(if(r.s9.toNat:Int)=0 then[(⟨2,tx,r.J0,Y3,X0,X0⟩:A5),⟨4,tx,0#16,Y3,X0,X0⟩,⟨6,tx,0#16,Y3,X0,X0⟩]else[⟨2,tx,r.s9,Y3,X0,X0⟩,⟨4,tx,0#16,Y3,X0,X0⟩])=adJ tx r:=rfl;grind[CW.Uf,Fb,fL]
def je(l:N7)(d:U2)(tx:Int)(r:T4):T4×N7×U2:=
 let r:={r with N2:=1};let y:=if r.Qc=true∧r.Gh=true then Fb l d tx r else(false,r,l,d)
 let r:=if y.1 then{y.2.1 with N2:=2}else y.2.1
 ({r with ka:=r.s9},y.2.2.1,y.2.2.2)
theorem Fy(l:N7)(B0:List (Int×T4))(k:J2)(d:U2)(tx:Int)(r:T4):CW.decide ⟨⟨l,B0⟩,k,d⟩ tx r=⟨⟨(je l d tx r).2.1,R1 B0 tx (je l d tx r).1⟩,{k with R4:=(k.R4.put tx (Decidable.decide ((je l d tx r).1.N2=2))).2},(je l d tx r).2.2⟩:=by unfold CW.decide je CW.setRow;simp only[PS];grind
def DS(J0:BitVec 16)(x:Int×Nat):Bool:=Qe (W J0) (x.2:Int)&&Decidable.decide (¬x.1=1)&&Decidable.decide (¬x.1=2)
theorem OP(r:T4):r.Gh= !(r.V3.zipIdx.any (DS r.J0)):=rfl
theorem jU{a:Type}{p:a->Bool}{l:List a}{i:Nat}{x:a}(h:i3 l i=some x):(l.take (i+1)).any p=((l.take i).any p||p x):=by rw[O7 h,List.any_append];simp
theorem HL{l:List Int}{i:Nat}{v:Int}(h:i3 l i=some v):i3 l.zipIdx i=some (v,i):=by simp_all[Z0]
def jF(o:BitVec 16)(x:Int×Nat):BitVec 16:=if x.1=1 then o|||Lk (x.2:Int)else o
theorem acB(r:T4):r.s9=r.V3.zipIdx.foldl jF 0#16:=rfl
theorem ail:∀n:Fin 17,IntKind.u16.wrap (1*2^(min n.val 16))=((1#16<<<n.val).toNat:Int):=Zb4
theorem bit16(i:Int):IntKind.u16.wrap (1*2^(min i.toNat 16))=((Lk i).toNat:Int):=by
 unfold Lk;by_cases h:i.toNat<=16
 ·exact ail ⟨i.toNat,m4⟩
 ·have b:min i.toNat 16=16:=m4
  have a:(1#16<<<i.toNat)=0#16:=BitVec.shiftLeft_eq_zero m4;rw[b,a];decide
theorem WR.bit16{i:Int}{K:Value->Prop}(k:K (gb (Lk i))):WR .u16 (1*2^(min i.toNat IntKind.u16.bits)) K:=⟨by have:=Go.Proofs.YtaaihojmcfaejaaGreatDoor.bit16 i;show K (.int .u16 (IntKind.u16.wrap (1*2^(min i.toNat 16))));simp_all⟩
section
theorem afu{r:T4}(h:Hp c w (M5 pr r::R))(s:r.V3.length<=1000):Cr 464 #[Pt pr] w c (.bool r.Gh) (M5 pr r::R):=by
 rw[OP];obtain⟨J0,k,C,nd,bg,D,V3,j,z⟩:=r;simp only at s⊢;refine R2 func464 O (wg h.w5 λd b h=>U0 h 0 O O (p5.A6 kn [0,8,9,10] (λm vs w'=>∃(i:Int),vs=[Pt pr,.slice d V3.length b,I V3.length,I i]∧(0<=i∧i+m=V3.length)∧(V3.zipIdx.take i.toNat).any (DS J0)=false∧Hp c w' (bk pr [gb J0,gb k,gb C,gb nd,I bg,I D,.slice d V3.length b,.bool j,.bool z] 325::so 3 O5 d b V3::R)) V3.length ⟨0,rfl,m4,rfl,h⟩ ?_));rintro m _ w1 H ⟨i,rfl,G,a,h⟩;refine BR.T5 (λy=>?_) λy=>?_
 ·obtain⟨v,n⟩:∃v,i3 V3 i.toNat=some v:=⟨V3[i.toNat],by rw[Z0,d8]⟩;have f:=jU (p:=DS J0) (HL n);have A:(i+1).toNat=i.toNat+1:=m4
  rw[<-A,a,Bool.false_or]at f;have eii:((i.toNat:Nat):Int)=i:=m4
  have l:DS J0 (v,i.toNat)=(Qe (W J0) i&&decide (¬v=1)&&decide (¬v=2)):=by unfold DS;rw[eii]
  rw[l]at f;obtain⟨q,o⟩:∃q,Qe (W J0) i=q:=⟨_,rfl⟩;have g:=λ(w:World)(R:List HP)(h:Hp c w R)=>SL (m:=J0) (p:=i) h;rw[o]at f g;refine jd h 1 O λJ E F=>LD.qf h 1 O Zb9 Zb9 O (U0 h 0 O O (N1 (g _ _ h) λw h=>BR.O' (λx=>?_) λx=>?_))
  ·refine BR.ne (λu=>?_) λu=>?_
   ·refine BR.ne (λt=>?_) λt=>?_
    ·replace h:=Hp.E3 h;refine⟨A8 O ?_,h⟩;grind[]
    ·refine i5 ⟨(m-1),?_,_,rfl,?_,?_,h⟩
     ·omega
     ·omega
     ·grind[]
   ·refine m5 (i5 ⟨(m-1),?_,_,rfl,?_,?_,h⟩)
    ·omega
    ·omega
    ·grind[]
  ·refine m5 (m5 (i5 ⟨(m-1),?_,_,rfl,?_,?_,h⟩))
   ·omega
   ·omega
   ·grind[]
 ·have e:V3.zipIdx.take i.toNat=V3.zipIdx:=sd Zb7;rw[e]at a;rw[a];replace h:=Hp.E3 h;exact⟨rfl,h⟩
theorem RL{r:T4}(h:Hp c w (M5 pr r::R))(p:r.V3.length<=1000):Cr 467 #[Pt pr] w c (gb r.s9) (M5 pr r::R):=by
 rw[acB];obtain⟨J0,k,u,nd,bg,x,V3,j,s⟩:=r;simp only at p⊢;refine R2 func467 O (wg h.w5 λd b h=>U0 h 0 O O (p5.A6 kn [0,3,9,10,11] (λm vs w'=>∃(i:Int),vs=[Pt pr,gb ((V3.zipIdx.take i.toNat).foldl jF 0#16),.slice d V3.length b,I V3.length,I i]∧(0<=i∧i+m=V3.length)∧Hp c w' (bk pr [gb J0,gb k,gb u,gb nd,I bg,I x,.slice d V3.length b,.bool j,.bool s] 325::so 3 O5 d b V3::R)) V3.length ⟨0,rfl,m4,h⟩ ?_));rintro m _ w1 D ⟨i,rfl,C,h⟩;refine BR.T5 (λq=>?_) λq=>?_
 ·obtain⟨v,l⟩:∃v,i3 V3 i.toNat=some v:=⟨V3[i.toNat],by rw[Z0,d8]⟩;have t:(i+1).toNat=i.toNat+1:=m4
  have f:(V3.zipIdx.take (i+1).toNat).foldl jF 0#16=jF ((V3.zipIdx.take i.toNat).foldl jF 0#16) (v,i.toNat):=by rw[t,O7 (HL l),Qh];rfl
  obtain⟨o,n⟩:∃o,(V3.zipIdx.take i.toNat).foldl jF 0#16=o:=⟨_,rfl⟩;rw[n]at f⊢;have eii:((i.toNat:Nat):Int)=i:=m4
  have g:jF o (v,i.toNat)=if v=1 then o|||Lk i else o:=by unfold jF;rw[eii]
  refine jd h 1 O λE y A=>LD.qf h 1 O Zb9 Zb9 O (BR.eq (λa=>?_) λa=>?_)
  ·refine km (WR.bit16 (bf.or16 O (i5 ⟨(m-1),?_,_,vs5 O ?_ O O O,?_,h⟩)))
   ·omega
   ·exact(V4 (λz:BitVec 16=>(gb z:Value)) (f.trans (g.trans (S1 a)))).symm
   ·omega
  ·refine i5 ⟨(m-1),?_,_,vs5 O ?_ O O O,?_,h⟩
   ·omega
   ·exact(V4 (λz:BitVec 16=>(gb z:Value)) (f.trans (g.trans (V0 a)))).symm
   ·omega
 ·have e:V3.zipIdx.take i.toNat=V3.zipIdx:=sd Zb7;rw[e];replace h:=Hp.E3 h;exact⟨rfl,h⟩
end
theorem abG{P:Prop}(h:P:=by
 refine R2 func403 O ?_;replace h:=(h.g [1] O).L7;refine Y6 h [0,1,2,4,5,6,7,3,58,109,10,11,12,13,14,15,16] λh=>U3 1 O O (U0 h 0 O O ⟨h,ga (hV _ _ (h.g [4] O)) λa1 V1 w h=>m5 (Q5 (N1 (iR (h.g [3,4,5] O) Zb9 (h.Z4 0 O) m4 m4) λw h=>BR.ne (λg1=>?_) λg1=>?_))⟩)
 ·refine U0 h 0 O O (N1 (gR (h.g [4] O) Zb9 m4) λw h=>J3 h 5 O O O λw h=>J3 h 5 O O O λw h=>?_);replace h:=Hp.Z5 (h.g [5] O);refine⟨rfl,Hp.subst (h.q 6 [2,0,3,4,1] O) ?_⟩;grind[]
 ·refine J3 h 5 O O O λw h=>J3 h 5 O O O λw h=>?_;replace h:=Hp.Z5 (h.g [5] O);refine⟨rfl,Hp.subst (h.q 6 [1,0,2,3,5] O) ?_⟩;grind[]):P:=h
theorem Xq{a:Type}{l pre:List a}{x:a}(h:pre++[x]=l.take (pre++[x]).length):pre=l.take pre.length∧x∈l:=by
 constructor
 ·have b:=V4 (List.take pre.length) h;grind
 grind[List.mem_of_mem_take]
section
theorem LM{d m:Nat}{a:List (Int×Nat)}(v:a.length<=1000000)(J:List (Int×Nat)->HP):
 Nv prog 407 [Pt d] (λ(x:Int×Nat)=>[I x.1,Pt x.2]) c (λl=>l=d9 a) (λl=>l=(d9 a).take l.length) (λpre=>C5 [bk b [v0,v1,v2,v3,.map (some m),v5] 162,mo I Pt m a,J pre]) (bk d [Pt b] 61::R) (bk d [Pt b] 61::R):=by
 intro l X Q W r h;replace h:=h.R6;replace h:Hp c W (mr I AJ m a::bk b [v0,v1,v2,v3,.map (some m),v5] 162::J []::X::bk d [Pt b] 61::R):=(Hp.get (L:=bk b [v0,v1,v2,v3,.map (some m),v5] 162::mo I Pt m a::J []::X::bk d [Pt b] 61::R) h 2 [1,0] O O).adG;have D:(T3 a).length=a.length:=by rw[(i4 _).length_eq,H7]
 obtain⟨K,j⟩:∃K,T3 a=K:=⟨_,rfl⟩;have y:d9 a=K.map λn=>(n,(K0 a n).getD 0):=by rw[<-j];rfl
 have hKs:∀n∈K,∃p,K0 a n=some p:=λn u=>ca ((i4 _).mem_iff.mp (j▸u));have s:=λ(w:World)(R:List HP)(h:Hp c w (bk b [v0,v1,v2,v3,.map (some m),v5] 162::mr I AJ m a::R))=>aga h v;rw[j]at D s;rw[y]at r⊢;refine R2 func407 O (U0 h 4 O O (ga (s _ _ (h.g [1] O)) λa1 o w h=>?_));replace h:=(h.g [2,1] O).adF;refine p5.A6 kn [0,1,6,7,8] (λn vs w'=>∃(i:Int),vs=[.func (.yield l) #[] #[],Pt d,.slice a1 K.length o,I K.length,I i]∧(0<=i∧i+n=K.length)∧Hp c w' (C5 [bk b [v0,v1,v2,v3,.map (some m),v5] 162,mo I Pt m a,J ((K.map λn=>(n,(K0 a n).getD 0)).take i.toNat)]::X::so 3 O5 a1 o K::bk d [Pt b] 61::R)) K.length ⟨0,rfl,m4,?_⟩ ?_
 ·exact Hp.C3 (A:=[bk b [v0,v1,v2,v3,.map (some m),v5] 162,mo I Pt m a,J []]) (h.g [1,0,3,4] O)
 rintro n _ w1 M ⟨i,rfl,H,h⟩;refine BR.T5 (λz=>?_) λz=>?_
 ·obtain⟨k,f⟩:∃k,i3 K i.toNat=some k:=⟨K[i.toNat],by rw[Z0,d8]⟩;obtain⟨p,hp⟩:=hKs k (by grind[Z0]);have C:(i+1).toNat=i.toNat+1:=m4
  have E:(K.map λn=>(n,(K0 a n).getD 0)).take (i+1).toNat=(K.map λn=>(n,(K0 a n).getD 0)).take i.toNat++[(k,p)]:=by rw[C];refine O7 ?_;rw[Z0]at f⊢;rw[We,f,Es,hp];rfl
  have F:((K.map λn=>(n,(K0 a n).getD 0)).take i.toNat).length=i.toNat:=by rw[Ga,H7];omega
  refine jd h 2 O λN G t=>LD.qf h 2 O t f O (U0 h 3 O O ?_);replace h:=h.R6;refine U0 h 0 O O (RD.lH wm h 1 O k hp ?_);have h:Hp c w1 (C5 [bk b [v0,v1,v2,v3,.map (some m),v5] 162,mo I Pt m a,J ((K.map λn=>(n,(K0 a n).getD 0)).take i.toNat)]::X::so 3 O5 a1 o K::bk d [Pt b] 61::R):=Hp.C3 (A:=[bk b [v0,v1,v2,v3,.map (some m),v5] 162,mo I Pt m a,J ((K.map λn=>(n,(K0 a n).getD 0)).take i.toNat)]) h;refine qV.at (r _ (k,p) _ _ Zb7 h) ?_;rintro _ w (⟨rfl,h⟩|⟨rfl,h⟩)
  ·refine⟨_,rfl,?_⟩;rw[<-E]at h;exact m5 (i5 ⟨n-1,m4,i+1,rfl,m4,h⟩)
  ·exact⟨_,rfl,Q5 ⟨⟨_,rfl⟩,.inr (h.q 3 [0,2] O)⟩⟩
 ·have e:(K.map λn=>(n,(K0 a n).getD 0)).take i.toNat=K.map λn=>(n,(K0 a n).getD 0):=sd Zb7;rw[e]at h;exact⟨⟨_,rfl⟩,.inl ⟨_,rfl,h.q 4 [0,1,3] O⟩⟩
def cn(s:E1)(l:N7)(d:U2)(tx:Int)(r:E6):E6×N7×U2×E1:=
 let y:=s.Y4 tx r.J0;let v:=if¬y.2.2.1=0 then 0 else y.1
 if v=1 then
  let f:=fL l d 12 y.2.1
  if¬f.1=0 then({r with Y4:=0,z7:=true},f.2.1,f.2.2,(y.2.2.2.xe tx false).2)else({r with Y4:=1,z7:=true},f.2.1,f.2.2,y.2.2.2)
 else({r with Y4:=v,z7:=true},l,d,y.2.2.2)
theorem tQ(x:PW)(tx:Int)(r:E6):x.Y4 tx r=⟨⟨x.E0.me,(cn x.E0.U1 x.E0.X9 x.M6 tx r).2.1,(cn x.E0.U1 x.E0.X9 x.M6 tx r).2.2.2,R1 x.E0.B0 tx (cn x.E0.U1 x.E0.X9 x.M6 tx r).1⟩,x.O0,(cn x.E0.U1 x.E0.X9 x.M6 tx r).2.2.1⟩:=by unfold PW.Y4 cn;simp only[mH];grind
theorem agc{pl:Nat}(h:Hp c w (bk b [v0,v1,Pt pl,Pt pk,v4,v5] 162::r5 pr r::J5 d pl l::M1 d x::T2 pk s::R))(p:s6 x l S0)(hs:SS n s)(A:n<=20000000):Cr 403 #[Pt b,I tx,Pt pr] w c (.tuple #[]) (bk b [v0,v1,Pt pl,Pt pk,v4,v5] 162::r5 pr (cn s l x tx r).1::J5 d pl (cn s l x tx r).2.1::M1 d (cn s l x tx r).2.2.1::T2 pk (cn s l x tx r).2.2.2::R):=by
 have i:=hs.Y4 tx r.J0;have hV:=λ(w:World)(R:List HP)(h:Hp c w (T2 pk s::R))=>afV (tx:=tx) (J0:=r.J0) h hs.sb m4;unfold cn;simp only;obtain⟨y,o⟩:∃y,s.Y4 tx r.J0=y:=⟨_,rfl⟩;rw[o]at hV i⊢;obtain⟨v,P0,e,z⟩:=y;simp only at hV i⊢;have C:=i.1.sb;have hvl:=i.2;obtain⟨f,t⟩:∃f,fL l x 12 P0=f:=⟨_,rfl⟩;have u:=λ(a:Option Addr)(cap:Nat)(w:World)(R:List HP)(h:Hp c w (bk b [v0,v1,Pt pl,Pt pk,v4,v5] 162::J5 d pl l::M1 d x::R))(hs:Sx za w a P0.length cap P0)=>iR (O2:=12) h p hs m4 m4;rw[t]at u⊢;by_cases g1:e=0
 ·subst g1;rw[V0 (show¬¬((0:Int)=0) by decide)];by_cases m:v=1
  ·subst m;rw[S1 O];by_cases j:f.1=0
   ·rw[V0 (show¬¬f.1=0 from λk=>k j)];exact abG
   ·rw[S1 j];exact abG
  ·rw[V0 m];refine R2 func403 O ?_;replace h:=(h.g [1] O).L7;refine Y6 h [0,1,2,4,5,6,7,3,58,109,10,11,12,13,14,15,16] λh=>U3 1 O O (U0 h 0 O O ⟨h,ga (hV _ _ (h.g [4] O)) λa1 V1 w h=>m5 (Wa (m5 (J3 h 2 O O O λw h=>J3 h 2 O O O λw h=>?_)))⟩);replace h:=Hp.Z5 (h.g [2] O);exact⟨rfl,h.q 6 [3,0,4,5,2] O⟩
 ·rw[S1 g1,V0 (show¬((0:Int)=1) by decide)];refine R2 func403 O ?_;replace h:=(h.g [1] O).L7;refine Y6 h [0,1,2,4,5,6,7,3,58,109,10,11,12,13,14,15,16] λh=>U3 1 O O (U0 h 0 O O ⟨h,ga (hV _ _ (h.g [4] O)) λa1 V1 w h=>xq (m5 (m5 (J3 h 2 O O O λw h=>J3 h 2 O O O λw h=>?_)))⟩);replace h:=Hp.Z5 (h.g [2] O);exact⟨rfl,h.q 6 [3,0,4,5,2] O⟩
end
theorem EU{P:Prop}(h:P:=by refine N1 (xu (h.g [2,3] O) ‹_›) λw h=>?_;replace h:Hp _ _ (r5 _ (r)::_):=Hp.Z5 (h.g [3] O);refine⟨rfl,Hp.subst (h.g [1,2,3] O) ?_⟩;grind[]):P:=h
theorem abF{P:Prop}(h:P:=by refine m5 (Q5 (U0 h 1 O O (N1 (bp (h.g [3] O)) λw h=>mf (N1 (xu (h.g [2,3] O) ‹_›) λw h=>?_))));replace h:Hp _ _ (r5 _ (r)::_):=Hp.Z5 (h.g [3] O);exact⟨rfl,h.g [1,2,3] O⟩):P:=h
theorem DU{P:Prop}(h:P:=by replace h:Hp _ _ (r5 _ (r)::_):=Hp.Z5 (h.g [1] O);exact⟨rfl,h.g [2,3,1] O⟩):P:=h
theorem abE{P:Prop}(h:P:=by rintro _ w' ⟨rfl,h⟩;have h:=(Hp.F3 (h.g [1,3,4,5] O)).g [2] O;exact⟨rfl,(Hp.Z5 h).g [2,1] O⟩):P:=h
theorem abD{P:Prop}(h:P:=by refine m5 ?_;replace h:Hp _ _ (r5 _ (r)::_):=Hp.Z5 h;exact⟨rfl,h.g [1,2,3] O⟩):P:=h
def AX(tx:Int)(s9:Bool):List A5:=if s9 then[⟨4,tx,0#16,Y3,X0,X0⟩,⟨6,tx,0#16,Y3,X0,X0⟩]else[⟨5,tx,0#16,Y3,X0,X0⟩]
def fe(s:E1)(l:N7)(d:U2)(tx:Int)(r:E6)(s9:Bool):Int×E6×N7×U2×E1:=
 let f:=fL l d 0 (AX tx s9)
 if¬f.1=0 then(f.1,r,f.2.1,f.2.2,s)else
 let e:=s.xe tx s9
 (e.1,{r with N2:=if s9 then 2 else 1},f.2.1,f.2.2,e.2)
theorem AH{B0:List (Int×E6)}{d:U2}(a:K0 B0 tx=some r)(s9:Bool):PW.decide ⟨⟨me,l,s,B0⟩,k,d⟩ tx r s9=((fe s l d tx r s9).1,⟨⟨me,(fe s l d tx r s9).2.2.1,(fe s l d tx r s9).2.2.2.2,R1 B0 tx (fe s l d tx r s9).2.1⟩,k,(fe s l d tx r s9).2.2.2.1⟩):=by have b:(if s9=true then[(⟨4,tx,0#16,Y3,X0,X0⟩:A5),⟨6,tx,0#16,Y3,X0,X0⟩]else[⟨5,tx,0#16,Y3,X0,X0⟩])=AX tx s9:=rfl;grind[PW.decide,fe,mH,E']
def Dv(k:J2)(me:Int)(s:E1)(tx:Int)(r:E6)(C0:Int):J2:=
 let a:=Decidable.decide (C0>=k.D0.E5 r.I1)
 if r.z7=true∧r.Dn=false∧a=false then(k.Z6 me k.D0.A0 ⟨1,me,tx,r.Y4⟩ C0).2
 else if a=true∧s.N9 tx=3 then(k.Z6 me k.D0.A0 ⟨2,me,tx,0⟩ C0).2
 else k
theorem Rw(x:PW)(tx:Int)(r:E6)(C0:Int):x.jb tx r C0={x with O0:=Dv x.O0 x.E0.me x.E0.U1 tx r C0}:=by
 unfold PW.jb Dv PW.Z6;simp only;split
 ·rfl
 ·split<;>rfl
section
theorem KS{kp:Nat}(h:Hp c w (bk b [Pt kp,I me,v2,v3,v4,v5] 162::K1 kp k::R))(e:0<=k.D0.A0∧k.D0.A0<=6):Cr 228 #[Pt b,I C0] w c (.bool (decide (k.D0.K6 C0=me))) (bk b [Pt kp,I me,v2,v3,v4,v5] 162::K1 kp k::R):=by obtain⟨g,a,d,mk,h⟩:=(h.g [1] rfl).d5;refine(ahd (C0:=C0) (g:=g) (ak:=a) (Xb:=d) (mk:=mk) (R:=Ma g k.R4::so 140 Om a d k.Kd::mr End.v cj mk k.ways::R) (h.g [4] O) e).mono ?_;rintro _ w' ⟨rfl,h⟩;exact⟨rfl,(Hp.F3 (h.g [1,2,3,4] O)).g [1] O⟩
theorem MZ{kp:Nat}(h:Hp c w (bk b [Pt kp,I me,v2,v3,v4,v5] 162::K1 kp k::r5 pr r::R))(f:0<=k.D0.A0∧k.D0.A0<=6)(e:0<=k.D0.F0∧k.D0.F0<=1000):Cr 229 #[Pt b,Pt pr,I C0] w c (.bool (decide (C0>=k.D0.M8 r.I1))) (bk b [Pt kp,I me,v2,v3,v4,v5] 162::K1 kp k::r5 pr r::R):=by have h:=(h.g [2,1] O).L7;obtain⟨g,a,d,mk,h⟩:=(h.g [1] rfl).d5;refine(ahc (C0:=C0) (g:=g) (ak:=a) (Xb:=d) (mk:=mk) (R:=Ma g k.R4::so 140 Om a d k.Kd::mr End.v cj mk k.ways::R) (h.g [5,0,4] O) f e).mono ?_;exact abE
theorem afh{kp:Nat}(h:Hp c w (bk b [Pt kp,I me,v2,v3,v4,v5] 162::K1 kp k::r5 pr r::R))(f:0<=k.D0.A0∧k.D0.A0<=6)(e:0<=k.D0.L0∧k.D0.L0<=1000):Cr 423 #[Pt b,Pt pr,I C0] w c (.bool (decide (C0>=k.D0.E5 r.I1))) (bk b [Pt kp,I me,v2,v3,v4,v5] 162::K1 kp k::r5 pr r::R):=by have h:=(h.g [2,1] O).L7;obtain⟨g,a,d,mk,h⟩:=(h.g [1] rfl).d5;refine(afS (C0:=C0) (g:=g) (ak:=a) (Xb:=d) (mk:=mk) (R:=Ma g k.R4::so 140 Om a d k.Kd::mr End.v cj mk k.ways::R) (h.g [5,0,4] O) f e).mono ?_;exact abE
theorem fR{pl:Nat}{s9:Bool}(h:Hp c w (bk b [v0,v1,Pt pl,Pt pk,v4,v5] 162::r5 pr r::J5 d pl l::M1 d x::T2 pk s::R))(o:s6 x l S0)(hs:SS n s)(t:n<=20000000):Cr 421 #[Pt b,I tx,Pt pr,.bool s9] w c (I (fe s l x tx r s9).1) (bk b [v0,v1,Pt pl,Pt pk,v4,v5] 162::r5 pr (fe s l x tx r s9).2.1::J5 d pl (fe s l x tx r s9).2.2.1::M1 d (fe s l x tx r s9).2.2.2.1::T2 pk (fe s l x tx r s9).2.2.2.2::R):=by
 have u:=hs.sb;have e:=λ(P0:List A5)(p:P0.length<=10000)(a:Option Addr)(w:World)(R:List HP)(h:Hp c w (bk b [v0,v1,Pt pl,Pt pk,v4,v5] 162::J5 d pl l::M1 d x::R))(hs:Sx za w a P0.length P0.length P0)=>iR (O2:=0) h o hs p m4;unfold fe;simp only;cases s9 with
 |true=>
  replace e:=e [⟨4,tx,0#16,Y3,X0,X0⟩,⟨6,tx,0#16,Y3,X0,X0⟩] Zb3;have m:AX tx true=[⟨4,tx,0#16,Y3,X0,X0⟩,⟨6,tx,0#16,Y3,X0,X0⟩]:=rfl;rw[m];obtain⟨f,j⟩:∃f,fL l x 0 [⟨4,tx,0#16,Y3,X0,X0⟩,⟨6,tx,0#16,Y3,X0,X0⟩]=f:=⟨_,rfl⟩;rw[j]at e⊢;by_cases i:f.1=0
  ·rw[V0 (show¬¬f.1=0 from λk=>k i)];refine R2 func421 O (I2 h O λb1 w h=>Q5 (I2 h O λb2 w h=>N1 (e _ _ _ (h.g [2,4,5] O) (h.Ib (E:=za) [⟨4,tx,0#16,Y3,X0,X0⟩,⟨6,tx,0#16,Y3,X0,X0⟩] 0 O O O)) λw h=>Mj ?_));replace h:=(h.g [5] O).L7;refine J3 h 0 O O O λw h=>U0 h 1 O O (N1 (gR (h.g [6] O) Zb9 m4) λw h=>?_);replace h:=Hp.Z5 (h.g [1] O);exact⟨rfl,h.q 7 [2,0,3,4,1] O⟩
  ·rw[S1 i];exact R2 func421 O (I2 h O λb1 w h=>Q5 (I2 h O λb2 w h=>N1 (e _ _ _ (h.g [2,4,5] O) (h.Ib (E:=za) [⟨4,tx,0#16,Y3,X0,X0⟩,⟨6,tx,0#16,Y3,X0,X0⟩] 0 O O O)) λw h=>xq ⟨rfl,h.q 7 [0,5,1,2,6] O⟩))
 |false=>
  replace e:=e [⟨5,tx,0#16,Y3,X0,X0⟩] Zb3;have m:AX tx false=[⟨5,tx,0#16,Y3,X0,X0⟩]:=rfl;rw[m];obtain⟨f,j⟩:∃f,fL l x 0 [⟨5,tx,0#16,Y3,X0,X0⟩]=f:=⟨_,rfl⟩;rw[j]at e⊢;by_cases i:f.1=0
  ·rw[V0 (show¬¬f.1=0 from λk=>k i)];refine R2 func421 O (I2 h O λb1 w h=>m5 (N1 (e _ _ _ (h.g [1,3,4] O) (h.Ib (E:=za) [⟨5,tx,0#16,Y3,X0,X0⟩] 0 O O O)) λw h=>Mj ?_));replace h:=(h.g [4] O).L7;refine J3 h 0 O O O λw h=>U0 h 1 O O (N1 (gR (h.g [5] O) Zb9 m4) λw h=>?_);replace h:=Hp.Z5 (h.g [1] O);exact⟨rfl,h.q 6 [2,0,3,4,1] O⟩
  ·rw[S1 i];exact R2 func421 O (I2 h O λb1 w h=>m5 (N1 (e _ _ _ (h.g [1,3,4] O) (h.Ib (E:=za) [⟨5,tx,0#16,Y3,X0,X0⟩] 0 O O O)) λw h=>xq ⟨rfl,h.q 6 [0,4,1,2,5] O⟩))
theorem yY{kp pl:Nat}(h:Hp c w (bk b [Pt kp,I me,Pt pl,Pt pk,v4,v5] 162::K1 kp k::T2 pk s::r5 pr r::R))(t:k.Ok)(m:F8 k.D0.A0 k.D0.F0 k.D0.L0):Cr 406 #[Pt b,I tx,Pt pr,I C0] w c (.tuple #[]) (bk b [Pt kp,I me,Pt pl,Pt pk,v4,v5] 162::K1 kp (Dv k me s tx r C0)::T2 pk s::r5 pr r::R):=by
 obtain⟨n,o,v,u⟩:=m;have f:=λ(w:World)(R:List HP)(h:Hp c w (bk b [Pt kp,I me,Pt pl,Pt pk,v4,v5] 162::K1 kp k::r5 pr r::R))=>afh (C0:=C0) h m4 m4;unfold Dv;simp only;generalize p:Decidable.decide (C0>=k.D0.E5 r.I1)=q at f⊢;by_cases i:r.z7=true∧r.Dn=false∧q=false
 ·rw[S1 i];obtain⟨i,e,rfl⟩:=i;refine R2 func406 O (N1 (f _ _ (h.g [0,1,3] O)) λw h=>?_);replace h:=(h.g [2] O).L7;refine U0 h 0 O O (BR.s9 Zb9 (U0 h 0 O O (BR.not (BR.no Zb9 (Q5 (U0 h 0 O O (N1 (xu (h.g [1,2] O) Zb9) λw h=>?_)))))));replace h:Hp _ _ (r5 _ (r)::_):=Hp.Z5 (h.g [2] O);exact⟨rfl,h.g [1,2,3] O⟩
 ·rw[V0 i];by_cases e:q=true∧s.N9 tx=3
  ·rw[S1 e];obtain⟨rfl,e⟩:=e;refine R2 func406 O (N1 (f _ _ (h.g [0,1,3] O)) λw h=>?_);replace h:=(h.g [2] O).L7;refine U0 h 0 O O (BR.O' (λl=>?_) λl=>?_)
   ·refine U0 h 0 O O (BR.not (BR.O' (λd=>?_) λd=>?_))
    ·exact abF
    ·exact abF
   ·refine m5 (m5 (Q5 (U0 h 1 O O (N1 (bp (h.g [3] O)) λw h=>mf (N1 (xu (h.g [2,3] O) Zb9) λw h=>?_)))));replace h:Hp _ _ (r5 _ (r)::_):=Hp.Z5 (h.g [3] O);exact⟨rfl,h.g [1,2,3] O⟩
  ·rw[V0 e];refine R2 func406 O (N1 (f _ _ (h.g [0,1,3] O)) λw h=>?_);replace h:=(h.g [2] O).L7;refine U0 h 0 O O (BR.O' (λl=>?_) λl=>?_)
   ·refine U0 h 0 O O (BR.not (BR.O' (λd=>?_) λd=>?_))
    ·refine m5 (BR.O' (λa=>?_) λa=>?_)
     ·refine U0 h 1 O O (N1 (bp (h.g [3] O)) λw h=>BR.eq (λj=>?_) λj=>?_)
      ·exact EU
      ·exact DU
     ·exact abD
    ·refine BR.not (BR.O' (λa=>?_) λa=>?_)
     ·refine BR.s9 Zb9 (U0 h 1 O O (N1 (bp (h.g [3] O)) λw h=>BR.eq (λj=>?_) λj=>?_))
      ·exact EU
      ·exact DU
     ·refine U0 h 0 O O (N1 (xu (h.g [1,2] O) Zb9) λw h=>?_);replace h:Hp _ _ (r5 _ (r)::_):=Hp.Z5 (h.g [2] O);refine⟨rfl,Hp.subst (h.g [1,2,3] O) ?_⟩;grind[]
   ·refine m5 (m5 (BR.O' (λd=>?_) λd=>?_))
    ·refine U0 h 1 O O (N1 (bp (h.g [3] O)) λw h=>BR.eq (λa=>?_) λa=>?_)
     ·exact EU
     ·exact DU
    ·exact abD
end
theorem EN{P Q:Prop}(q:Q)(f:Q->P:=by intro q;exact R2 func462 O (I2 h O λb1 w h=>wg ((h.g [2] O).w5) λP4 D3 h=>sv [0,1,2,3,4,5,6,7,8,10,9,11,12,13,14,15] (q b1 w P4 D3 h))):P:=f q
theorem acn{P Q:Prop}(q:Q)(f:Q->P:=by intro q;exact U0 h 0 O O (Wa (m5 (U0 h 2 O O (U0 h 2 O O (N1 (FA (h.g [3,4] O) Zb9) λw h=>Y6 h [0,1,2,53,4,5,6,57,8,9,10,11,12,13,15,14,66,117,18,19] λh=>U0 h 2 O O ⟨h,xq (U0 h 4 O O ⟨h,q w h⟩)⟩)))))):P:=f q
theorem abx{P:Prop}(h:P:=by replace h:Hp _ _ (M5 _ ({J0:=J0,ka:=tl,done:=dn,need:=nd,I1:=bg,N2:=dc,V3:=V3,Qc:=wn,G':=en})::_):=Hp.E3 (h.g [2,3] O);refine⟨rfl,Hp.subst (h.q 4 [1,0,2] O) ?_⟩;grind[]):P:=h
theorem CU{P:Prop}(h:P:=by refine⟨rfl,Hp.subst (h.q 4 [1,0,2] O) ?_⟩;grind[]):P:=h
section
theorem pY{kb:Nat}{r:T4}(h:Hp c w (bk b [Pt kb,v1,v2] 321::M5 pr r::K1 kb k::R))(A:k.Ok)(x:0<=m.E0∧m.E0<r.V3.length)(z:r.V3.length<=1000):Cr 462 #[Pt b,Pt pr,m.v,I C0] w c (.tuple #[]) (bk b [Pt kb,v1,v2] 321::M5 pr (tc k r m C0).1::K1 kb (tc k r m C0).2::R):=by
 obtain⟨J0,tl,dn,nd,bg,dc,V3,wn,en⟩:=r;simp only at x z;obtain⟨v,n⟩:∃v,i3 V3 m.E0.toNat=some v:=⟨V3[m.E0.toNat],by rw[Z0,d8]⟩;have hvd:V3.getD m.E0.toNat 0=v:=by rw[Z0]at n;rw[Xo,n];rfl
 have ajc:V3[m.E0.toNat]?.getD 0=v:=by rw[Xo]at hvd;exact hvd
 have C:=λ(w:World)(v1 v2:Value)(R:List HP)(h:Hp c w (bk b [Pt kb,v1,v2] 321::K1 kb k::R))=>FA (E0:=m.E0) (W0:=5) (tx:=m.tx) (H8:=0) (C0:=C0) h A;obtain⟨d,e⟩:∃d,(k.Z6 k.D0.A0 m.E0 ⟨5,m.E0,m.tx,0⟩ C0).2=d:=⟨_,rfl⟩;obtain⟨q,o⟩:∃q,Qe (W dn) m.E0=q:=⟨_,rfl⟩;have s:=λ(w:World)(R:List HP)(h:Hp c w R)=>SL (m:=dn) (p:=m.E0) h;rw[e]at C;rw[o]at s;by_cases t:dc=0
 ·subst t;by_cases j:v= -1
  ·have a:tc k ⟨J0,tl,dn,nd,bg,0,V3,wn,en⟩ m C0=(⟨J0,tl,dn,nd,bg,0,V3.set m.E0.toNat m.H8,wn,en⟩,d):=by
    unfold tc;simp[ajc,e,j]
   rw[a];refine EN λb1 w P4 D3 h=>?_;replace h:=h.drew;refine U0 h 0 O O (Q5 (U0 h 0 O O (U0 h 2 O O (jd h 1 O λb5 u l=>LD.qf h 1 O Zb9 Zb9 O (mf (Y6 h [0,1,2,4,6,3,5,57,8,109] λh=>U3 0 O O (U3 2 O O (U0 h 2 O O ⟨h,?_⟩))))))));refine jd h 1 O λb5 u l=>ST.qf (y:=m.H8) h 1 O l n O O O O O λw h=>U0 h 2 O O (U0 h 2 O O (N1 (FA (h.g [3,4] O) Zb9) λw h=>Y6 h [0,1,2,53,4,5,6,57,8,9,10,11,12,13,15,14,66,117,18,19] λh=>U0 h 2 O O ⟨h,m5 ⟨h,m5 ⟨h,?_⟩⟩⟩));refine m5 ?_;subst e;have hl9:(V3.set m.E0.toNat m.H8).length=V3.length:=Uk ..;have D:∀w',Hp c w' (bk pr [gb J0,gb tl,gb dn,gb nd,I bg,I 0,.slice P4 V3.length D3,.bool wn,.bool en] 325::so 3 O5 P4 D3 (V3.set m.E0.toNat m.H8)::bk b [Pt kb,v1,v2] 321::K1 kb (k.Z6 k.D0.A0 m.E0 ⟨5,m.E0,m.tx,0⟩ C0).2::R)->Hp c w' (bk pr [gb J0,gb tl,gb dn,gb nd,I bg,I 0,.slice P4 (V3.set m.E0.toNat m.H8).length D3,.bool wn,.bool en] 325::so 3 O5 P4 D3 (V3.set m.E0.toNat m.H8)::bk b [Pt kb,v1,v2] 321::K1 kb (k.Z6 k.D0.A0 m.E0 ⟨5,m.E0,m.tx,0⟩ C0).2::R):=by intro w' h;rw[hl9];exact h
   exact⟨rfl,(Hp.E3 (D _ (h.q 5 [2,3,0,1] O))).g [1] O⟩
  ·have a:tc k ⟨J0,tl,dn,nd,bg,0,V3,wn,en⟩ m C0=(⟨J0,tl,dn,nd,bg,0,V3,wn,en⟩,d):=by
    unfold tc;simp[ajc,e,j]
   rw[a];refine EN λb1 w P4 D3 h=>?_;replace h:=h.drew;refine U0 h 0 O O (Q5 (U0 h 0 O O (U0 h 2 O O (jd h 1 O λb5 u l=>LD.qf h 1 O Zb9 Zb9 O (Wa (U0 h 2 O O (U0 h 2 O O (N1 (FA (h.g [3,4] O) Zb9) λw h=>Y6 h [0,1,2,53,4,5,6,57,8,9,10,11,12,13,15,14,66,117,18,19] λh=>U0 h 2 O O ?_))))))));refine⟨h,m5 ⟨h,m5 ⟨h,m5 ?_⟩⟩⟩;replace h:Hp _ _ (M5 _ ({J0:=J0,ka:=tl,done:=dn,need:=nd,I1:=bg,N2:=0,V3:=V3,Qc:=wn,G':=en})::_):=Hp.E3 (h.g [2,3] O);exact CU
 ·by_cases i:m.H8=1∧q=false
  ·have a:tc k ⟨J0,tl,dn,nd,bg,dc,V3,wn,en⟩ m C0=(⟨J0,tl|||Lk m.E0,dn,nd,bg,dc,V3,wn,en⟩,d):=by
    unfold tc;simp[t,i.1,o,i.2,e]
   rw[a];obtain⟨i,rfl⟩:=i;refine EN λb1 w P4 D3 h=>?_;replace h:=h.drew;refine acn λw h=>?_;refine mf (U3 2 O O (U0 h 4 O O ⟨h,N1 (s _ _ h) λw h=>Q5 (Y6 h [0,1,2,4,3,55,6,7,8,9,110] λh=>U3 2 O O (U0 h 4 O O ⟨h,km (WR.bit16 ?_)⟩))⟩));refine bf.or16 O (J3 h 2 O O O λw h=>?_);replace h:=Hp.E3 (h.g [2,3] O);exact CU
  ·have a:tc k ⟨J0,tl,dn,nd,bg,dc,V3,wn,en⟩ m C0=(⟨J0,tl,dn,nd,bg,dc,V3,wn,en⟩,d):=by
    unfold tc;simp[t,e,o,i]
   rw[a];refine EN λb1 w P4 D3 h=>?_;replace h:=h.drew;refine acn λw h=>?_;refine BR.eq (λj=>?_) λj=>?_
   ·refine U3 2 O O (U0 h 4 O O ⟨h,N1 (s _ _ h) λw h=>BR.not (BR.O' (λE=>?_) λE=>?_)⟩)
    ·exact abx
    ·refine Y6 h [0,1,2,4,3,55,6,7,8,9,110] λh=>U3 2 O O (U0 h 4 O O ⟨h,km (WR.bit16 (bf.or16 O (J3 h 2 O O O λw h=>?_)))⟩);replace h:=Hp.E3 (h.g [2,3] O);exact CU
   ·refine⟨h,m5 ?_⟩;exact abx
end
theorem DN{P Q:Prop}(q:Q)(f:Q->P:=by intro q;exact R2 func463 O (I2 h O λb1 w h=>wg ((h.g [2] O).w5) λP4 D3 h=>Y6 h [0,1,2,4,3,55,6,7,8,9,110] λh=>U3 0 O O (U0 h 2 O O ⟨h,km (WR.bit16 (bf.or16 O (J3 h 0 O O O λw h=>Y6 h [0,1,2,4,3,55,6,7,8,9,110] λh=>q b1 P4 D3 w h)))⟩))):P:=f q
theorem CN{P Q:Prop}(q:Q)(f:Q->P:=by intro q;exact U3 0 O O (U0 h 2 O O ⟨h,km (WR.bit16 (bf.yG O (J3 h 0 O O O λw h=>sv [0,1,2,3,4,5,6,7,8,9,10,11,12,13,14,16,17,18,15,19,20,21,22] (q w h))))⟩)):P:=f q
theorem abw{P:Prop}(h:P:=by replace h:=Hp.E3 h;refine⟨rfl,Hp.subst (h.q 5 [2,0,3,4] O) ?_⟩;simp[*]):P:=h
section
theorem oY{pl:Nat}{r:T4}(h:Hp c w (bk b [v0,Pt pl,v2] 321::M5 pr r::J5 d pl l::M1 d x::R))(D:s6 x l S0)(G:0<=m.E0):Cr 463 #[Pt b,Pt pr,m.v] w c (.tuple #[]) (bk b [v0,Pt pl,v2] 321::M5 pr (Re l x r m).1::J5 d pl (Re l x r m).2.1::M1 d (Re l x r m).2.2::R):=by
 have s:=D.sj;have H:=s.size;have J:=s.L4;have hb3:=s.X9;obtain⟨J0,o,p,nd,bg,u,i,e,t⟩:=r;obtain⟨y,z⟩:∃y,l.append x [⟨6,m.tx,0#16,Y3,X0,X0⟩] 0=y:=⟨_,rfl⟩;have A:=λ(a:Option Addr)(w:World)(R:List HP)(h:Hp c w (J5 d pl l::M1 d x::R))(hs:Sx za w a 1 1 [⟨6,m.tx,0#16,Y3,X0,X0⟩])=>cR (O2:=0) (P0:=[⟨6,m.tx,0#16,Y3,X0,X0⟩]) h m4 hb3 hs Zb3 m4 m4;rw[z]at A;obtain⟨dn',k⟩:∃dn',p|||Lk m.E0=dn':=⟨_,rfl⟩
 obtain⟨tl',n⟩:∃tl',o&&& ~~~(Lk m.E0)=tl':=⟨_,rfl⟩;by_cases C:u=2
 ·subst C;cases t with
  |true=>
   have j:Re l x ⟨J0,o,p,nd,bg,2,i,e,true⟩ m=(⟨J0,tl',dn',nd,bg,2,i,e,true⟩,l,x):=by unfold Re;simp[k,n]
   rw[j];refine DN λb1 P4 D3 w h=>?_;refine CN λw h=>?_;replace h:=h.drew;refine U0 h 0 O O (m5 (U0 h 0 O O (Q5 (Q5 ?_))));exact abw
  |false=>
   by_cases F:((nd&&& ~~~dn').toNat:Int)=0
   ·have j:Re l x ⟨J0,o,p,nd,bg,2,i,e,false⟩ m=(⟨J0,tl',dn',nd,bg,2,i,e,decide (y.1=0)⟩,y.2.1,y.2.2):=by
     unfold Re;simp only[k,n];rw[V0 Zb7,z]
    rw[j];subst k n;refine DN λb1 P4 D3 w h=>?_;refine CN λw h=>?_;replace h:=h.drew;refine U0 h 0 O O (m5 (U0 h 0 O O (m5 (U0 h 0 O O (U0 h 0 O O (bf.yG O (Mj (Y6 h [0,1,2,3,5,4,56,7,58,109,10,11,12,113] λh=>U3 3 O O (U0 h 2 O O ⟨h,?_⟩)))))))));refine I2 h O λb2 w h=>⟨h.q 7 [1,2,3,4,5,6] O,N1 (A _ _ _ (h.g [5,6] O) (h.Ib (E:=za) [⟨6,m.tx,0#16,Y3,X0,X0⟩] 0 O O O)) λw h=>J3 h 3 O O O λw h=>?_⟩;replace h:=Hp.E3 (h.g [3,4] O);exact⟨rfl,h.q 6 [5,0,1,2] O⟩
   ·have j:Re l x ⟨J0,o,p,nd,bg,2,i,e,false⟩ m=(⟨J0,tl',dn',nd,bg,2,i,e,false⟩,l,x):=by
     unfold Re;simp only[k,n];rw[S1 (.inr (.inr F))]
    rw[j];subst k n;refine DN λb1 P4 D3 w h=>?_;refine CN λw h=>?_;replace h:=h.drew;refine U0 h 0 O O (m5 (U0 h 0 O O (m5 (U0 h 0 O O (U0 h 0 O O (bf.yG O (xq ?_)))))));replace h:=Hp.E3 h;exact⟨rfl,h.q 5 [2,0,3,4] O⟩
 ·have j:Re l x ⟨J0,o,p,nd,bg,u,i,e,t⟩ m=(⟨J0,tl',dn',nd,bg,u,i,e,t⟩,l,x):=by
   unfold Re;simp only[k,n];rw[S1 (.inl C)]
  rw[j];refine DN λb1 P4 D3 w h=>?_;refine CN λw h=>?_;replace h:=h.drew;refine U0 h 0 O O (xq (Q5 (Q5 ?_)));exact abw
end
theorem acm{P Q:Prop}(q:Q)(f:Q->P:=by intro q;exact R2 func465 O (N1 (hY _ _ (h.g [1] O)) λw h=>I2 h O λb1 w h=>mf (wg ((h.g [1] O).w5) λP4 D3 h=>U0 h 0 O O (Jc.at0 Zb4 (J3 h 2 O O O λw h=>I2 h O λb2 w h=>q b1 P4 D3 b2 w h))))):P:=f q
section
theorem ZQ{pl:Nat}{r:T4}(h:Hp c w (bk b [v0,Pt pl,v2] 321::M5 pr r::J5 d pl l::M1 d x::R))(p:s6 x l S0)(n:r.V3.length<=1000):Cr 465 #[Pt b,I tx,Pt pr] w c (.bool (Fb l x tx r).1) (bk b [v0,Pt pl,v2] 321::M5 pr (Fb l x tx r).2.1::J5 d pl (Fb l x tx r).2.2.1::M1 d (Fb l x tx r).2.2.2::R):=by
 have o:=p.sj;have z:=o.size;have A:=o.L4;have hb3:=o.X9;have hY:=λ(w:World)(R:List HP)(h:Hp c w (M5 pr r::R))=>RL h n;unfold Fb;simp only;obtain⟨j,t⟩:∃j,r.s9=j:=⟨_,rfl⟩;have i:=λ(P0:List A5)(n:P0.length<=10000)(a:Option Addr)(cap:Nat)(w:World)(R:List HP)(h:Hp c w (J5 d pl l::M1 d x::R))(hs:Sx za w a P0.length cap P0)=>cR (O2:=4) h m4 hb3 hs n m4 m4;have hap:=λ(P0:List A5)e=>(p.gI (P0:=P0) (O2:=4) e).M6;rw[t]at hY⊢;unfold adJ;rw[t];unfold fL;simp only;by_cases s:(j.toNat:Int)=0
 ·rw[S1 s];replace i:=i [⟨2,tx,r.J0,Y3,X0,X0⟩,⟨4,tx,0#16,Y3,X0,X0⟩,⟨6,tx,0#16,Y3,X0,X0⟩] Zb3;replace hap:=hap [⟨2,tx,r.J0,Y3,X0,X0⟩,⟨4,tx,0#16,Y3,X0,X0⟩,⟨6,tx,0#16,Y3,X0,X0⟩];obtain⟨y,m⟩:∃y,l.append x [⟨2,tx,r.J0,Y3,X0,X0⟩,⟨4,tx,0#16,Y3,X0,X0⟩,⟨6,tx,0#16,Y3,X0,X0⟩] 4=y:=⟨_,rfl⟩;rw[m]at i hap⊢;by_cases k:y.1=0
  ·simp only[if_pos k];rw[V0 Zb3];refine acm λb1 P4 D3 b2 w h=>?_;replace h:=Hp.vg (E:=za) [⟨2,tx,r.J0,Y3,X0,X0⟩,⟨4,tx,0#16,Y3,X0,X0⟩] (h.g [3] O) O (by simp[maxLen]);refine A4.Yb (u:=(⟨6,tx,0#16,Y3,X0,X0⟩:A5)) (Ca.of (w9:=56) kn O O O O O O) h 0 O O 1 O O O Zb3 (λ_ _=>rfl) λa2 v w h=>U0 h 4 O O (N1 (i _ _ _ _ (h.g [5,6] O) (h.Z4 0 O)) λw h=>Mj (U0 h 6 O O (N1 (IA h aol) λw h=>J3 h 4 O O O λw h=>J3 h 4 O O O λw h=>?_)));replace h:=Hp.E3 (h.g [4,5] O);exact⟨rfl,h.q 6 [5,0,1,2] O⟩
  ·simp only[if_neg k];rw[S1 k];refine acm λb1 P4 D3 b2 w h=>?_;replace h:=Hp.vg (E:=za) [⟨2,tx,r.J0,Y3,X0,X0⟩,⟨4,tx,0#16,Y3,X0,X0⟩] (h.g [3] O) O (by simp[maxLen]);refine A4.Yb (u:=(⟨6,tx,0#16,Y3,X0,X0⟩:A5)) (Ca.of (w9:=56) kn O O O O O O) h 0 O O 1 O O O Zb3 (λ_ _=>rfl) λa2 v w h=>U0 h 4 O O (N1 (i _ _ _ _ (h.g [5,6] O) (h.Z4 0 O)) λw h=>xq ?_);replace h:Hp _ _ (M5 _ (r)::_):=Hp.E3 (h.g [4,5] O);exact⟨rfl,h.q 6 [5,0,1,2] O⟩
 ·rw[V0 s];replace i:=i [⟨2,tx,j,Y3,X0,X0⟩,⟨4,tx,0#16,Y3,X0,X0⟩] Zb3;replace hap:=hap [⟨2,tx,j,Y3,X0,X0⟩,⟨4,tx,0#16,Y3,X0,X0⟩];obtain⟨y,m⟩:∃y,l.append x [⟨2,tx,j,Y3,X0,X0⟩,⟨4,tx,0#16,Y3,X0,X0⟩] 4=y:=⟨_,rfl⟩;rw[m]at i hap⊢;by_cases k:y.1=0
  ·simp only[if_pos k];rw[V0 Zb3];refine R2 func465 O (N1 (hY _ _ (h.g [1] O)) λw h=>I2 h O λb1 w h=>Wa (U0 h 2 O O (N1 (i _ _ _ _ (h.g [3,4] O) (h.Ib (E:=za) [⟨2,tx,j,Y3,X0,X0⟩,⟨4,tx,0#16,Y3,X0,X0⟩] 0 O O O)) λw h=>Mj (U0 h 4 O O (N1 (IA h aol) λw h=>wg ((h.g [3] O).w5) λP4 D3 h=>J3 h 0 O O O λw h=>J3 h 0 O O O λw h=>?_)))));replace h:=Hp.E3 h;exact⟨rfl,h.q 5 [4,0,1,2] O⟩
  ·simp only[if_neg k];rw[S1 k];exact R2 func465 O (N1 (hY _ _ (h.g [1] O)) λw h=>I2 h O λb1 w h=>Wa (U0 h 2 O O (N1 (i _ _ _ _ (h.g [3,4] O) (h.Ib (E:=za) [⟨2,tx,j,Y3,X0,X0⟩,⟨4,tx,0#16,Y3,X0,X0⟩] 0 O O O)) λw h=>xq ⟨rfl,h.q 5 [4,3,0,1] O⟩)))
end
theorem WU{P Q:Prop}(q:Q)(f:Q->P:=by intro q;exact N1 (RL h aol) λw h=>wg h.w5 λZr Ek h=>J3 h 0 O O O λw h=>q Zr Ek w h):P:=f q
theorem VU{P Q:Prop}(q:Q)(f:Q->P:=by intro q;exact R2 func458 O (wg ((h.g [1] O).w5) λP4 D3 h=>J3 h 0 O O O λw h=>U0 h 0 O O (Q5 (q P4 D3 w h)))):P:=f q
theorem abv{P:Prop}(h:P:=by refine WU λZr Ek w h=>?_;replace h:=Hp.E3 h;replace h:=Hp.F3 (h.g [2,1,3,4] O);refine⟨rfl,Hp.subst (h.g [2,1] O) ?_⟩;grind[]):P:=h
theorem abu{P:Prop}(h:P:=by replace h:=Hp.E3 h;replace h:=Hp.F3 (h.g [2,1,3,4] O);exact⟨rfl,h.g [2,1] O⟩):P:=h
section
theorem qY{pl kb:Nat}{r:T4}(h:Hp c w (bk b [Pt kb,Pt pl,v2] 321::M5 pr r::K1 kb k::J5 d pl l::M1 d x::R))(E:s6 x l S0)(z:r.V3.length<=1000):Cr 458 #[Pt b,I tx,Pt pr] w c (.tuple #[]) (bk b [Pt kb,Pt pl,v2] 321::M5 pr (je l x tx r).1::K1 kb {k with R4:=(k.R4.put tx (Decidable.decide ((je l x tx r).1.N2=2))).2}::J5 d pl (je l x tx r).2.1::M1 d (je l x tx r).2.2::R):=by
 obtain⟨J0,a,j,nd,bg,J,V3,u,i⟩:=r;simp only at z;obtain⟨v,hag⟩:∃v,T4.Gh ⟨J0,a,j,nd,bg,1,V3,u,i⟩=v:=⟨_,rfl⟩;have hAg:=λ(w:World)(R:List HP)(h:Hp c w (M5 pr ⟨J0,a,j,nd,bg,1,V3,u,i⟩::R))=>afu h z;rw[hag]at hAg;have H:=λ(w:World)(R:List HP)(h:Hp c w (K1 kb k::R))=>ajT h;unfold je;simp only[hag];by_cases e:u=true∧v=true
 ·simp only[if_pos e];obtain⟨rfl,rfl⟩:=e;have hLg:=λ(v0 v2:Value)(w:World)(R:List HP)(h:Hp c w (bk b [v0,Pt pl,v2] 321::M5 pr ⟨J0,a,j,nd,bg,1,V3,true,i⟩::J5 d pl l::M1 d x::R))=>ZQ (tx:=tx) h E z;have hlv:(Fb l x tx ⟨J0,a,j,nd,bg,1,V3,true,i⟩).2.1.V3=V3:=by unfold Fb;simp only;split<;>rfl
  obtain⟨y,C⟩:∃y,Fb l x tx ⟨J0,a,j,nd,bg,1,V3,true,i⟩=y:=⟨_,rfl⟩;rw[C]at hLg hlv⊢;obtain⟨D,⟨anm,tl',dn',nd',bg',dc',A,wn',en'⟩,l',G⟩:=y;simp only at hLg hlv⊢;subst hlv;cases D with
  |true=>
   simp only[if_true];refine VU λP4 D3 w h=>?_;replace h:=Hp.E3 h;refine N1 (hAg _ _ h) λw h=>Q5 (N1 (ZQ (h.g [1,0,3,4] O) Zb9 Zb9) λw h=>BR.O' (λe=>?_) λe=>?_)
   ·refine wg ((h.g [1] O).w5) λn m h=>J3 h 0 O O O λw h=>Y6 h [0,1,2,5,6,7,8,3,9,10,54,111] λh=>U3 2 O O (U3 0 O O (pg ((h.g [5] O).d5) λt o s p h=>N1 (Mp h) λw h=>⟨by replace h:Hp _ _ (K1 _ (k)::_):=Hp.F3 (h);exact h.g [1,2,3,4,5] O,N1 (GA (h.g [1] O)) λw h=>?_⟩));replace h:=Hp.E3 (h.g [4,5] O);refine WU λZr Ek w h=>?_;replace h:=Hp.E3 h;replace h:=Hp.F3 (h.g [2,1,3,4] O);refine⟨rfl,Hp.subst (h.g [2,1] O) ?_⟩;simp[*]
   ·refine wg ((h.g [1] O).w5) λn m h=>Y6 h [0,1,2,5,6,7,8,3,9,10,54,111] λh=>U3 2 O O (U3 0 O O (pg ((h.g [5] O).d5) λt o s p h=>N1 (Mp h) λw h=>⟨Zb7,N1 (GA (h.g [1] O)) λw h=>?_⟩));replace h:Hp _ _ (M5 _ ((Fb l x tx {J0:=J0,ka:=a,done:=j,need:=nd,I1:=bg,N2:=1,V3:=A,Qc:=true,G':=i}).snd.fst)::_):=Hp.E3 (h.g [4,5] O);exact abv
  |false=>
   simp only[Bool.false_eq_true,if_false];refine VU λP4 D3 w h=>?_;replace h:=Hp.E3 h;refine N1 (hAg _ _ h) λw h=>Q5 (N1 (ZQ (h.g [1,0,3,4] O) Zb9 Zb9) λw h=>BR.O' (λe=>?_) λe=>?_)
   ·refine wg ((h.g [1] O).w5) λn m h=>J3 h 0 O O O λw h=>Y6 h [0,1,2,5,6,7,8,3,9,10,54,111] λh=>U3 2 O O (U3 0 O O (pg ((h.g [5] O).d5) λt o s p h=>N1 (Mp h) λw h=>⟨Zb7,N1 (GA (h.g [1] O)) λw h=>?_⟩));replace h:=Hp.E3 (h.g [4,5] O);exact abv
   ·refine wg ((h.g [1] O).w5) λn m h=>Y6 h [0,1,2,5,6,7,8,3,9,10,54,111] λh=>U3 2 O O (U3 0 O O (pg ((h.g [5] O).d5) λt o s p h=>N1 (Mp h) λw h=>⟨by replace h:Hp _ _ (K1 _ (k)::_):=Hp.F3 (h);exact h.g [1,2,3,4,5] O,N1 (GA (h.g [1] O)) λw h=>?_⟩));replace h:Hp _ _ (M5 _ ((Fb l x tx {J0:=J0,ka:=a,done:=j,need:=nd,I1:=bg,N2:=1,V3:=A,Qc:=true,G':=i}).snd.fst)::_):=Hp.E3 (h.g [4,5] O);refine WU λZr Ek w h=>?_;replace h:=Hp.E3 h;replace h:=Hp.F3 (h.g [2,1,3,4] O);refine⟨rfl,Hp.subst (h.g [2,1] O) ?_⟩;rw[C];rfl
 ·simp only[if_neg e];simp only[Bool.false_eq_true,if_false];cases u with
  |false=>refine R2 func458 O (wg ((h.g [1] O).w5) λP4 D3 h=>J3 h 0 O O O λw h=>U0 h 0 O O (m5 (m5 (m5 (Y6 h [0,1,2,5,6,7,8,3,9,10,54,111] λh=>U3 2 O O (U3 0 O O (pg ((h.g [3] O).d5) λt o s p h=>N1 (Mp h) λw h=>?_)))))));refine⟨by replace h:Hp _ _ (K1 _ (k)::_):=Hp.F3 (h);exact h.g [1,2,3] O,N1 (GA (h.g [1] O)) λw h=>?_⟩;replace h:=Hp.E3 (h.g [4,5] O);refine N1 (RL h Zb9) λw h=>wg h.w5 λn m h=>J3 h 0 O O O λw h=>?_;exact abu
  |true=>
   have F:v=false:=by simpa using e
   subst F;refine VU λP4 D3 w h=>?_;replace h:=Hp.E3 h;refine N1 (hAg _ _ h) λw h=>m5 (m5 (wg h.w5 λn m h=>Y6 h [0,1,2,5,6,7,8,3,9,10,54,111] λh=>U3 2 O O (U3 0 O O (pg ((h.g [3] O).d5) λt o s p h=>N1 (Mp h) λw h=>⟨by replace h:Hp _ _ (K1 _ (k)::_):=Hp.F3 (h);exact h.g [1,2,3] O,N1 (GA (h.g [1] O)) λw h=>?_⟩))));replace h:Hp _ _ (M5 _ ({J0:=J0,ka:=a,done:=j,need:=nd,I1:=bg,N2:=1,V3:=V3,Qc:=true,G':=i})::_):=Hp.E3 (h.g [4,5] O);refine N1 (RL h Zb9) λw h=>wg h.w5 λZr Ek h=>J3 h 0 O O O λw h=>?_;exact abu
end
def Lb(s a:E1):Prop:=Qo s->∀tx w',K0 a.G0 tx=some w'->∃w,K0 s.G0 tx=some w∧(w'.B4=w.B4∧w'.Ge=w.Ge∨(w.B4=1∧w'.B4=2))
theorem Lb.refl(s:E1):Lb s s:=λ_ _ w h=>⟨w,h,.inl ⟨rfl,rfl⟩⟩
theorem Lb.trans{a b c:E1}(i:Calm a b)(h:Lb a b)(k:Lb b c):Lb a c:=λd tx w f=>by obtain⟨v,g,e⟩:=k (i d).1 tx w f;obtain⟨u,j,l⟩:=h d tx v g<;>grind
theorem Lb.set{w w':I7}{l:L3}(b:K0 s.G0 tx=some w)(h:w'.B4=w.B4∧w'.Ge=w.Ge∨(w.B4=1∧w'.B4=2)):Lb s {s with G0:=R1 s.G0 tx w',S3:=l}:=by
 intro _ j v a;have a:K0 (R1 s.G0 tx w') j=some v:=a;by_cases c:j=tx
 ·simp_all[G1]
 simp_all[Y0]
theorem Lb.K7{b:List E2}:Lb s (E1.K7 {s with N0:=b} tx):=by
 intro h j v a;have a:K0 (U7 s.G0 tx) j=some v:=a;by_cases c:j=tx
 ·simp_all[V8,Qo.G0]
 simp_all[C9]
theorem Lb.qb(s:E1)(tx e:Int):Lb s (s.qb tx e).2:=by
 unfold E1.qb;split
 ·exact Lb.refl s
 ·rename_i w a;split
  ·exact Lb.refl s
  simp_all[Lb.set]
theorem Lb.Q9(s:E1)(C0:Int):Lb s (s.Q9 C0).2:=by
 unfold E1.Q9;simp only;generalize s.S3.Q9 C0=l;induction l generalizing s with
 |nil=>exact Lb.refl s
 |cons x l a=>grind[Lb.trans,Calm.qb,Lb.qb]
theorem Lb.t7(s:E1){op:Op}(c:M7 op.n)(C0:Int):Lb s (s.t7 op C0).2:=by
 unfold E1.t7;cases d:K0 s.G0 op.tx with
 |none=>exact Lb.refl s
 |some w=>
  simp only;split
  ·exact Lb.refl s
  rename_i h0;have g:=Fu (Hs h0);split
  ·exact Lb.qb s _ _
  generalize(s.S3.ask op.tx op.key (decide (¬op.W0=1)) C0)=a;have b:Lb s {s with S3:=a.2}:=λ_ _ w h=>⟨w,h,.inl ⟨rfl,rfl⟩⟩;have cl:=Calm.S3 s a.2;split
  ·exact b
  split
  ·exact b
  ·have f:∀v:Ba,M7 v.n->Lb {s with S3:=a.2} (E1.Yg {s with S3:=a.2} op.tx w op.key v).2:=by
    intro v _;unfold E1.Yg;split
    ·exact Lb.refl _
    ·simp_all[Lb.set]
   have e:M7 (if op.W0=2 then(⟨true,op.n⟩:Ba)else X0).n:=by
    split
    ·exact c
    ·exact M7.zero
   grind[Lb.trans,Calm.Yg,Lb.qb]
theorem qF(h:∀w,K0 s.G0 tx=some w->w.B4=2)(J0:BitVec 16):(s.Y4 tx J0).1=0:=by unfold E1.Y4<;>grind
theorem RN{j:Int}(a:j≠tx)(J0:BitVec 16):K0 (s.Y4 tx J0).2.2.2.G0 j=K0 s.G0 j:=by
 unfold E1.Y4;cases b:K0 s.G0 tx with
 |none=>rfl
 |some w=>
  simp only;split;·rfl
  split;·rfl
  split;·exact C9 a
  split;·exact C9 a
  exact Y0 a
theorem sQ(hs:Qo s){J0:BitVec 16}{w:I7}(h:K0 (s.Y4 tx J0).2.2.2.G0 tx=some w):w.B4=3∨(J0.toNat:Int)=0:=by
 unfold E1.Y4 at h;cases a:K0 s.G0 tx with
 |none=>simp_all
 |some v=>
  rw[a]at h;simp only at h;split at h
  ·simp_all
  split at h
  ·omega
  split at h
  ·have h:K0 (U7 s.G0 tx) tx=some w:=h;grind[V8,Qo.G0]
  split at h
  ·have h:K0 (U7 s.G0 tx) tx=some w:=h;grind[V8,Qo.G0]
  ·have h:K0 (R1 s.G0 tx {v with B4:=3}) tx=some w:=h;grind[G1]
structure RE(p:d4):Prop where
 st:∀tx w,K0 p.U1.G0 tx=some w->w.B4=1∧w.Ge=0∨w.B4=2∨w.B4=3
 Y9:∀tx w r,K0 p.U1.G0 tx=some w->¬w.B4=3->K0 p.B0 tx=some r->r.z7=false
 Y4:∀tx r,K0 p.B0 tx=some r->r.z7=false->r.Y4=0
 J0:∀tx r,K0 p.B0 tx=some r->¬(r.J0.toNat:Int)=0
structure PB(T:Int)(p:d4):Prop where
 G0:∀w,K0 p.U1.G0 T=some w->w.B4=2
 B0:∀r,K0 p.B0 T=some r->r.Y4=0
theorem RE.mJ(h:RE p){b:E1}(hs:Qo p.U1)(c:Lb p.U1 b):RE {p with U1:=b}:=by
 refine⟨?_,?_,h.Y4,h.J0⟩
 ·intro tx w a;obtain⟨v,d,e⟩:=c hs tx w a<;>grind[st]
 intro tx w r a g f;obtain⟨v,d,e⟩:=c hs tx w a<;>grind[Y9]
theorem PB.mJ(h:PB T p){a:E1}(hs:Qo p.U1)(d:Lb p.U1 a):PB T {p with U1:=a}:=by
 refine⟨?_,h.B0⟩
 intro w b
 obtain⟨v,c,e⟩:=d hs T w b
 have:=h.G0 v c
 omega
theorem RE.row(h:RE p)(e:K0 p.B0 tx=some r)(g:r'.z7=r.z7)(f:r'.Y4=r.Y4)(b:r'.J0=r.J0):RE {p with B0:=R1 p.B0 tx r'}:=by
 refine⟨h.st,?_,?_,?_⟩
 ·intro j w q c b a;have a:K0 (R1 p.B0 tx r') j=some q:=a;grind[G1,Y9,Y0]
 ·intro j q a d;have a:K0 (R1 p.B0 tx r') j=some q:=a;grind[G1,Y4,Y0]
 ·intro j q a;have a:K0 (R1 p.B0 tx r') j=some q:=a;grind[G1,J0,Y0]
theorem PB.row(h:PB T p)(b:K0 p.B0 tx=some r)(c:r'.Y4=r.Y4):PB T {p with B0:=R1 p.B0 tx r'}:=by refine⟨h.G0,?_⟩;intro q a;have a:K0 (R1 p.B0 tx r') T=some q:=a;grind[G1,B0,Y0]
theorem Pj{x:PW}(hs:Qo x.E0.U1)(tx:Int)(r:E6):∃c v l,(x.Y4 tx r).E0={x.E0 with U1:=c,X9:=l,B0:=R1 x.E0.B0 tx {r with Y4:=v,z7:=true}}∧(∀j,j≠tx->K0 c.G0 j=K0 x.E0.U1.G0 j)∧(∀w,K0 c.G0 tx=some w->w.B4=3∨(r.J0.toNat:Int)=0)∧((∀w,K0 x.E0.U1.G0 tx=some w->w.B4=2)->v=0∧∀w,K0 c.G0 tx=some w->w.B4=2):=by
 have k:∀j,j≠tx->K0 (x.E0.U1.Y4 tx r.J0).2.2.2.G0 j=K0 x.E0.U1.G0 j:=λj e=>RN e r.J0;have i:∀w,K0 (x.E0.U1.Y4 tx r.J0).2.2.2.G0 tx=some w->w.B4=3∨(r.J0.toNat:Int)=0:=λw a=>sQ hs a;have g:(∀w,K0 x.E0.U1.G0 tx=some w->w.B4=2)->∀w,K0 (x.E0.U1.Y4 tx r.J0).2.2.2.G0 tx=some w->w.B4=2:=by
  intro hb w a;unfold E1.Y4 at a;cases b:K0 x.E0.U1.G0 tx with
  |none=>simp_all
  |some v=>
   have m:=hb v b;rw[b]at a;simp only at a;rw[V0 m4]at a;split at a
   ·simp_all
   ·rw[S1 (.inl m)]at a;have a:K0 (U7 x.E0.U1.G0 tx) tx=some w:=a;simp_all[V8,Qo.G0]
 unfold PW.Y4;simp only;by_cases b:(if¬(x.E0.U1.Y4 tx r.J0).2.2.1=0 then(0:Int)else(x.E0.U1.Y4 tx r.J0).1)=1
 ·have hnb:¬∀w,K0 x.E0.U1.G0 tx=some w->w.B4=2:=by
   intro hb;rw[qF hb]at b;split at b<;>simp at b
  rw[S1 b];unfold PW.Z8;simp only;by_cases h0:(x.E0.X9.append x.M6 (x.E0.U1.Y4 tx r.J0).2.1 12).1=0
  ·simp only[if_pos h0,not_true_eq_false,if_false];grind
  ·simp only[if_neg h0];rw[S1 h0,ki h0];obtain⟨w,a⟩:∃w,K0 (x.E0.U1.Y4 tx r.J0).2.2.2.G0 tx=some w:=by
    rcases Ip x.E0.U1 tx r.J0 with⟨q,_⟩|⟨w,a,_,_,_,q⟩
    ·omega
    simp_all[G1]
   refine⟨_,_,_,rfl,?_,?_,λhb=>absurd hb hnb⟩
   ·intro j e;rw[Gt a];show K0 (U7 _ tx) j=_;simp_all[C9]
   ·intro f d;rw[Gt a]at d;have d:K0 (U7 (x.E0.U1.Y4 tx r.J0).2.2.2.G0 tx) tx=some f:=d;have n:((x.E0.U1.Y4 tx r.J0).2.2.2.G0.map (·.1)).Nodup:=by
     rcases Ip x.E0.U1 tx r.J0 with⟨_,q⟩|⟨w,a,_,_,_,q⟩
     ·omega
     ·grind[u9,Qo.G0]
    simp_all[V8]
 ·rw[V0 b];refine⟨_,_,_,rfl,k,i,λhb=>⟨?_,g hb⟩⟩;simp_all[qF]
theorem RE.uQ{x:PW}(h:RE x.E0)(hs:Qo x.E0.U1)(d:K0 x.E0.B0 tx=some r):RE (x.Y4 tx r).E0:=by
 obtain⟨b,v,l,e,k,i,_⟩:=Pj hs tx r;rw[e];have f:=h.J0 tx r d;refine⟨?_,?_,?_,?_⟩
 ·intro j w a;have a:K0 b.G0 j=some w:=a;grind[st]
 ·intro j w q a g c;have c:K0 (R1 x.E0.B0 tx {r with Y4:=v,z7:=true}) j=some q:=c;have a:K0 b.G0 j=some w:=a;grind[Y0,Y9]
 ·grind[Y4,G1,Y0]
 grind[G1,Y0,J0]
theorem PB.uQ{x:PW}(h:PB T x.E0)(hs:Qo x.E0.U1)(tx:Int)(r:E6):PB T (x.Y4 tx r).E0:=by
 obtain⟨b,v,l,e,i,g,d⟩:=Pj hs tx r;rw[e];by_cases c:T=tx
 ·subst c;obtain⟨j,f⟩:=d h.G0;refine⟨f,?_⟩;simp_all[G1]
 ·refine⟨?_,?_⟩
  ·intro w a;have a:K0 b.G0 T=some w:=a;grind[G0]
  grind[Y0,B0]
def Ze(F:End->P9->Prop)(k:J2):Prop:=∀x∈k.ways,(∀m∈x.2.r9,F x.1 m)∧∀m∈x.2.box.rd,F x.1 m
section
theorem Ze.way(h:Ze F k){e:End}{w w':Way}(b:K0 k.ways e=some w)(f:∀m∈w'.r9,m∈w.r9∨F e m)(d:∀m∈w'.box.rd,m∈w.box.rd∨F e m):Ze F {k with ways:=R1 k.ways e w'}:=by
 intro x a;have c:=h _ (Q7 b);rcases Sa a with rfl|a
 ·grind
 ·exact h x a
theorem Ze.R4(h:Ze F k)(g:M9):Ze F {k with R4:=g}:=h
theorem Ze.Z6(h:Ze F k){to:Int}(c:∀e:End,e=(if k.Ia N3 then⟨to,0⟩else⟨N3,1⟩)->e.ra m=true->F e m):Ze F (k.Z6 N3 to m t).2:=by
 unfold J2.Z6;split;·exact h
 split;·exact h
 split;·exact h
 simp only;generalize f:(if k.Ia N3 then(⟨to,0⟩:End)else⟨N3,1⟩)=e at c;split;·exact h
 rename_i d;split;·exact h
 rename_i w b;refine h.way b (λx a=>?_) (λx a=> .inl a);grind
theorem TA{to:Int}:(k.Z6 N3 to m t).2.R4=k.R4∧(k.Z6 N3 to m t).2.D0=k.D0∧(k.Z6 N3 to m t).2.Kd=k.Kd∧(k.Z6 N3 to m t).2.all=k.all:=by unfold J2.Z6<;>grind
theorem Ze.Za(h:Ze F k)(E0:Int)(up:Bool):Ze F (k.Za E0 up).2∧∀m∈(k.Za E0 up).1,F ⟨E0,Ec up⟩ m:=by
 unfold J2.Za;split
 ·simp[*]
 ·rename_i w b;exact⟨h.way b (λm a=>(by cases a)) (λm a=> .inl a),(h _ (Q7 b)).1⟩
theorem GO:(k.Za E0 up).2.R4=k.R4∧(k.Za E0 up).2.D0=k.D0∧(k.Za E0 up).2.Kd=k.Kd∧(k.Za E0 up).2.all=k.all:=by unfold J2.Za<;>grind
theorem Ze.A9(h:Ze F k)(c:F ⟨E0,Ec up⟩ m):Ze F (k.A9 E0 up m).2:=by
 unfold J2.A9;split;·exact h
 rename_i w b;split;·exact h
 refine h.way b (λx a=> .inl a) λx a=>?_;rcases QK x a with a|rfl<;>grind
theorem OK:(k.A9 E0 up m).2.R4=k.R4∧(k.A9 E0 up m).2.D0=k.D0∧(k.A9 E0 up m).2.Kd=k.Kd∧(k.A9 E0 up m).2.all=k.all:=by unfold J2.A9<;>grind
theorem Ze.J6(h:Ze F k)(N3 E0 i t:Int):Ze F (k.J6 N3 E0 i t).2.2∧((k.J6 N3 E0 i t).2.1=0->F ⟨E0,Ec (k.Ia N3)⟩ (k.J6 N3 E0 i t).1):=by
 unfold J2.J6;split
 ·simp[*]
 rename_i w b;split
 ·simp[*]
 split
 ·simp[*]
 simp only;refine⟨h.way b (λx a=> .inl a) (λx a=> .inl (mv.1 x a)),λe=>?_⟩;exact(h _ (Q7 b)).2 _ (mv.2 e)
theorem YA{i:Int}:(k.J6 N3 E0 i t).2.2.R4=k.R4∧(k.J6 N3 E0 i t).2.2.D0=k.D0∧(k.J6 N3 E0 i t).2.2.Kd=k.Kd∧(k.J6 N3 E0 i t).2.2.all=k.all:=by unfold J2.J6<;>grind
theorem Ze.clear(h:Ze F k)(N3:Int):Ze F (k.clear N3):=by
 intro x e;obtain⟨y,d,rfl⟩:=Un.1 e;have c:=h y d;have:∀a b,(∀m∈(y.2.clear a b).r9,F y.1 m)∧∀m∈(y.2.clear a b).box.rd,F y.1 m:=by intro a b;unfold Way.clear;cases a<;>cases b<;>simp only[if_true,if_false,Bool.false_eq_true]<;>refine⟨?_,?_⟩<;>first|exact c.1|exact c.2|(intro m f;cases f)
 grind
def Gq(F:End->P9->Prop)(l:O6):Prop:=∀x∈l.S8,∀m∈x.2,F ⟨x.1.E0,Ec x.1.up⟩ m
theorem Gq.put{l:O6}(h:Gq F l){P0:List P9}(e:∀m∈P0,F ⟨E0,Ec up⟩ m):Gq F (l.put E0 up P0).2.2:=by
 unfold O6.put;split
 ·exact h
 ·rename_i b d;simp only;have:∀n:Nat,Gq F ⟨R1 l.S8 ⟨E0,up⟩ (b++(P0.filter (·.right)).take n)⟩:=by
   intro n x a m c;rcases Sa a with rfl|a
   ·rcases rh.1 c with g|g
    ·exact h _ (Q7 d) m g
    grind
   ·exact h x a m c
  grind
theorem Gq.take{l:O6}(h:Gq F l)(E0:Int)(up:Bool)(i:Int)(a:Bool):Gq F (l.take E0 up i a).2.2∧((l.take E0 up i a).2.1=0->F ⟨E0,Ec up⟩ (l.take E0 up i a).1):=by
 unfold O6.take;split
 ·simp[*]
 ·rename_i b d;split
  ·simp[*]
  ·rename_i f;refine⟨?_,λ_=>h _ (Q7 d) _ (CT f)⟩;simp only;split
   ·exact h
   ·intro x c m e;rcases Sa c with rfl|c
    ·exact h _ (Q7 d) m (UB e)
    ·exact h x c m e
end
structure PI(A:Int->Prop)(Q:A5->Prop)(C:Int->Prop)(x:PW):Prop where
 pt:PT A Q x
 DI:RE x.E0
 pb:∀T,C T->PB T x.E0
variable{A:Int->Prop}{Q:A5->Prop}{C:Int->Prop}{x:PW}
theorem PI.lJ(h:PI A Q C x):Qo x.E0.U1:=by obtain⟨S0,a,_⟩:=h.pt.ok;exact a.tie.ok
theorem PI.Q9(h:PI A Q C x)(C0:Int):PI A Q C {x with E0:={x.E0 with U1:=(x.E0.U1.Q9 C0).2}}:=
 ⟨h.pt.Q9 C0,h.DI.mJ h.lJ (Lb.Q9 _ _),λT a=>(h.pb T a).mJ h.lJ (Lb.Q9 _ _)⟩
theorem PI.t7(h:PI A Q C x){op:Op}(b:M7 op.n)(pl:R9)(C0:Int):PI A Q C {x with E0:=(x.E0.t7 pl op C0).2}:=by
 refine⟨h.pt.t7 b pl C0,?_,λT a=>?_⟩
 ·unfold d4.t7;split;·exact h.DI
  split;·exact h.DI
  split;·exact h.DI
  exact h.DI.mJ h.lJ (Lb.t7 _ b _)
 ·unfold d4.t7;split;·exact h.pb T a
  split;·exact h.pb T a
  split;·exact h.pb T a
  exact(h.pb T a).mJ h.lJ (Lb.t7 _ b _)
theorem PI.Y4(c:∀z:A5,A z.tx->¬z.W0=4->Q z)(h:PI A Q C x)(a:K0 x.E0.B0 tx=some r):PI A Q C (x.Y4 tx r):=
 ⟨PT.Y4 c h.pt (h.pt.B0 tx r a) r,h.DI.uQ h.lJ a,λT b=>(h.pb T b).uQ h.lJ tx r⟩
theorem Zu{x:PW}{s9:Bool}(c:x.E0.U1.N9 tx=3):(x.decide tx r s9).2.E0=x.E0∨∃b l o,(x.decide tx r s9).2.E0={x.E0 with U1:=E1.K7 {x.E0.U1 with N0:=b} tx,X9:=l,B0:=R1 x.E0.B0 tx {r with N2:=o}}:=by
 obtain⟨w,a,hw3⟩:∃w,K0 x.E0.U1.G0 tx=some w∧w.B4=3:=by grind[E1.N9]
 unfold PW.decide PW.Z8;simp only;generalize(if s9=true then[(⟨4,tx,0#16,Y3,X0,X0⟩:A5),⟨6,tx,0#16,Y3,X0,X0⟩]else[⟨5,tx,0#16,Y3,X0,X0⟩])=P0;by_cases h0:(x.E0.X9.append x.M6 P0 0).1=0
 ·right;simp only[if_pos h0,not_true_eq_false,if_false];cases s9 with
  |true=>rw[bN a hw3];grind
  |false=>rw[Gt a];grind
 simp_all[ki]
theorem PI.decide(j:∀z:A5,A z.tx->¬z.W0=4->Q z)(h:PI A Q C x)(c:K0 x.E0.B0 tx=some r)(s9:Bool)(i:x.E0.U1.N9 tx=3)(k:s9=true->Q ⟨4,tx,0#16,Y3,X0,X0⟩):PI A Q C (x.decide tx r s9).2:=by
 have f:=PT.decide j h.pt (h.pt.B0 tx r c) r s9 i k;rcases Zu (r:=r) (s9:=s9) i with e|⟨b,l,o,e⟩
 ·exact⟨f,by rw[e];exact h.DI,λT g=>by grind[pb]⟩
 ·refine⟨f,?_,λT g=>?_⟩
  ·rw[e];have d:=h.DI.mJ h.lJ (Lb.K7 (tx:=tx) (b:=b));have a:=d.row (r:=r) (r':={r with N2:=o}) c O O O;exact⟨a.st,a.Y9,a.Y4,a.J0⟩
  ·rw[e];have d:=(h.pb T g).mJ h.lJ (Lb.K7 (tx:=tx) (b:=b));have a:=d.row (r:=r) (r':={r with N2:=o}) c O;exact⟨a.G0,a.B0⟩
theorem PI.O0(h:PI A Q C x)(k:J2):PI A Q C {x with O0:=k}:=⟨h.pt.O0 k,h.DI,h.pb⟩
theorem PI.row(h:PI A Q C x)(a:K0 x.E0.B0 tx=some r)(e:r'.z7=r.z7)(b:r'.Y4=r.Y4)(d:r'.J0=r.J0):PI A Q C {x with E0:={x.E0 with B0:=R1 x.E0.B0 tx r'}}:=
 ⟨h.pt.setRow (h.pt.B0 tx r a) r',h.DI.row a e b d,λT c=>(h.pb T c).row a b⟩
theorem PI.take(d:∀z:A5,A z.tx->¬z.W0=4->Q z)(h:PI A Q C x)(m:P9)(C0:Int)(f:m.W0=4->m.H8=1->Q ⟨4,m.tx,0#16,Y3,X0,X0⟩):PI A Q C (x.take m C0).2:=by
 unfold PW.take;split
 ·exact h
 ·rename_i r a;split
  ·exact h.row a O O O
  split
  ·rename_i c;split
   ·rename_i g;have b:=PI.decide d h a (Decidable.decide (m.H8=1)) g (λe=>f c (Vn e));simp only;split
    ·exact b
    ·exact b.O0 _
   ·exact h.O0 _
  ·exact h
theorem rn(x:PW)(tx:Int)(r:E6)(C0:Int):(x.jb tx r C0).E0=x.E0∧(x.jb tx r C0).M6=x.M6:=by
 unfold PW.jb;simp only;split;·exact⟨rfl,rfl⟩
 split<;>exact⟨rfl,rfl⟩
def acx(A:Int->Prop)(F:End->P9->Prop)(me:Int)(V:Int->Int->Prop):Prop:=∀W0 tx H8,A tx->(W0=1->V tx H8)->(⟨me,1⟩:End).ra ⟨W0,me,tx,H8⟩=true->F ⟨me,1⟩ ⟨W0,me,tx,H8⟩
structure Wn(A:Int->Prop)(F:End->P9->Prop)(k0:J2)(me:Int)(y:PW):Prop where
 all:Ze F y.O0
 R4:y.O0.R4=k0.R4
 D0:y.O0.D0=k0.D0
 Kd:y.O0.Kd=k0.Kd
 aiN:y.O0.all=k0.all
 me:y.E0.me=me
theorem Wn.Z6{a:J2}{y:PW}{V:Int->Int->Prop}(h:Wn A F a me y)(o:¬me=a.D0.A0)(hs:acx A F me V){W0 H8:Int}(f:A tx)(d:W0=1->V tx H8)(C0:Int):Wn A F a me (y.Z6 W0 tx H8 C0):=by
 obtain⟨n,l,j,i⟩:=TA (k:=y.O0) (N3:=y.E0.me) (to:=y.O0.D0.A0) (m:=⟨W0,y.E0.me,tx,H8⟩) (t:=C0);refine⟨?_,n.trans h.R4,l.trans h.D0,j.trans h.Kd,i.trans h.aiN,h.me⟩;refine h.all.Z6 λe b c=>?_;have g:y.O0.Ia y.E0.me=false:=by unfold J2.Ia;rw[h.me,h.D0];exact Em o
 rw[g]at b;simp only[Bool.false_eq_true,if_false]at b;rw[b,h.me]at c⊢;exact hs W0 tx H8 f d c
theorem PI.run(L:∀z:A5,A z.tx->¬z.W0=4->Q z)(h:PI A Q C x){V:Int->Int->Prop}(p:Ze F x.O0)(G:¬x.E0.me=x.O0.D0.A0)(hF:∀m,F ⟨x.E0.me,0⟩ m->m.W0=4->m.H8=1->Q ⟨4,m.tx,0#16,Y3,X0,X0⟩)(hs:acx A F x.E0.me V)(c:∀tx r,K0 (x.run C0).2.E0.B0 tx=some r->V tx r.Y4):PI A Q C (x.run C0).2∧Wn A F x.O0 x.E0.me (x.run C0).2:=by
 unfold PW.run at c⊢;split
 ·exact⟨h,p,rfl,rfl,rfl,rfl,rfl⟩
 rename_i aA;rw[V0 aA]at c;simp only at c⊢;have M:=h.Q9 C0;generalize Lx:({x with E0:={x.E0 with U1:=(x.E0.U1.Q9 C0).2}}:PW)=n at M c;have k1:n.O0=x.O0∧n.E0.me=x.E0.me:=by rw[<-Lx];exact⟨rfl,rfl⟩
 have w:PI A Q C (Y8 (λ(x:PW)=>x.E0.B0) Cb (λ(x:PW)(tx:Int)(r:E6)=>if r.z7=false∧C0>=x.O0.D0.M8 r.I1 then x.Y4 tx r else x) n)∧(Y8 (λ(x:PW)=>x.E0.B0) Cb (λ(x:PW)(tx:Int)(r:E6)=>if r.z7=false∧C0>=x.O0.D0.M8 r.I1 then x.Y4 tx r else x) n).O0=x.O0∧(Y8 (λ(x:PW)=>x.E0.B0) Cb (λ(x:PW)(tx:Int)(r:E6)=>if r.z7=false∧C0>=x.O0.D0.M8 r.I1 then x.Y4 tx r else x) n).E0.me=x.E0.me:=by
  have:=Uc (B0:=λ(x:PW)=>x.E0.B0) (r0:=Cb) (f:=λ(x:PW)(tx:Int)(r:E6)=>if r.z7=false∧C0>=x.O0.D0.M8 r.I1 then x.Y4 tx r else x) (I:=λy=>(PI A Q C y∧y.O0=x.O0∧y.E0.me=x.E0.me)∧∀tx∈n.E0.B0.map (·.1),∃r,K0 y.E0.B0 tx=some r) (s:=n) ⟨⟨M,k1⟩,λtx d=>ca d⟩ λt tx E⟨⟨d,p,G⟩,P⟩=>?_
  ·exact this.1
  obtain⟨r,o⟩:=P tx E;have e:(K0 t.E0.B0 tx).getD Cb=r:=by rw[o];rfl
  simp only[e];split
  ·obtain⟨g1,g2⟩:=Ts t tx r;refine⟨⟨PI.Y4 L d o,g1.trans p,g2.trans G⟩,λj hj=>?_⟩;obtain⟨s',v,l,N,_⟩:=Pj d.lJ tx r;rw[N];obtain⟨q,hq⟩:=P j hj;exact Ld hq
  ·omega
 generalize Y8 (λ(x:PW)=>x.E0.B0) Cb (λ(x:PW)(tx:Int)(r:E6)=>if r.z7=false∧C0>=x.O0.D0.M8 r.I1 then x.Y4 tx r else x) n=x2 at w c;obtain⟨w,k2,J⟩:=w;rw[k2,J]at c⊢;have D:=w.O0 (x.O0.J6 x.E0.me x.E0.me 0 C0).2.2;obtain⟨R,H⟩:=p.J6 x.E0.me x.E0.me 0 C0;obtain⟨Z,Y,X,S⟩:=YA (k:=x.O0) (N3:=x.E0.me) (E0:=x.E0.me) (i:=0) (t:=C0);have ajv:x.O0.Ia x.E0.me=false:=Em G;rw[ajv]at H;have g:Wn A F x.O0 x.E0.me {x2 with O0:=(x.O0.J6 x.E0.me x.E0.me 0 C0).2.2}:=⟨R,Z,Y,X,S,J⟩;generalize hx3:({x2 with O0:=(x.O0.J6 x.E0.me x.E0.me 0 C0).2.2}:PW)=a at D g c;have u:PI A Q C (if(x.O0.J6 x.E0.me x.E0.me 0 C0).2.1=0 then a.take (x.O0.J6 x.E0.me x.E0.me 0 C0).1 C0 else(0,a)).2∧Wn A F x.O0 x.E0.me (if(x.O0.J6 x.E0.me x.E0.me 0 C0).2.1=0 then a.take (x.O0.J6 x.E0.me x.E0.me 0 C0).1 C0 else(0,a)).2:=by
  split
  ·rename_i h0;refine⟨PI.take L D _ C0 (hF _ (H h0)),?_⟩;generalize(x.O0.J6 x.E0.me x.E0.me 0 C0).1=m;unfold PW.take;split
   ·exact g
   ·rename_i r o;have d:=D.pt.B0 m.tx r o;split
    ·exact⟨g.all,g.R4,g.D0,g.Kd,g.aiN,g.me⟩
    split
    ·have hd:∀b,Wn A F x.O0 x.E0.me (a.decide m.tx r b).2:=by
      intro b;have BB:(a.decide m.tx r b).2.O0=a.O0∧(a.decide m.tx r b).2.E0.me=a.E0.me:=by
       unfold PW.decide;simp only;generalize(if b=true then[(⟨4,m.tx,0#16,Y3,X0,X0⟩:A5),⟨6,m.tx,0#16,Y3,X0,X0⟩]else[⟨5,m.tx,0#16,Y3,X0,X0⟩])=P0;have:=Vl a 0 P0;split
       ·exact this
       ·exact this
      obtain⟨e1,N⟩:=BB;exact⟨by grind,by grind,by grind,by grind,by grind,by grind⟩
     grind[Wn.Z6]
    ·exact g
  ·simp[*]
 generalize(if(x.O0.J6 x.E0.me x.E0.me 0 C0).2.1=0 then a.take (x.O0.J6 x.E0.me x.E0.me 0 C0).1 C0 else(0,a))=y at u c;obtain⟨u,ho4⟩:=u;have aml:∀z:PW,z.E0=y.2.E0->(Y8 (λ(x:PW)=>x.E0.B0) Cb (λ(x:PW)(tx:Int)(r:E6)=>x.jb tx r C0) z).E0=y.2.E0:=by intro z hz;refine Uc (I:=λ(t:PW)=>t.E0=y.2.E0) hz λt tx _ d=>?_;rw[(rn t tx _ C0).1];exact d
 rw[aml y.2 O]at c;have:=Uc (B0:=λ(x:PW)=>x.E0.B0) (r0:=Cb) (f:=λ(x:PW)(tx:Int)(r:E6)=>x.jb tx r C0) (I:=λ(t:PW)=>(PI A Q C t∧Wn A F x.O0 x.E0.me t)∧t.E0=y.2.E0) (s:=y.2) ⟨⟨u,ho4⟩,rfl⟩ λt tx E⟨⟨d,hot⟩,K⟩=>?_
 ·exact this.1
 have he2:(t.jb tx ((K0 t.E0.B0 tx).getD Cb) C0).E0=y.2.E0:=by rw[(rn t tx _ C0).1];exact K
 obtain⟨r,o⟩:=ca E;have hr':K0 t.E0.B0 tx=some r:=by rw[K];exact o
 have e:(K0 t.E0.B0 tx).getD Cb=r:=by rw[hr'];rfl
 simp only[e]at he2⊢;have hA:=d.pt.B0 tx r hr';have hvr:=c tx r o;refine⟨⟨⟨d.pt.jb tx r C0,by grind[DI],λT hT=>by grind[pb]⟩,?_⟩,he2⟩;grind[PW.jb,Wn.Z6]
theorem Gq.imp{G:End->P9->Prop}{l:O6}(h:Gq F l)(k:∀e m,F e m->G e m):Gq G l:=λx a m b=>k _ _ (h x a m b)
structure akA(C0:Int)(k:J2)(l:O6):Prop where
 O0:vV C0 k
 p6:Gq (IT k.R4 C0) l
end Go.Proofs.YtaaihojmcfaejaaGreatDoor
