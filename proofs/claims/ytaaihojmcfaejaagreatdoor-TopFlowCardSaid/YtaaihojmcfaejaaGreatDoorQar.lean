/- Lemmas for the tops: the walk of the house and its laws. No condition is added. -/
import Derived.Test.YtaaihojmcfaejaaGreatDoorQaq
import Derived.Test.YtaaihojmcfaejaaGreatDoorQal
import Derived.Test.YtaaihojmcfaejaaGreatDoorQah
import Derived.Test.YtaaihojmcfaejaaGreatDoorQaf
import Derived.Test.YtaaihojmcfaejaaGreatDoorQan
import Derived.Test.YtaaihojmcfaejaaGreatDoorQap
import Derived.Test.YtaaihojmcfaejaaGreatDoorQai
set_option linter.all false
namespace Go.Proofs.YtaaihojmcfaejaaGreatDoor
open Go Go.RowKit Tryz
variable{x:Dd}{s:E1}{C0 Hv tx:Int}{t:L3}{B0:List (w4×R5)}{L5:List Dd}{N0 xs:List E2}{R:List HP}{b cap cb cq ct i m n nb p:Nat}{a ab aq t8:Option Addr}{r:R5}{β κ:Type}{c w:World}{k:w4}
theorem abN{P:Prop}(h:P:=by refine U0 h 0 O O (N1 (CR (f:=442) (lb:=[]) (p:=iw) (hs.up h) (λh=>afI h) O (by omega)) λw h'=>?_);replace h:=h.H6 h';refine⟨A8 O ?_,h.q 1 [] O⟩;grind[]):P:=h
section
variable{L:List HP}
theorem aD{o:Nat}{p:E2}(hs:Sx F2 w a n cap xs)(e:a=some ⟨b,o,none⟩)(d:i3 xs i=some p):Sx eB w (some ⟨b,o+i*F2.sz,none⟩) 4 4 p.key.bytes:=by
 refine⟨.row O λj v c=>?_,rfl,V7 _⟩;have h:i3 (F2.f p) j=some v:=by
  match j,c with
  |0,c=>exact c
  |1,c=>exact c
  |2,c=>exact c
  |3,c=>exact c
 have g:=F2.nj xs i j p v d h;rw[wz];exact hs.sl.cells e g
theorem Ju:∀(l:List E2)(x y:E2),J8 (l++[x]++[y])=(J8 (l++[x])&&decide (x.key.cmp y.key<0))
 |[],x,y=>by simp[J8]
 |[z],x,y=>by simp[J8]
 |z::u::l,x,y=>by have:=Ju (u::l) x y;simp_all[J8,Bool.and_assoc]
theorem Ku:∀(l m:List E2),J8 (l++m)=true->J8 l=true
 |[],_,_=>rfl
 |[z],_,_=>rfl
 |z::u::l,m,h=>by simp only[List.cons_append,J8,Bool.and_eq_true]at h⊢;exact⟨h.1,Ku (u::l) m h.2⟩
theorem pD{x y:E2}(c:1<=i)(b:i3 xs (i-1)=some x)(a:i3 xs i=some y):J8 (xs.take (i+1))=(J8 (xs.take i)&&decide (x.key.cmp y.key<0)):=by obtain⟨e,d⟩:=zF b a c;rw[e,d,Ju]
theorem eR(hs:Sx F2 w a xs.length cap xs)(s:xs.length<=100000000):Cs 426 #[.slice a xs.length cap] w (Zb w (.bool (J8 xs)) []):=by
 have h:=Hp.start w;refine R2 func426 O (p5.A6 kn [0,3] (λm vs w'=>∃(i:Int),vs=[.slice a xs.length cap,I i]∧(1<=i∧(i<=xs.length∨i=1)∧m=(xs.length+1-i).toNat)∧J8 (xs.take i.toNat)=true∧Hp w w' []) (xs.length+1-1) ⟨1,rfl,m4,by match xs with|[]=>rfl|[_]=>rfl|_::_::_=>rfl,h⟩ ?_);rintro m _ w1 u ⟨i,rfl,q,b,h⟩;refine BR.T5 (λk=>?_) λk=>?_
 ·obtain⟨x,d⟩:∃x,i3 xs (i.toNat-1)=some x:=⟨xs[i.toNat-1],by rw[Z0,d8]⟩;obtain⟨y,c⟩:∃y,i3 xs i.toNat=some y:=⟨xs[i.toNat],by rw[Z0,d8]⟩;have l:=pD m4 d c;have f:i3 xs (i-1).toNat=some x:=by rw[show(i-1).toNat=i.toNat-1 by omega];exact d
  rw[b,Bool.true_and]at l;have t:(i+1).toNat=i.toNat+1:=m4
  have z:¬x.key.cmp y.key<0->J8 xs=false:=by
   intro r;cases p:J8 xs with
   |false=>rfl
   |true=>have:=Ku (xs.take (i.toNat+1)) (xs.drop (i.toNat+1)) Zb6;simp_all
  refine ja.D0 kn o8 (λ_=>True) (qs [0,1,2,3,4,5,6,7,8,9,10] (vs [11] (qs [12] .done))) Zb2 trivial ?_;replace h:=h.drew;refine i5 (Lz hs λb1 o v=>RD.ll kn O O (Lz hs λb2 n A=>RD.ll kn O O (N1 (kZ (x:=x.key) (y:=y.key) (aD (hs.up h) Zb9 f) (aD (hs.up h) Zb9 c)) λw g=>?_)));replace h:=h.H6 g;refine BR.T5 (λj=>?_) λj=>?_
  ·refine⟨A8 O ?_,h⟩;grind[]
  ·refine i5 ⟨(m-1),?_,_,rfl,?_,?_,h⟩
   ·omega
   ·omega
   ·grind[]
 ·have e:xs.take i.toNat=xs:=sd m4;rw[e]at b;rw[b];exact⟨rfl,h⟩
def iw(p:E2):Bool:= !p.val.K3&&decide (¬p.val.n=0)
theorem afI{x:E2}(h:Hp c w R):Cr 442 #[x.v] w c (.bool (iw x)) R:=by
 refine R2 func442 O (I2 h O λb1 w h=>U0 h 0 O O (BR.not (BR.O' (λa=>?_) λa=>?_)))
 ·refine⟨A8 O ?_,h.q 1 [] O⟩;grind[iw]
 ·refine U0 h 0 O O ⟨A8 O ?_,h.q 1 [] O⟩;grind[iw]
theorem afQ{x:E2}(h:Hp c w R):Cr 425 #[x.v] w c (.bool (!x.val.K3)) R:=by exact R2 func425 O (I2 h O λb1 w h=>U0 h 0 O O ⟨rfl,h.q 1 [] O⟩)
theorem xG(L5:List Dd)(a:Bool):(L5.filter λx=>x.T1==a).map (·.n)=((L5.map Dd.tx).filter λx=>x.T1==a).map (·.n):=by
 induction L5 with
 |nil=>rfl
 |cons x l b=>
  rw[Kb,xz,xz];have e:(x.tx.T1==a)=(x.T1==a):=rfl;rw[e];split
  ·rw[Kb,Kb,b];rfl
  ·exact b
theorem sH{a:Type}{l:List a}{x:a}{p:a->Bool}(h:i3 l i=some x):(l.take (i+1)).filter p=(l.take i).filter p++if p x then[x]else[]:=Fg p l i x h
theorem aii{b:Bool}(h:Hp c w (so 260 Hq t8 ct L5::R))(v:L5.length<=100000000):Cs 106 #[.agg #[.slice ab nb cb,.slice t8 L5.length ct],.bool b] w (λe w'=>∃d f,e= .returned (.slice d (((L5.map Dd.tx).filter λx=>x.T1==b).map (·.n)).length f)∧Hp c w' (so 3 O5 d f (((L5.map Dd.tx).filter λx=>x.T1==b).map (·.n))::so 260 Hq t8 ct L5::R)):=by
 rw[<-xG];refine R2 func106 O (I2 h O λb1 w h=>U0 h 0 O O ?_);replace h:=h.G4 3 O5;refine p5.A6 kn [1,5,9,10,11] (λm vs w'=>∃(i:Int)(d:Option Addr)(f:Nat)(a:List Int),vs=[.bool b,.slice d a.length f,.slice t8 L5.length ct,I L5.length,I i]∧(0<=i∧i+m=L5.length)∧a=((L5.take i.toNat).filter λx=>x.T1==b).map (·.n)∧Hp c w' (so 3 O5 d f a::so 260 Hq t8 ct L5::R)) L5.length ⟨0,none,0,[],rfl,m4,rfl,h.q 3 [0,2] O⟩ ?_;rintro m _ w1 z ⟨i,a1,l,a,rfl,t,hns,h⟩;have hnl:a.length<=i.toNat:=by rw[hns,H7];have:=Rh (λ(x:Dd)=>x.T1==b) (L5.take i.toNat);rw[Ga]at this;omega
 refine BR.T5 (λk=>?_) λk=>?_
 ·obtain⟨x,g⟩:∃x,i3 L5 i.toNat=some x:=⟨L5[i.toNat],by rw[Z0,d8]⟩;have C:=sH (p:=λ(x:Dd)=>x.T1==b) g;have y:(i+1).toNat=i.toNat+1:=m4
  refine jd h 1 O λb1 s o=>Oa.sl h 1 O o g (I2 h O λb2 w h=>J3 h 0 O O O λw h=>U0 h 0 O O (tg.bool O (BR.O' (λj=>?_) λj=>?_)))
  ·refine U0 h 0 O O (I2 h O λA w h=>A4.Yb (u:=_) (Ca.of (w9:=8) kn O O O O O O) h 2 O O 0 O O O m4 (λ_ _=>rfl) λa2 r w h=>i5 ⟨m-1,m4,i+1,a2,r,a++[x.n],rfl,m4,?_,h.q 4 [2,3] O⟩);simp[*]
  ·refine i5 ⟨m-1,m4,i+1,a1,l,a,rfl,m4,?_,h.q 3 [1,2] O⟩;simp[*]
 ·have e:L5.take i.toNat=L5:=sd m4;rw[e]at hns;subst hns;exact⟨_,_,rfl,h⟩
theorem akW(h:Hp c w (so 260 Hq t8 ct L5::R))(d:L5.length<=100000000):Cs 73 #[.agg #[.slice ab nb cb,.slice t8 L5.length ct]] w (λe w'=>∃a b,e= .returned (.slice a (((L5.map Dd.tx).filter λx=>x.T1==true).map (·.n)).length b)∧Hp c w' (so 3 O5 a b (((L5.map Dd.tx).filter λx=>x.T1==true).map (·.n))::so 260 Hq t8 ct L5::R)):=by exact R2 func73 O (I2 h O λb1 w h=>O4 h 0 O O (ga (aii (h.g [1] O) Zb9) λa1 f w h=>⟨_,_,rfl,h.q 3 [0,1] O⟩))
theorem apa(h:Hp c w (so 260 Hq t8 ct L5::R))(d:L5.length<=100000000):Cs 88 #[.agg #[.slice ab nb cb,.slice t8 L5.length ct]] w (λe w'=>∃a b,e= .returned (.slice a (((L5.map Dd.tx).filter λx=>x.T1==false).map (·.n)).length b)∧Hp c w' (so 3 O5 a b (((L5.map Dd.tx).filter λx=>x.T1==false).map (·.n))::so 260 Hq t8 ct L5::R)):=by exact R2 func88 O (I2 h O λb1 w h=>O4 h 0 O O (ga (aii (h.g [1] O) Zb9) λa1 f w h=>⟨_,_,rfl,h.q 3 [0,1] O⟩))
theorem fS(x:Dd)(Sn:Int):x.tx.right Sn=(decide (x.n>Sn)&&decide (x.n<=1048576)&&decide (¬(x.J0.toNat:Int)=0)&&(!x.T1||decide (x.K2.length=0))&&J8 x.K2&& !(x.K2.any iw)):=rfl
theorem afP{Sn:Int}(hs:Sx F2 w x.a x.K2.length x.cap x.K2)(j:x.K2.length<=100000000):Cs 427 #[.agg x.f.toArray,I Sn] w (Zb w (.bool (x.tx.right Sn)) []):=by
 have h:=Hp.start w;rw[fS];refine R2 func427 O (I2 h O λb1 w h=>U0 h 0 O O (BR.T5 (λi=>?_) λi=>?_))
 ·refine U0 h 0 O O (BR.T5 (λg=>?_) λg=>?_)
  ·refine U0 h 0 O O (BR.ne (λe=>?_) λe=>?_)
   ·refine U0 h 0 O O (BR.not (BR.O' (λd=>?_) λd=>?_))
    ·refine U0 h 0 O O (BR.eq (λb=>?_) λb=>?_)
     ·refine U0 h 0 O O (N1 (eR (hs.up h) Zb9) λw h'=>?_);replace h:=h.H6 h';refine BR.O' (λc=>?_) λc=>?_
      ·exact abN
      ·refine⟨A8 O ?_,h.q 1 [] O⟩;grind[]
     ·refine m5 ⟨A8 O ?_,h.q 1 [] O⟩;grind[]
    ·refine Q5 (U0 h 0 O O (N1 (eR (hs.up h) Zb9) λw h'=>?_));replace h:=h.H6 h';refine BR.O' (λb=>?_) λb=>?_
     ·exact abN
     ·refine⟨A8 O ?_,h.q 1 [] O⟩;grind[]
   ·refine m5 (m5 ⟨A8 O ?_,h.q 1 [] O⟩);grind[]
  ·refine m5 (m5 (m5 ⟨A8 O ?_,h.q 1 [] O⟩));grind[]
 ·refine m5 (m5 (m5 (m5 ⟨A8 O ?_,h.q 1 [] O⟩)));grind[]
theorem Pz{ba:Int}(a:i3 L5 i=some x):Ie ba ((L5.drop i).map Dd.tx)=(x.tx.right ba&&Ie x.n ((L5.drop (i+1)).map Dd.tx)):=by rw[ud L5 i x a,Kb];rfl
theorem afZ(h:Hp c w (so 157 F2 ab cb N0::so 260 Hq t8 ct L5::wr L5::R))(A:N0.length<=100000000)(y:L5.length<=100000000)(d:∀x∈L5,x.K2.length<=100000000):Cr 409 #[.agg #[.slice ab N0.length cb,.slice t8 L5.length ct]] w c (.bool (x8.right ⟨N0,L5.map Dd.tx⟩)) (so 157 F2 ab cb N0::so 260 Hq t8 ct L5::wr L5::R):=by
 have t:x8.right ⟨N0,L5.map Dd.tx⟩=(!(decide ((N0.length:Int)>64)|| !J8 N0||N0.any λp=>!p.val.K3)&&Ie 0 (L5.map Dd.tx)):=rfl;rw[t];refine R2 func409 O (I2 h O λb1 w h=>U0 h 0 O O (BR.T5 (λr=>?_) λr=>?_))
 ·refine Q5 (Q5 ⟨A8 O ?_,h.q 4 [1,2,3] O⟩);grind[]
 ·refine U0 h 0 O O (N1 (eR (h.Z4 1 O) Zb9) λw a=>?_);replace h:=h.H6 a;refine BR.not (BR.O' (λo=>?_) λo=>?_)
  ·refine U0 h 0 O O (N1 (CR (f:=425) (lb:=[]) (p:=λx=>!x.val.K3) (h.Z4 1 O) (λh=>afQ h) O m4) λw a=>?_);replace h:=h.H6 a;refine BR.O' (λn=>?_) λn=>?_
   ·refine⟨A8 O ?_,h.q 4 [1,2,3] O⟩;grind[]
   ·refine U0 h 0 O O (p5.A6 kn [4,24,25,26] (λk vs w'=>∃(i ba:Int),vs=[I ba,.slice t8 L5.length ct,I L5.length,I i]∧(0<=i∧i+k=L5.length)∧Ie 0 (L5.map Dd.tx)=Ie ba ((L5.drop i.toNat).map Dd.tx)∧Hp c w' (bk b1 [.slice ab N0.length cb,.slice t8 L5.length ct] 192::so 157 F2 ab cb N0::so 260 Hq t8 ct L5::wr L5::R)) L5.length ⟨0,0,rfl,m4,rfl,h⟩ ?_);rintro k _ w1 C ⟨i,ba,rfl,z,g,h⟩;refine BR.T5 (λm=>?_) λm=>?_
    ·obtain⟨x,b⟩:∃x,i3 L5 i.toNat=some x:=⟨L5[i.toNat],by rw[Z0,d8]⟩;have u:=Pz (ba:=ba) b;have s:(i+1).toNat=i.toNat+1:=m4
     have hwx:=d x (by grind[Z0]);rw[<-s]at u;refine jd h 2 O λb2 v E=>Oa.sl h 2 O Zb9 Zb9 (I2 h O λD w h=>J3 h 0 O O O λw h=>O4 h 0 O O (N1 (afP (x:=x) (Sn:=ba) (h.WX (j:=4) O b) hwx) λw a=>?_));replace h:=h.H6 a;refine BR.not (BR.O' (λl=>?_) λl=>?_)
     ·refine U0 h 0 O O (i5 ⟨(k-1),?_,_,_,rfl,?_,?_,h.q 5 [1,2,3,4] O⟩)
      ·omega
      ·omega
      ·grind[]
     ·refine⟨A8 O ?_,h.q 5 [2,3,4] O⟩;grind[]
    ·have e:(L5.drop i.toNat).map Dd.tx=[]:=by rw[BC m4];rfl
     rw[e]at g;refine⟨A8 O ?_,h.q 4 [1,2,3] O⟩;grind[Ie]
  ·refine Q5 ⟨A8 O ?_,h.q 4 [1,2,3] O⟩;grind[]
end
theorem O7{a:Type}{xs:List a}{x:a}(h:i3 xs i=some x):xs.take (i+1)=xs.take i++[x]:=by simp_all[Z0,List.take_add_one]
def jG(x:Dd)(N0:List E2)(p:E2):A5:=⟨1,x.n,0#16,p.key,Hb N0 p.key,p.val⟩
theorem WR.aiD{K:Value->Prop}(a:K (gb (BitVec.ofNat 16 n))):WR .u16 (n:Int) K:=by refine⟨?_⟩;grind[wrap_u16']
section
variable{L:List HP}
theorem afY(hs:Sx F2 w x.a x.K2.length x.cap x.K2)(r:Sx F2 w a N0.length cap N0)(E:x.K2.length<=100000000)(F:N0.length<=100000000):Cs 410 #[.agg x.f.toArray,.slice a N0.length cap] w (λe w'=>∃c d,e= .returned (.slice c (x.tx.S0 N0).length d)∧Hp w w' [so 195 za c d (x.tx.S0 N0)]):=by
 have h:=Hp.start w;have l:x.tx.S0 N0=(x.K2.map (jG x N0))++[⟨2,x.n,x.J0,Y3,X0,X0⟩]++(if x.T1 then[⟨4,x.n,0#16,Y3,X0,X0⟩]else[]):=rfl;rw[l];refine R2 func410 O (I2 h O λb1 w h=>U0 h 0 O O ?_);replace h:=h.G4 195 za;refine p5.A6 kn [1,2,5,9,10,11] (λk vs w'=>∃(i:Int)(c:Option Addr)(d:Nat)(b:List A5),vs=[.slice a N0.length cap,Pt b1,.slice c b.length d,.slice x.a x.K2.length x.cap,I x.K2.length,I i]∧(0<=i∧i+k=x.K2.length)∧(b=(x.K2.take i.toNat).map (jG x N0)∧b.length<=100000000)∧Hp _ w' (so 195 za c d b::bk b1 [I x.n,gb x.J0,.bool x.T1,.slice x.a x.K2.length x.cap] 260::[])) x.K2.length ⟨0,none,0,[],rfl,m4,⟨rfl,Zb3⟩,h⟩ ?_;rintro k _ w1 l ⟨i,a1,H,b,rfl,D,⟨g,K⟩,h⟩;have L:b.length<=i.toNat:=by rw[g,H7,Ga];omega
 refine BR.T5 (λt=>?_) λt=>?_
 ·obtain⟨p,o⟩:∃p,i3 x.K2 i.toNat=some p:=⟨x.K2[i.toNat],by rw[Z0,d8]⟩;have v:(i+1).toNat=i.toNat+1:=m4
  have z:(x.K2.take (i+1).toNat).map (jG x N0)=b++[jG x N0 p]:=by rw[v,O7 o,ic,<-g];rfl
  refine Lz hs λb2 A J=>Oa.ro h hs Zb9 Zb9 (I2 h O λy w h=>J3 h 0 O O O λw h=>Y6 h [0,1,3,5,6,9,2,4,7,10,58,11,112,113,14] λh=>U3 2 O O (xg 0 O O (xg 0 O O (xg 0 O O (N1 (lR (r.up h) m4) λw s=>?_)))));replace h:=h.H6 s;exact⟨h,I2 h O λG w h=>A4.Yb (u:=⟨_,_,0#16,⟨_,_,_,_⟩,⟨_,_⟩,⟨_,_⟩⟩) (Ca.of (w9:=56) kn O O O O O O) h 2 O O 0 O O O m4 (λ_ _=>rfl) λa2 m w h=>i5 ⟨k-1,m4,i+1,a2,m,b++[jG x N0 p],rfl,m4,⟨z.symm,Zb1⟩,h.q 4 [2,3] O⟩⟩
 ·have e:x.K2.take i.toNat=x.K2:=sd m4;rw[e]at g;subst g;refine U0 h 1 O O (U0 h 1 O O (I2 h O λb2 w h=>A4.Yb (u:=⟨_,_,_,Y3,X0,X0⟩) (Ca.of (w9:=56) kn O O O O O O) h 1 O O 0 O O O m4 (λ_ _=>rfl) λa2 m w h=>U0 h 2 O O (BR.O' (λj=>?_) λj=>?_)))
  ·refine U0 h 2 O O (I2 h O λy w h=>A4.Yb (u:=⟨_,_,0#16,Y3,X0,X0⟩) (Ca.of (w9:=56) kn O O O O O O) h 2 O O 0 O O O Zb5 (λ_ _=>rfl) λa3 C w h=>?_);rw[j];exact⟨_,_,rfl,h.q 4 [2] O⟩
  ·skip;rw[j,V0 Zb4,Jb];exact⟨_,_,rfl,h.q 3 [1] O⟩
def Yr(N0:List E2):List A5:=N0.map λ(p:E2)=>(⟨7,0,0#16,p.key,X0,p.val⟩:A5)
theorem gW(h:x.K2.length<=2000000):(x.tx.S0 N0).length<=2000002:=by
 unfold xf.S0;simp only[List.length_append,List.length_map,List.length_cons,List.length_nil];have:(if x.tx.T1=true then[(⟨4,x.tx.n,0#16,Y3,X0,X0⟩:A5)]else[]).length<=1:=by split<;>simp
 have e:x.tx.K2.length=x.K2.length:=rfl;omega
theorem BY(h:Hp c w (so 157 F2 ab cb N0::so 260 Hq t8 ct L5::wr L5::R))(V:N0.length<=100000000)(T:L5.length<=10000)(z:∀x∈L5,x.K2.length<=2000000):Cs 399 #[.agg #[.slice ab N0.length cb,.slice t8 L5.length ct]] w (λe w'=>∃d f l,e= .returned (.tuple #[.slice d l.length f,.bool (x8.S0 ⟨N0,L5.map Dd.tx⟩).isSome])∧l=(x8.S0 ⟨N0,L5.map Dd.tx⟩).getD []∧Hp c w' (so 195 za d f l::so 157 F2 ab cb N0::so 260 Hq t8 ct L5::wr L5::R)):=by
 have hw6:∀x∈L5,x.K2.length<=100000000:=λx o=>Zb1
 have n:x8.S0 ⟨N0,L5.map Dd.tx⟩=if x8.right ⟨N0,L5.map Dd.tx⟩=false then none else some ([⟨8,0,BitVec.ofNat 16 N0.length,Y3,X0,X0⟩]++Yr N0++(L5.map Dd.tx).flatMap λ(x:xf)=>x.S0 N0):=rfl
 refine R2 func399 O (I2 h O λb1 w h=>O4 h 0 O O (N1 (afZ (h.g [1,2,3] O) Zb9 m4 Zb9) λw h=>BR.not (BR.O' (λm=>?_) λm=>?_)))
 ·have X:N0.length<=64:=by
   have t:=m;unfold x8.right at t;simp at t;omega
  rw[m,V0 Zb4]at n;rw[n];refine U0 h 3 O O (WR.aiD (I2 h O λb2 w h=>U0 h 4 O O ?_));replace h:=Hp.vg (E:=za) [⟨8,0,BitVec.ofNat 16 N0.length,Y3,X0,X0⟩] h O (by rw[Gm];decide);refine p5.A6 kn [1,3,4,19,20,21] (λk vs w'=>∃(i:Int)(d:Option Addr)(f:Nat)(a:List A5),vs=[Pt b1,.bool false,.slice d a.length f,.slice ab N0.length cb,I N0.length,I i]∧(0<=i∧i+k=N0.length)∧(a=[⟨8,0,BitVec.ofNat 16 N0.length,Y3,X0,X0⟩]++Yr (N0.take i.toNat))∧Hp _ w' (so 195 za d f a::so 157 F2 ab cb N0::so 260 Hq t8 ct L5::wr L5::bk b1 [.slice ab N0.length cb,.slice t8 L5.length ct] 192::R)) N0.length ⟨0,_,1,[⟨8,0,BitVec.ofNat 16 N0.length,Y3,X0,X0⟩],rfl,m4,rfl,h⟩ ?_;rintro k _ w1 H ⟨i,a1,L,a,rfl,C,b,h⟩;have N:a.length<=i.toNat+1:=by rw[b,j7,Yr,H7,Ga,Gm];omega
  refine BR.T5 (λG=>?_) λG=>?_
  ·obtain⟨p,A⟩:∃p,i3 N0 i.toNat=some p:=⟨N0[i.toNat],by rw[Z0,d8]⟩;have r:(i+1).toNat=i.toNat+1:=m4
   have s:[⟨8,0,BitVec.ofNat 16 N0.length,Y3,X0,X0⟩]++Yr (N0.take (i+1).toNat)=a++[⟨7,0,0#16,p.key,X0,p.val⟩]:=by rw[r,O7 A,b,N',Yr,ic];rfl
   exact jd h 1 O λK y M=>Oa.sl h 1 O Zb9 Zb9 (I2 h O λJ w h=>J3 h 0 O O O λw h=>O4 h 0 O O (O4 h 0 O O (I2 h O λb5 w h=>A4.Yb (u:=⟨_,_,0#16,⟨_,_,_,_⟩,⟨_,_⟩,⟨_,_⟩⟩) (Ca.of (w9:=56) kn O O O O O O) h 2 O O 0 O O O m4 (λ_ _=>rfl) λa2 Q w h=>i5 ⟨k-1,m4,i+1,_,_,a++[⟨7,0,0#16,p.key,X0,p.val⟩],rfl,m4,s.symm,h.q 7 [2,3,4,5,6] O⟩)))
  ·have e:N0.take i.toNat=N0:=sd m4;rw[e]at b;refine U0 h 4 O O ?_;obtain⟨pre,v⟩:∃pre,a=pre:=⟨_,rfl⟩;rw[v]at b N h;rw[<-b];refine p5.A6 kn [1,3,4,35,36,37] (λk vs w'=>∃(i:Int)(d:Option Addr)(f:Nat)(a:List A5),vs=[Pt b1,.bool false,.slice d a.length f,.slice t8 L5.length ct,I L5.length,I i]∧(0<=i∧i+k=L5.length∧(a.length:Int)<=65+2000002*i)∧(a=pre++((L5.take i.toNat).map Dd.tx).flatMap λ(x:xf)=>x.S0 N0)∧Hp _ w' (so 195 za d f a::so 157 F2 ab cb N0::so 260 Hq t8 ct L5::wr L5::bk b1 [.slice ab N0.length cb,.slice t8 L5.length ct] 192::R)) L5.length ⟨0,_,_,pre,by rw[v];rfl,m4,Zb3,h⟩ ?_;rintro k _ w1 H ⟨i,a1,L,a,rfl,C,b,h⟩;refine BR.T5 (λF=>?_) λF=>?_
   ·obtain⟨x,o⟩:∃x,i3 L5 i.toNat=some x:=⟨L5[i.toNat],by rw[Z0,d8]⟩;have r:(i+1).toNat=i.toNat+1:=m4
    have hwx:=z x (by grind[Z0]);have Y:=gW (N0:=N0) hwx;have s:pre++((L5.take (i+1).toNat).map Dd.tx).flatMap (λ(x:xf)=>x.S0 N0)=a++x.tx.S0 N0:=by rw[r,O7 o,b,N',ic,wI];simp
    refine jd h 2 O λK y M=>Oa.sl h 2 O Zb9 Zb9 (I2 h O λJ w h=>J3 h 0 O O O λw h=>O4 h 0 O O (U0 h 5 O O (ga (afY (x:=x) (N0:=N0) (h.WX (j:=4) O o) (h.Z4 2 O) m4 m4) λa2 Q w D=>?_)));replace h:=h.H6 D;refine A4.Pk (Ca.of (w9:=56) kn O O O O O O) h 2 O O O (h.Ew 0 O) m4 (λ_ _=>rfl) λa3 S w h=>i5 ⟨k-1,m4,i+1,_,_,a++x.tx.S0 N0,rfl,?_,s.symm,h.q 7 [2,3,4,5,6] O⟩;grind
   ·have e:L5.take i.toNat=L5:=sd m4;rw[e]at b;rw[<-b];skip;exact⟨_,_,a,rfl,rfl,h.q 5 [0,1,2,3] O⟩
 ·rw[m,S1 O]at n;rw[n];skip;replace h:=h.G4 195 za;exact⟨none,0,[],rfl,rfl,h.q 5 [0,1,2,3] O⟩
end
def jH(B5:List (Int×w4))(l:List W5):List (Int×w4):=l.foldl (λ(m:List (Int×w4))(w:W5)=>U7 m w.tx) B5
theorem vK{B5:List (Int×w4)}{l:List W5}{x:W5}(h:i3 l i=some x):jH B5 (l.take (i+1))=U7 (jH B5 (l.take i)) x.tx:=by unfold jH;rw[O7 h,Qh];rfl
section
theorem BM{Mh ql:List W5}{j:Nat}(a:(S4 t.B0 k).1.R3=ql)(h:R5.on ql.length ⟨(S4 t.B0 k).1.N4,ql⟩=⟨Mh,ql.drop j⟩)(b:j<=ql.length):t.on k={t with B5:=jH t.B5 (ql.take j),B0:=if Mh.length+(ql.length-j)=0 then U7 (S4 t.B0 k).2 k else R1 (S4 t.B0 k).2 k ⟨Mh,ql.drop j⟩}:=by subst a;unfold L3.on;rw[Me];simp only;have e:R5.on (S4 t.B0 k).1.R3.length (S4 t.B0 k).1=⟨Mh,(S4 t.B0 k).1.R3.drop j⟩:=h;rw[e];simp only[List.length_drop];rw[show(S4 t.B0 k).1.R3.length-((S4 t.B0 k).1.R3.length-j)=j by omega];rfl
theorem jR(h:Hp c w (W7 b t::R))(C:TB n t)(S:n<=80000000):Cr 348 #[Pt b,k.v] w c (.tuple #[]) (W7 b (t.on k)::R):=by
 have Q:=C.row k;refine R2 func348 O (I2 h O λb1 w h=>O4 h 0 O O (wg ((h.g [1] O).W6) λs u h=>He (Cw h) λf w h=>pg h.Va λN L p z h=>U0 h 0 O O (xb (agk h aok) ?_)));rintro _ w ⟨d,a1,r,aq1,cq1,j,rfl,f1,h⟩;refine U0 h 0 O O ?_;obtain⟨o,J,H,X⟩:=f1;have hqc:=(h.Z4 2 O).cap;have e:=BM (t:=t) (k:=k) O J o;rw[e];refine i5 (RD.Vh (m:=d) kn O O O (V4 some m4) ⟨m4,hqc⟩ (p5.A6 kn [0,3,4,26,27,28] (λm vs w'=>∃(i:Int),vs=[Pt b,Pt b1,Pt f,.slice p d z,I d,I i]∧(0<=i∧i+m=d)∧Hp c w' (bk f [.slice a1 j.length r,.slice aq1 ((S4 t.B0 k).1.R3.length-d) cq1] 439::so 448 J4 a1 r j::so 448 J4 p z (S4 t.B0 k).1.R3::mh w4.v Pb s (S4 t.B0 k).2 k f::bk b [I t.S5,.map (some s),.map (some u)] 432::mo I w4.v u (jH t.B5 ((S4 t.B0 k).1.R3.take i.toNat))::bk b1 [B8 k.a,B8 k.b,B8 k.x,B8 k.y] 35::R)) d ⟨0,rfl,m4,h⟩ ?_));rintro m _ w1 V ⟨i,rfl,T,h⟩;refine BR.T5 (λE=>?_) λE=>?_
 ·obtain⟨x,l⟩:∃x,i3 (S4 t.B0 k).1.R3 i.toNat=some x:=⟨(S4 t.B0 k).1.R3[i.toNat],by rw[Z0,d8]⟩;have K:=vK (B5:=t.B5) l;have F:(i+1).toNat=i.toNat+1:=m4
  rw[<-F]at K;refine Jc.bW h 2 O m4 o λY M A=>Oa.sl h 2 O A l (I2 h O λb2 w h=>J3 h 0 O O O λw h=>Y6 h [0,1,2,4,3,55,106] λh=>U3 5 O O (U0 h 0 O O ⟨h,A4.qk Lh h 6 O _ O O O λw h=>i5 ⟨(m-1),?_,_,rfl,?_,Hp.subst (h.q 8 [1,2,3,4,5,6,7] O) ?_⟩⟩))
  ·omega
  ·omega
  ·grind[]
 ·have G:i.toNat=d:=m4
  rw[G]at h;refine sv [0,1,2,5,6,7,3,4,8,9,10,11] ?_;replace h:=h.drew;refine U0 h 0 O O (U0 h 0 O O (i5 (BR.eq (λD=>?_) λD=>?_)))
  ·rw[S1 m4];refine Y6 h [0,1,2,3,54,105] λh=>U3 4 O O (O4 h 6 O O ⟨h,A4.air nB (h.g [3] O) O O λw h=>?_⟩);replace h:=Hp.V6 (h.g [4,0,5] O);exact⟨rfl,h.q 5 [0] O⟩
  ·rw[V0 m4];replace h:=H.VF (h.g [2] O);rw[<-Ve]at h;replace h:=(Hp.z8 (h.g [1,2] O));replace h:=h.V';replace h:=Hp.V6 (h.g [1] O);exact⟨rfl,h.q 2 [0] O⟩
end
theorem ee(l:List W5)(tx:Int):(Gg l tx).length<=l.length:=Rh _ _
theorem qh{κ β:Type}[DecidableEq κ]:∀{xs:List (κ×β)}{k:κ}{v:β},(R1 xs k v).length<=xs.length+1
 |[],_,_=>by simp[R1]
 |(a,x)::xs,k,v=>by have:=qh (xs:=xs) (k:=k) (v:=v);grind[R1]
theorem Z7{κ β:Type}[DecidableEq κ]:∀{xs:List (κ×β)}{k:κ}{v w:β},K0 xs k=some w->(R1 xs k v).length=xs.length
 |[],_,_,_,h=>by cases h
 |(a,x)::xs,k,v,w,h=>by
  unfold K0 at h;unfold R1;by_cases e:k=a
  ·grind
  ·rw[V0 e]at h;rw[V0 e,ze,ze,Z7 h]
theorem dS(B0:List (w4×R5))(k:w4)(r:R5):(R1 (S4 B0 k).2 k r).length<=B0.length+1:=by grind[Z7,fG,S4,qh]
theorem Tq{x:w4×R5}(h:x∈(S4 B0 k).2):x∈B0∨x=(k,ya):=by grind[S4,Sa]
theorem Uj{r:R5}:∀{B0:List (w4×R5)}{k:w4},K0 B0 k=none->Kf (R1 B0 k r)=Kf B0+r.sz
 |[],k,_=>by simp[R1,Kf]
 |(a,x)::l,k,h=>by
  unfold K0 at h;by_cases e:k=a
  ·simp_all
  ·rw[V0 e]at h;have:=Uj (r:=r) h;unfold R1;rw[V0 e];grind[Kf]
theorem Ws{r v:R5}:∀{B0:List (w4×R5)}{k:w4},K0 B0 k=some v->Kf (R1 B0 k r)+v.sz=Kf B0+r.sz
 |[],k,h=>by cases h
 |(a,x)::l,k,h=>by
  unfold K0 at h;by_cases e:k=a
  ·rw[S1 e]at h;injection h with h;have h:x=v:=h;subst h;unfold R1;rw[S1 e];grind[Kf]
  ·rw[V0 e]at h;have:=Ws (r:=r) h;unfold R1;rw[V0 e];grind[Kf]
theorem Xs(B0:List (w4×R5))(k:w4)(r:R5):Kf (R1 (S4 B0 k).2 k r)+(S4 B0 k).1.sz=Kf B0+r.sz:=by rw[Ws (fG B0 k)];grind[S4,ya,R5.sz,Uj]
theorem Pw(h:TB n t)(c:∀x∈r.R3,0<=x.ec∧x.ec<=1099511627776):∀x∈R1 (S4 t.B0 k).2 k r,∀y∈x.2.R3,0<=y.ec∧y.ec<=1099511627776:=by
 intro x a;rcases Sa a with rfl|a
 ·exact c
 ·rcases Tq a with a|rfl
  ·exact h.mem x a
  ·intro y b;cases b
theorem TB.set(h:TB n t){B5:List (Int×w4)}(b:r.N4.length+r.R3.length<=(S4 t.B0 k).1.N4.length+(S4 t.B0 k).1.R3.length+1)(a:∀x∈r.R3,0<=x.ec∧x.ec<=1099511627776):TB (n+1) ⟨t.S5,R1 (S4 t.B0 k).2 k r,B5⟩:=by
 refine⟨Pw h a,?_,?_,h.S5⟩
 ·have d:=Xs t.B0 k r;have c:=h.sum;show Kf (R1 (S4 t.B0 k).2 k r)<=n+1;grind[R5.sz]
 ·have:=dS t.B0 k r;have:=h.H';grind
theorem Bi{l:List W5}{x:W5}(h:x∈Gg l tx):x∈l:=(Aq.1 h).1
def Tw(t:L3)(tx:Int)(k:w4):L3:=⟨t.S5,R1 (S4 t.B0 k).2 k ⟨(S4 t.B0 k).1.N4,Gg (S4 t.B0 k).1.R3 tx⟩,U7 t.B5 tx⟩
theorem Ys(h:K0 t.B5 tx=some k):t.Vq tx=(true,(Tw t tx k).on k):=by simp_all[L3.Vq,Tw,Me]
theorem Zs(h:K0 t.B5 tx=none):t.Vq tx=(false,t):=by unfold L3.Vq;rw[h]
section
theorem agB(h:Hp c w (W7 b t::R))(a:TB n t)(p:n<=70000000):Cr 327 #[Pt b,I tx] w c (.bool (t.Vq tx).1) (W7 b (t.Vq tx).2::R):=by
 obtain⟨o,d⟩:∃o,K0 t.B5 tx=o:=⟨_,rfl⟩;cases o with
 |none=>rw[Zs d];refine R2 func327 O (wg h.W6 λf i h=>U0 h 0 O O (RD.wK Lh h 2 O _ Zb9 (I2 h O λb1 w h=>J3 h 0 O O O λw h=>Q5 ?_)));replace h:Hp _ _ (W7 _ (t)::_):=Hp.V6 (h.g [1,2,3] O);exact⟨rfl,h.q 2 [0] O⟩
 |some k=>rw[Ys d];have v:=a.row k;have r:=ee (S4 t.B0 k).1.R3 tx;have s:TB (n+1) ⟨t.S5,R1 (S4 t.B0 k).2 k ⟨(S4 t.B0 k).1.N4,Gg (S4 t.B0 k).1.R3 tx⟩,U7 t.B5 tx⟩:=a.set Zb1 (λx e=>a.Ag k x (Bi e));refine R2 func327 O (wg h.W6 λf i h=>U0 h 0 O O (RD.lH Lh h 2 O _ Zb9 (I2 h O λb1 w h=>J3 h 0 O O O λw h=>m5 (U0 h 1 O O (A4.qk Lh h 3 O _ O O O λw h=>O4 h 0 O O (He (Cw (h.g [1,2] O)) λj w h=>pg h.Va λm l u y h=>?_))))));refine U0 h 0 O O (N1 (WL (h.g [2] O) m4) λw h=>J3 h 1 O O O λw h=>O4 h 5 O O ?_);replace h:=Hp.z8 (h.g [1,2] O);replace h:=h.V';replace h:=Hp.V6 (h.g [1,0,3] O);exact N1 (jR h Zb9 m4) λw h=>⟨rfl,h.q 2 [0] O⟩
end
theorem aaS{P:Prop}(h:P:=by exact Sb (λa b=>by grind[y']) (λa b c h1 h2=>by rw[y']at*;omega) _):P:=h
theorem TF{xs ys:List w4}(h:xs.Perm ys):X7 xs=X7 ys:=by
 refine List.Perm.eq_of_pairwise (le:=λx y=>Fx x y=true) ?_ ?_ ?_ ?_
 ·grind[y',Hx]
 ·exact aaS
 ·exact aaS
 ·exact((H5 _).trans h).trans (H5 _).symm
def UG(is:R5->Bool)(B0:List (w4×R5))(k:w4):Bool:=match K0 B0 k with
 |some r=>is r
 |none=>false
theorem TG{is:R5->Bool}:∀{B0:List (w4×R5)},(B0.map (·.1)).Nodup->((B0.filter λx=>is x.2).map (·.1))=(B0.map (·.1)).filter (UG is B0):=by
 intro B0 b;have gen:∀(l:List (w4×R5)),(∀x∈l,K0 B0 x.1=some x.2)->((l.filter λx=>is x.2).map (·.1))=(l.map (·.1)).filter (UG is B0):=by
  intro l;induction l with
  |nil=>intro _;rfl
  |cons x l c=>grind[UG]
 exact gen B0 λx a=>Ud b a
def akz(f:Nat)(lb:List Value)(c:World)(M:HP)(n:Nat)(is:R5->Bool):Prop:=∀(w:World)(p:Nat)(r:R5)(R:List HP),r.N4.length<=n->Hp c w (M::Pb p r::R)->Cs f (Pt p::lb).toArray w (Zb c (.bool (is r)) (M::Pb p r::R))
section
theorem NY{i:Nat}{f:Nat}{lb:List Value}{M:HP}{is:R5->Bool}(H:akz f lb c M n is)(K:Ck f=true)(h:Hp c w (M::bk b [I Hv,.map (some m),.map (some i)] 432::mr w4.v Pb m B0::R))(J:∀k r,K0 B0 k=some r->r.N4.length<=n)(Y:B0.length<=1000000000):Cs 274 #[Pt b,.func (.func f) #[] lb.toArray] w (λe w'=>∃a d,e= .returned (.slice a (X7 ((B0.filter λx=>is x.2).map (·.1))).length d)∧Hp c w' (so 35 nh a d (X7 ((B0.filter λx=>is x.2).map (·.1)))::M::bk b [I Hv,.map (some m),.map (some i)] 432::mr w4.v Pb m B0::R)):=by
 refine R2 func274 O (U0 h 1 O O (A4.dt (by exact Vi O O) (h.g [2] O) O λo w G h=>?_));replace h:=h.G4 35 nh;refine p5.A6 kn [1,5,12] (λk vs w'=>∃(done left ks:List w4)(a:Option Addr)(d:Nat),vs=[.func (.func f) #[] lb.toArray,.slice a ks.length d,Pt o]∧(left.length=k∧(done++left).Perm (B0.map (·.1))∧ks=done.filter (UG is B0))∧Hp c w' (so 35 nh a d ks::PO w4.v Pb m o B0 left::M::bk b [I Hv,.map (some m),.map (some i)] 432::R)) (B0.map (·.1)).length ⟨[],_,[],none,0,rfl,⟨rfl,tj _,rfl⟩,h⟩ ?_;rintro k _ w1 V ⟨done,left,ks,a1,A,rfl,⟨D,j,z⟩,h⟩;have X:ks.length<=B0.length:=by have T:=Rh (UG is B0) done;have L:=j.length_eq;rw[j7,H7]at L;rw[z];omega
 refine A4.mG (h.g [1] O) O (λe h0=>?_) λl1 e l2 p s w' F hs h=>?_
 ·subst e;clear h;have h:=h0;rw[Jb]at j;have hpk:ks.Perm ((B0.filter λx=>is x.2).map (·.1)):=by rw[TG G,z];exact j.filter _
  rw[<-TF hpk];have N:(X7 ks).length=ks.length:=(H5 _).length_eq;exact m5 (N1 (oR (h.g [1] O) m4) λw h=>⟨a1,A,V4 (λn=>Ending.returned (Value.slice a1 n A)) N.symm,h.g [0,2,3] O⟩)
 ·have Q:=J e s hs;have t:(done++[e]).filter (UG is B0)=ks++if is s=true then[e]else[]:=by
   rw[uv,<-z,xz,List.filter_nil];have:UG is B0 e=is s:=by unfold UG;rw[hs]
   rw[this]
  have C:((done++[e])++(l1++l2)).Perm (B0.map (·.1)):=by refine List.Perm.trans ?_ j;rw[F,N',jz];exact wC _ List.perm_middle.symm
  have l:(l1++l2).length=k-1∧k-1<k:=by rw[F]at D;simp at D⊢;omega
  refine Q5 (A4.Zw (h.g [1] O) O (I2 h O λb1 w h=>J3 h 0 O O O λw h=>od.by K (H _ _ _ _ Q (h.g [4,1] O)) ?_));rintro _ w ⟨rfl,h⟩;have E:∀{w:World}{ks:List w4}{a:Option Addr}{d:Nat},Hp c w (Pb p s::HZ w4.v Pb m o B0 (l1++l2) e p::so 35 nh a d ks::M::bk b [I Hv,.map (some m),.map (some i)] 432::R)->Hp c w (so 35 nh a d ks::PO w4.v Pb m o B0 (l1++l2)::M::bk b [I Hv,.map (some m),.map (some i)] 432::R):=by intro w ks a d h;have h:=h.Wp;rw[E' hs]at h;exact h.g [1] O
  refine BR.O' (λy=>?_) λy=>?_
  ·rw[y,S1 O]at t;exact O4 h 2 O O (I2 h O λb2 w h=>A4.Yb (u:=⟨_,_,_,_⟩) (Ca.of (w9:=4) kn O O O O O O) h 5 O O 0 O O O m4 (λ_ _=>rfl) λa2 S w h=>⟨k-1,l.2,_,_,_,a2,S,rfl,⟨l.1,C,t.symm⟩,E (h.q 7 [2,4,5,1,6] O)⟩)
  ·rw[y,V0 Zb4,Jb]at t;skip;exact⟨k-1,l.2,_,_,_,a1,A,rfl,⟨l.1,C,t.symm⟩,E (h.q 6 [1,3,4,0,5] O)⟩
theorem agP{M:HP}(h:Hp c w (M::Pb p r::R)):Cr 275 #[Pt p] w c (.bool (decide ((r.N4.length:Int)>0))) (M::Pb p r::R):=by refine R2 func275 O ?_;replace h:=h.g [1] O;exact pg h.Va λb a d e h=>U0 h 0 O O ⟨rfl,(Hp.z8 h).g [1] O⟩
theorem afC{a:Nat}(h:Hp c w (bk a [I tx] 3::Pb p r::R))(e:r.N4.length<=100000000):Cr 450 #[Pt p,Pt a] w c (.bool (decide (Ii r.N4 tx>=0))) (bk a [I tx] 3::Pb p r::R):=by refine R2 func450 O (U0 h 0 O O (pg ((h.g [1] O).Va) λd b f i h=>N1 (nR h Zb9) λw h=>?_));replace h:Hp _ _ (Pb _ (r)::_):=Hp.z8 h;exact⟨rfl,h.g [1] O⟩
theorem DR(h:Hp c w (W7 b t::R))(a:TB n t)(m:n<=80000000):Cs 217 #[Pt b] w (λe w'=>∃d i,e= .returned (.slice d t.Cc.length i)∧Hp c w' (so 35 nh d i t.Cc::W7 b t::R)):=by
 have hrw:∀k r,K0 t.B0 k=some r->r.N4.length<=n:=λk r h=>by have:=a.B0 k r h;omega
 have hct:=a.H';exact R2 func217 O (wg h.W6 λo l h=>ga (NY (f:=275) (lb:=[]) (n:=n) (M:=mo I w4.v l t.B5) (is:=λr=>decide ((r.N4.length:Int)>0)) (λ_ _ _ _ _ h=>agP h) O (h.g [2] O) hrw m4) λa1 j w h=>⟨a1,j,rfl,(Hp.V6 (h.g [2,3,1] O)).g [1] O⟩)
theorem sY(h:Hp c w (W7 b t::R))(a:TB n t)(m:n<=80000000):Cs 447 #[Pt b,I tx] w (λe w'=>∃i j,e= .returned (.slice i (t.U1 tx).length j)∧Hp c w' (so 35 nh i j (t.U1 tx)::W7 b t::R)):=by
 have hrw:∀k r,K0 t.B0 k=some r->r.N4.length<=n:=λk r h=>by have:=a.B0 k r h;omega
 have hct:=a.H';exact R2 func447 O (wg h.W6 λp s h=>I2 h O λd w h=>ga (NY (f:=450) (lb:=[Pt d]) (n:=n) (M:=bk d [I tx] 3) (is:=λr=>decide (Ii r.N4 tx>=0)) (λ_ _ _ _ o h=>afC h m4) O h hrw m4) λa1 l w h=>⟨a1,l,rfl,(Hp.V6 (h.q 5 [2,3,4,0] O)).g [1] O⟩)
end
theorem RD.nek{C:World->Prop}{K:Value->Prop}{x y:Operand}{p q:w4}(k:K (.bool (!decide (p=q)))):RD prog C (do eqGuard .neq 35 x y p.v q.v;Go.binOp .neq 35 p.v q.v) K:=by rw[<-QG]at k;exact RD.xV (xs:= #[B8 p.a,B8 p.b,B8 p.x,B8 p.y]) (ys:= #[B8 q.a,B8 q.b,B8 q.x,B8 q.y]) Zb2 Zb2 O O k
section
def Oc(l:List w4):List w4:=D6 (λ(a b:w4)=>decide (a=b)) l
theorem bC(l:List w4)(h:l.length<2):Oc l=l:=by
 match l,h with
 |[],_=>simp[Oc,D6]
 |[x],_=>simp[Oc,cB1]
theorem afE{xs:List w4}(h:Hp c w (so 35 nh a cap xs::R))(hb:xs.length<=1000000000):Cr 448 #[.slice a xs.length cap] w c (.slice a (Oc xs).length cap) (so 35 nh a cap (Oc xs)::R):=by
 refine R2 func448 O (BR.T5 (λg1=>?_) λg1=>?_)
 ·rw[bC xs m4];exact⟨rfl,h⟩
 obtain⟨N,SD⟩:=h.Ch 0 rfl;refine p5.A6 kn [0,3] (λm vs w'=>∃(k:Int),vs=[.slice a xs.length cap,I k]∧(1<=k∧k<=xs.length∧m=(xs.length-k).toNat)∧Oc (xs.take k.toNat)=xs.take k.toNat∧Hp c w' (so 35 nh a cap xs::R)) (xs.length-1) ⟨1,rfl,m4,bC _ Zb5,h⟩ ?_;rintro m _ w1 e0 ⟨k,rfl,hk,hck,h⟩;refine BR.T5 (λg2=>?_) λg2=>?_
 ·obtain⟨x,D⟩:∃x,i3 xs (k.toNat-1)=some x:=⟨xs[k.toNat-1],by rw[Z0,d8]⟩;obtain⟨y,A⟩:∃y,i3 xs k.toNat=some y:=⟨xs[k.toNat],by rw[Z0,d8]⟩;have L:Oc (xs.take (k.toNat+1))=if y=x then Oc (xs.take k.toNat)else Oc (xs.take k.toNat)++[y]:=Wh (λ(p:w4)=>p) m4 D A
  have Q:i3 xs (k-1).toNat=some x:=by rw[show(k-1).toNat=k.toNat-1 by omega];exact D
  refine sv [0,1,2,4,5,6,7,3,8,9] ?_;replace h:=h.drew;refine jd h 0 O λb1 T J=>i5 (jd h 0 O λb2 S K=>Oa.sl h 0 O Zb9 A (Oa.sl h 0 O Zb9 Q (RD.eqk (p:=y) (q:=x) (BR.T5 (λo=>?_) λo=>?_))))
  ·rw[S1 o]at L;refine RD.cut (l:=k.toNat) kn O O (Xr m4) O m4 ?_;have hCl:(Oc (xs.take k.toNat)).length=k.toNat:=by rw[hck,Ga];omega
   refine p5.A6 kn [0,3,4,5] (λm vs w'=>∃(q b:Int)(G:List w4),vs=[.slice a xs.length cap,I q,.slice (if cap=k.toNat then a else a.map (·.add (k.toNat*nh.sz))) (xs.length-k.toNat) (cap-k.toNat),I b]∧(1<=b∧k+b<=xs.length∧m=(xs.length-k-b).toNat∧q=(Oc (xs.take (k+b).toNat)).length∧q+G.length+1=k+b)∧Hp c w' (so 35 nh a cap (Oc (xs.take (k+b).toNat)++G++xs.drop ((k+b).toNat-1))::R)) (xs.length-k-1).toNat ⟨k,1,[],rfl,⟨m4,m4,m4,?_,?_⟩,?_⟩ ?_
   ·grind
   ·simp
   ·rw[show(k+1).toNat=k.toNat+1 by omega];simp_all
   ·rintro r _ w2 e2 ⟨q,b,G,rfl,Y,h⟩;obtain⟨C,i⟩:∃C,Oc (xs.take (k+b).toNat)=C:=⟨_,rfl⟩;obtain⟨M,H⟩:∃M,(k+b).toNat=M:=⟨_,rfl⟩;rw[i,H]at h;rw[i]at Y;refine BR.T5 (λg4=>?_) λg4=>?_
    ·have hMl:M<xs.length:=m4
     obtain⟨u,F⟩:∃u,i3 xs (M-1)=some u:=⟨xs[M-1],by rw[Z0,d8]⟩;obtain⟨v,E⟩:∃v,i3 xs M=some v:=⟨xs[M],by rw[Z0,d8]⟩;have f:Oc (xs.take (M+1))=if v=u then Oc (xs.take M)else Oc (xs.take M)++[v]:=Wh (λ(p:w4)=>p) m4 F E
     have d:=ud xs (M-1) u F;rw[show M-1+1=M by omega]at d;have eA:=ud xs M v E;have r7:(C++G++xs.drop (M-1)).length=xs.length:=Zb5
     have AB:(C++G).length=M-1:=Zb5
     have hnu:i3 (C++G++xs.drop (M-1)) (k.toNat+(b-1).toNat)=some u:=by rw[d,show k.toNat+(b-1).toNat=(C++G).length by omega];exact qc _ _ _
     have s:i3 (C++G++xs.drop (M-1)) (k.toNat+b.toNat)=some v:=by rw[d,eA,show C++G++u::v::xs.drop (M+1)=(C++G++[u])++v::xs.drop (M+1) by simp,show k.toNat+b.toNat=(C++G++[u]).length by simp;omega];exact qc _ _ _
     refine sv [0,1,2,4,5,6,7,3,8,9] ?_;replace h:=h.drew;refine Jc.drp h 0 O m4 m4 λb1 T J=>i5 (Jc.drp h 0 O m4 m4 λb2 S K=>Oa.sl h 0 O J s (Oa.sl h 0 O K hnu (RD.nek (p:=v) (q:=u) ?_)));have eM:(k+(b+1)).toNat=M+1:=m4
     refine BR.not (BR.T5 (λj=>?_) λj=>?_)
     ·rw[S1 j]at f;have e5:Oc (xs.take (M+1))=C:=f.trans Zb1;refine i5 ⟨r-1,m4,q,b+1,G++[u],rfl,?_,?_⟩
      ·grind
      simp_all
     ·rw[V0 j]at f;have e5:Oc (xs.take (M+1))=C++[v]:=f.trans Zb1;refine Jc.drp h 0 O m4 m4 λb3 o3 V=>Oa.sl h 0 O V s ?_;obtain⟨z,Z,t⟩:∃z Z,G++[u]=z::Z:=by
       cases G with
       |nil=>simp
       |cons g G=>simp
      have YO:=V4 List.length t;simp at YO;have Rd:C++G++xs.drop (M-1)=C++z::(Z++xs.drop M):=by rw[d,show C++G++u::xs.drop M=C++(G++[u])++xs.drop M by simp,t];simp
      have hnz:i3 (C++G++xs.drop (M-1)) q.toNat=some z:=by rw[Rd,show q.toNat=C.length by omega];exact qc _ _ _
      refine Yt h 0 O λb4 o4 X=>ST.qf (y:=v) h 0 O X hnz O O O O O λw h=>i5 (i5 ⟨r-1,m4,q+1,b+1,Z,rfl,?_,?_⟩)
      ·grind
      simp_all
    ·have hMl:M=xs.length:=m4
     have hC2:Oc xs=C:=by rw[<-i,H,hMl,jg]
     rw[hC2];have hql:q.toNat=C.length:=m4
     obtain⟨n,hn⟩:∃n,xs.length=n:=⟨_,rfl⟩;rw[hn]at N⊢;replace h:=h.so_take 0 C.length O Zb3 O;rw[N',Bq]at h;exact RD.cut (l:=C.length) (m:=n) kn O O (show some q=some (C.length:Int) by congr 1;omega) O m4 (A4.FX (Ca.of kn O O O O O O) O h 0 O O m4 λw h=>RD.Vh (m:=C.length) kn O O O (show some q=some (C.length:Int) by congr 1;omega) m4 ⟨rfl,h⟩)
  ·rw[V0 o]at L;refine i5 ⟨m-1,m4,k+1,rfl,m4,?_,h⟩;rw[show(k+1).toNat=k.toNat+1 by omega];simp_all[List.take_add_one,Z0]
 ·have e:xs.take k.toNat=xs:=by rw[show k.toNat=xs.length by omega,jg]
  rw[e]at hck;rw[hck];exact⟨rfl,h⟩
end
theorem aaR{P:Prop}(h:P:=by replace h:Hp _ _ (W7 _ (t)::_):=Hp.V6 (h.g [1,2,3] O);exact⟨rfl,h.q 3 [0] O⟩):P:=h
theorem OJ:∀(f:Nat)(r:R5),(R5.on f r).N4.length+(R5.on f r).R3.length<=r.N4.length+r.R3.length∧∀x∈(R5.on f r).R3,x∈r.R3
 |0,r=>⟨V7 _,λx h=>h⟩
 |f+1,⟨hs,[]⟩=>⟨V7 _,λx h=>h⟩
 |f+1,⟨hs,y::q⟩=>by
  have e:R5.on (f+1) ⟨hs,y::q⟩=if Gv hs y=true then R5.on f ⟨Zc hs y,q⟩else⟨hs,y::q⟩:=by show(if R5.Um _ _=true then _ else _)=_;rw[Hn];rfl
  rw[e];by_cases a:Gv hs y=true
  ·rw[S1 a];obtain⟨c,b⟩:=OJ f ⟨Zc hs y,q⟩<;>grind[vo]
  simp[*]
theorem TB.up(h:TB n t)(a:n<=m):TB m t:=⟨h.mem,j9 h.sum a,j9 h.H' a,h.S5⟩
theorem TB.B5(h:TB n t)(ws:List (Int×w4)):TB n ⟨t.S5,t.B0,ws⟩:=⟨h.mem,h.sum,h.H',h.S5⟩
theorem Ij{κ β:Type}[DecidableEq κ]:∀{xs:List (κ×β)}{k:κ}{v:β},K0 xs k=none->(U7 (R1 xs k v) k).length<=xs.length
 |[],_,_,_=>by simp[R1,U7]
 |(a,x)::xs,k,v,h=>by
  unfold K0 at h;by_cases e:k=a
  ·simp_all
  ·rw[V0 e]at h;have:=Ij (v:=v) h;simp_all[R1,U7]
theorem bo:∀(B0:List (w4×R5))(k:w4),Kf (U7 B0 k)<=Kf B0
 |[],_=>V7 _
 |(a,x)::l,k=>by have:=bo l k;grind[U7,Kf]
theorem TB.on(h:TB n t)(k:w4):TB n (t.on k):=by
 obtain⟨c,j⟩:=OJ (S4 t.B0 k).1.R3.length (S4 t.B0 k).1;have m:=h.row k;have anS:=h.Ag k;have hct:=h.H';obtain⟨r,f⟩:∃r,R5.on (S4 t.B0 k).1.R3.length (S4 t.B0 k).1=r:=⟨_,rfl⟩;have l:(t.on k).S5=t.S5:=by unfold L3.on;rw[Me]
 have d:(t.on k).B0=if r.N4.length+r.R3.length=0 then U7 (S4 t.B0 k).2 k else R1 (S4 t.B0 k).2 k r:=by unfold L3.on;rw[Me];simp only;rw[f]
 have e:t.on k=⟨t.S5,if r.N4.length+r.R3.length=0 then U7 (S4 t.B0 k).2 k else R1 (S4 t.B0 k).2 k r,(t.on k).B5⟩:=by rw[<-d,<-l]
 rw[f]at c j;rw[e];have h0:ya.sz=0:=rfl;refine⟨λx a=>?_,?_,?_,h.S5⟩
 ·have a:x∈(if r.N4.length+r.R3.length=0 then U7 (S4 t.B0 k).2 k else R1 (S4 t.B0 k).2 k r):=a;split at a
  ·rcases Tq (Qk a)with a|rfl
   ·exact h.mem x a
   ·intro y g;cases g
  grind[Pw]
 ·show Kf (if r.N4.length+r.R3.length=0 then U7 (S4 t.B0 k).2 k else R1 (S4 t.B0 k).2 k r)<=n;have hs:=h.sum;split
  ·have i:=bo (S4 t.B0 k).2 k;have o:Kf (S4 t.B0 k).2=Kf t.B0:=by
    unfold S4;cases b:K0 t.B0 k with
    |some x=>rfl
    |none=>show Kf (R1 t.B0 k ya)=_;rw[Uj b];rfl
   omega
  ·have i:=Xs t.B0 k r;grind[R5.sz]
 ·show(if r.N4.length+r.R3.length=0 then U7 (S4 t.B0 k).2 k else R1 (S4 t.B0 k).2 k r).length<=n;cases b:K0 t.B0 k with
  |some x=>
   have d:S4 t.B0 k=(x,t.B0):=by unfold S4;rw[b]
   grind[us,Z7]
  |none=>
   have d:S4 t.B0 k=(ya,R1 t.B0 k ya):=by unfold S4;rw[b]
   rw[d]at c⊢;have c:r.N4.length+r.R3.length<=0:=c;rw[S1 m4];exact j9 (Ij b) hct
section
theorem afL(h:Hp c w (W7 b t::R)):Cr 434 #[Pt b,I tx] w c (.tuple #[((K0 t.B5 tx).getD Y3).v,.bool (K0 t.B5 tx).isSome]) (W7 b t::R):=by
 obtain⟨o,a⟩:∃o,K0 t.B5 tx=o:=⟨_,rfl⟩;cases o with
 |none=>rw[a];refine R2 func434 O (I2 h O λb1 w h=>wg ((h.g [1] O).W6) λd e h=>U0 h 0 O O (RD.wK Lh h 2 O _ Zb9 (I2 h O λb2 w h=>J3 h 0 O O O λw h=>O4 h 0 O O (J3 h 4 O O O λw h=>O4 h 4 O O ?_))));exact aaR
 |some k=>rw[a];refine R2 func434 O (I2 h O λb1 w h=>wg ((h.g [1] O).W6) λd e h=>U0 h 0 O O (RD.lH Lh h 2 O _ Zb9 (I2 h O λb2 w h=>J3 h 0 O O O λw h=>O4 h 0 O O (J3 h 4 O O O λw h=>O4 h 4 O O ?_))));exact aaR
end
theorem aaQ{P:Prop}(h:P:=by
 refine N1 (WL (h.g [2] O) m4) λw h=>J3 h 2 O O O λw h=>i5 ?_;replace h:=Hp.z8 (h.g [2,1] O);replace h:=h.V';replace h:=Hp.V6 (h.g [1] O);refine⟨(m-1),?_,_,rfl,?_,Hp.subst (h.q 3 [0,2] O) ?_⟩
 ·omega
 ·omega
 ·grind[]):P:=h
theorem aaP{P:Prop}(h:P:=by have e2:K.take i.toNat=K:=sd (by omega);rw[e2]at h;exact⟨rfl,h.q 2 [0] O⟩):P:=h
theorem Bo(t:L3)(tx:Int)(k:w4):t.Fh tx k=⟨t.S5,R1 (S4 t.B0 k).2 k ⟨Gg (S4 t.B0 k).1.N4 tx,Gg (S4 t.B0 k).1.R3 tx⟩,t.B5⟩:=by unfold L3.Fh;rw[Me]
theorem TB.Fh(h:TB n t)(tx:Int)(k:w4):TB (n+1) (t.Fh tx k):=by rw[Bo];have d:=ee (S4 t.B0 k).1.N4 tx;have c:=ee (S4 t.B0 k).1.R3 tx;have b:=h.row k;exact h.set Zb1 (λx a=>h.Ag k x (Bi a))
def Oh(tx:Int)(l:List w4)(t:L3):L3:=l.foldl (λ(t:L3)(k:w4)=>t.Fh tx k) t
def NJ(l:List w4)(t:L3):L3:=l.foldl (λ(t:L3)(k:w4)=>t.on k) t
theorem Ay{l:List w4}(h:i3 l i=some k):Oh tx (l.take (i+1)) t=(Oh tx (l.take i) t).Fh tx k:=by unfold Oh;rw[O7 h,Qh];rfl
theorem uG{l:List w4}(h:i3 l i=some k):NJ (l.take (i+1)) t=(NJ (l.take i) t).on k:=by unfold NJ;rw[O7 h,Qh];rfl
theorem TB.Oh(tx:Int):∀(l:List w4)(t:L3),TB n t->TB (n+l.length) (Oh tx l t):=by
 intro l;induction l generalizing n with
 |nil=>intro t h;exact h
 |cons k l a=>intro t h;have:=a (n:=n+1) (t.Fh tx k) (h.Fh tx k);rw[ze,show n+(l.length+1)=n+1+l.length by omega];exact this
theorem TB.NJ{n:Nat}:∀(l:List w4)(t:L3),TB n t->TB n (NJ l t)
 |[],t,h=>h
 |k::l,t,h=>TB.NJ l (t.on k) (h.on k)
def Nh(t:L3)(tx:Int):List w4:=match K0 t.B5 tx with
 |some k=>t.U1 tx++[k]
 |none=>t.U1 tx
theorem WM(t:L3)(tx:Int):t.free tx=NJ (Oc (X7 (Nh t tx))) (Oh tx (Oc (X7 (Nh t tx))) ⟨t.S5,t.B0,U7 t.B5 tx⟩):=rfl
theorem pP(h:TB n t)(tx:Int):(Oc (X7 (Nh t tx))).length<=n+1:=by
 have f:=Ig (eq:=λ(a b:w4)=>decide (a=b)) _ (X7 (Nh t tx)) (V7 _);have d:(X7 (Nh t tx)).length=(Nh t tx).length:=(H5 _).length_eq;have c:(t.U1 tx).length<=n:=by have e:(t.U1 tx).length=_:=(H5 _).length_eq;rw[e,H7];exact j9 (Rh _ _) h.H'
 grind[Nh,Oc]
section
theorem QH{xs:List w4}(b:xs.length=n)(h:Hp c w (so 35 nh a cap xs::R))(d:xs.length<=1000000000):Cr 448 #[.slice a n cap] w c (.slice a (Oc xs).length cap) (so 35 nh a cap (Oc xs)::R):=by grind[afE]
theorem afG(h:Hp c w (W7 b t::R))(G:TB n t)(hn:n<=30000000):Cr 445 #[Pt b,I tx] w c (.tuple #[]) (W7 b (t.free tx)::R):=by
 rw[WM];have A:=pP G tx;have M:(Nh t tx).length<=30000001:=by
  have e:(t.U1 tx).length=_:=(H5 _).length_eq;have:=G.H';rw[H7]at e;have:=Rh (λ(x:w4×R5)=>(λr=>decide (R5.Bk r tx>=0)) x.2) t.B0;unfold Nh;split
  ·grind
  ·omega
 have L:TB n ⟨t.S5,t.B0,U7 t.B5 tx⟩:=G.B5 _;obtain⟨K,v⟩:∃K,Oc (X7 (Nh t tx))=K:=⟨_,rfl⟩;have C:(X7 (Nh t tx)).length=(Nh t tx).length:=(H5 _).length_eq;obtain⟨o,E⟩:∃o,K0 t.B5 tx=o:=⟨_,rfl⟩;cases o with
 |none=>
  have e:Nh t tx=t.U1 tx:=by unfold Nh;rw[E]
  have Z:U7 t.B5 tx=t.B5:=Wt E;rw[Z]at L⊢;rw[e]at A M v C⊢;rw[v]at A⊢;refine R2 func445 O (ga (sY h Zb9 m4) λa1 y w h=>wg ((h.g [1] O).W6) λF9 E8 h=>U0 h 0 O O (RD.wK Lh h 2 O _ Zb9 (I2 h O λb1 w h=>J3 h 0 O O O λw h=>m5 (N1 (oR (h.g [4] O) m4) λw h=>N1 (QH C h m4) λw h=>?_))));rw[v]at h⊢;replace h:=Hp.V6 (h.q 5 [2,3,4,0] O);refine p5.A6 kn [0,1,4,38,39,40] (λm vs w'=>∃(i:Int),vs=[Pt b,I tx,.slice a1 K.length y,.slice a1 K.length y,I K.length,I i]∧(0<=i∧i+m=K.length)∧Hp c w' (W7 b (Oh tx (K.take i.toNat) ⟨t.S5,t.B0,t.B5⟩)::so 35 nh a1 y K::R)) K.length ⟨0,rfl,m4,h⟩ ?_;rintro m _ w1 H ⟨i,rfl,F,h⟩;have a:=L.Oh tx (K.take i.toNat);rw[Ga]at a;obtain⟨T,f⟩:∃T,Oh tx (K.take i.toNat) ⟨t.S5,t.B0,t.B5⟩=T:=⟨_,rfl⟩;rw[f]at h a;have a:=a.up (show n+min i.toNat K.length<=70000000 by omega);refine BR.T5 (λl=>?_) λl=>?_
  ·obtain⟨x,d⟩:∃x,i3 K i.toNat=some x:=⟨K[i.toNat],by rw[Z0,d8]⟩;have s:=Ay (tx:=tx) (t:=⟨t.S5,t.B0,t.B5⟩) d;have p:(i+1).toNat=i.toNat+1:=m4
   rw[<-p,f,Bo]at s;have V:=a.row x;have Wx:=ee (S4 T.B0 x).1.N4 tx;refine jd h 1 O λJ D j=>Oa.sl h 1 O j d (I2 h O λb2 w h=>J3 h 0 O O O λw h=>O4 h 0 O O (wg ((h.g [1] O).W6) λadD S h=>He (Cw h) λN w h=>pg h.Va λX Q Y B' h=>U0 h 0 O O (N1 (WL (h.g [1] O) m4) λw h=>J3 h 1 O O O λw h=>U0 h 1 O O ?_)));exact aaQ
  ·have e2:K.take i.toNat=K:=sd m4;rw[e2]at f;rw[f];skip;refine p5.A6 kn [0,66,67,68] (λm vs w'=>∃(i:Int),vs=[Pt b,.slice a1 K.length y,I K.length,I i]∧(0<=i∧i+m=K.length)∧Hp c w' (W7 b (NJ (K.take i.toNat) T)::so 35 nh a1 y K::R)) K.length ⟨0,rfl,m4,h⟩ ?_;rintro m _ w1 H ⟨i,rfl,F,h⟩;have alL:=TB.NJ (K.take i.toNat) T a;refine BR.T5 (λl=>?_) λl=>?_
   ·obtain⟨x,d⟩:∃x,i3 K i.toNat=some x:=⟨K[i.toNat],by rw[Z0,d8]⟩;have s:=uG (t:=T) d;have p:(i+1).toNat=i.toNat+1:=m4
    rw[<-p]at s;refine jd h 1 O λJ D j=>Oa.sl h 1 O j d (I2 h O λb2 w h=>J3 h 0 O O O λw h=>O4 h 0 O O (N1 (jR (h.g [1] O) Zb9 m4) λw h=>i5 ⟨(m-1),?_,_,rfl,?_,Hp.subst (h.q 3 [0,2] O) ?_⟩))
    ·omega
    ·omega
    ·grind[]
   ·exact aaP
 |some k=>
  have e:Nh t tx=t.U1 tx++[k]:=by unfold Nh;rw[E]
  rw[e]at A M v C⊢;rw[v]at A⊢;refine R2 func445 O (ga (sY h Zb9 m4) λa1 y w h=>wg ((h.g [1] O).W6) λF9 E8 h=>U0 h 0 O O (RD.lH Lh h 2 O _ Zb9 (I2 h O λb1 w h=>J3 h 0 O O O λw h=>Q5 (O4 h 0 O O (I2 h O λb2 w h=>A4.Yb (u:=⟨_,_,_,_⟩) (Ca.of (w9:=4) kn O O O O O O) h 5 O O 0 O O O Zb1 (λ_ _=>rfl) λa2 z w h=>U0 h 2 O O ?_)))));refine A4.qk Lh h 4 O _ O O O λw h=>N1 (oR (h.g [5] O) aok) λw h=>N1 (QH C h m4) λw h=>?_;rw[v]at h⊢;replace h:=Hp.V6 (h.q 6 [3,4,5,0] O);refine p5.A6 kn [0,1,4,38,39,40] (λm vs w'=>∃(i:Int),vs=[Pt b,I tx,.slice a2 K.length z,.slice a2 K.length z,I K.length,I i]∧(0<=i∧i+m=K.length)∧Hp c w' (W7 b (Oh tx (K.take i.toNat) ⟨t.S5,t.B0,(U7 t.B5 tx)⟩)::so 35 nh a2 z K::R)) K.length ⟨0,rfl,m4,h⟩ ?_;rintro m _ w1 H ⟨i,rfl,F,h⟩;have a:=L.Oh tx (K.take i.toNat);rw[Ga]at a;obtain⟨T,f⟩:∃T,Oh tx (K.take i.toNat) ⟨t.S5,t.B0,(U7 t.B5 tx)⟩=T:=⟨_,rfl⟩;rw[f]at h a;have a:=a.up (show n+min i.toNat K.length<=70000000 by omega);refine BR.T5 (λl=>?_) λl=>?_
  ·obtain⟨x,d⟩:∃x,i3 K i.toNat=some x:=⟨K[i.toNat],by rw[Z0,d8]⟩;have s:=Ay (tx:=tx) (t:=⟨t.S5,t.B0,(U7 t.B5 tx)⟩) d;have p:(i+1).toNat=i.toNat+1:=m4
   rw[<-p,f,Bo]at s;have V:=a.row x;have Wx:=ee (S4 T.B0 x).1.N4 tx;refine jd h 1 O λJ D j=>Oa.sl h 1 O j d (I2 h O λb4 w h=>J3 h 0 O O O λw h=>O4 h 0 O O (wg ((h.g [1] O).W6) λadD S h=>He (Cw h) λN w h=>pg h.Va λX Q Y B' h=>U0 h 0 O O (N1 (WL (h.g [1] O) m4) λw h=>J3 h 1 O O O λw h=>U0 h 1 O O ?_)));exact aaQ
  ·have e2:K.take i.toNat=K:=sd m4;rw[e2]at f;rw[f];skip;refine p5.A6 kn [0,66,67,68] (λm vs w'=>∃(i:Int),vs=[Pt b,.slice a2 K.length z,I K.length,I i]∧(0<=i∧i+m=K.length)∧Hp c w' (W7 b (NJ (K.take i.toNat) T)::so 35 nh a2 z K::R)) K.length ⟨0,rfl,m4,h⟩ ?_;rintro m _ w1 H ⟨i,rfl,F,h⟩;have alL:=TB.NJ (K.take i.toNat) T a;refine BR.T5 (λl=>?_) λl=>?_
   ·obtain⟨x,d⟩:∃x,i3 K i.toNat=some x:=⟨K[i.toNat],by rw[Z0,d8]⟩;have s:=uG (t:=T) d;have p:(i+1).toNat=i.toNat+1:=m4
    rw[<-p]at s;refine jd h 1 O λJ D j=>Oa.sl h 1 O j d (I2 h O λb4 w h=>J3 h 0 O O O λw h=>O4 h 0 O O (N1 (jR (h.g [1] O) Zb9 m4) λw h=>i5 ⟨(m-1),?_,_,rfl,?_,Hp.subst (h.q 3 [0,2] O) ?_⟩))
    ·omega
    ·omega
    ·grind[]
   ·exact aaP
end
def Wb(Hv C0:Int)(q:List W5):List Int:=(q.filter λw=>decide (C0>=w.ec+Hv)).map (·.tx)
def Cj(Hv C0:Int)(B0:List (w4×R5))(k:w4):List Int:=match K0 B0 k with
 |some r=>Wb Hv C0 r.R3
 |none=>[]
theorem IM(t:L3)(C0:Int):t.Q9 C0=J7 Pe (t.B0.flatMap λx=>Wb t.S5 C0 x.2.R3):=rfl
theorem Ru(b:(B0.map (·.1)).Nodup):(B0.flatMap λx=>Wb Hv C0 x.2.R3)=(B0.map (·.1)).flatMap (Cj Hv C0 B0):=by
 have gen:∀(l:List (w4×R5)),(∀x∈l,K0 B0 x.1=some x.2)->(l.flatMap λx=>Wb Hv C0 x.2.R3)=(l.map (·.1)).flatMap (Cj Hv C0 B0):=by
  intro l;induction l with
  |nil=>intro _;rfl
  |cons x l c=>grind[Cj]
 exact gen B0 λx a=>Ud b a
theorem NG{q:List W5}{x:W5}(h:i3 q i=some x):Wb Hv C0 (q.take (i+1))=Wb Hv C0 (q.take i)++if C0>=x.ec+Hv then[x.tx]else[]:=by unfold Wb;rw[Fg _ q i x h,ic];grind
theorem MG:(B0.flatMap λx=>Wb Hv C0 x.2.R3).length<=Kf B0:=by
 induction B0 with
 |nil=>simp
 |cons x l a=>unfold Kf at a⊢;grind[Wb,R5.sz]
section
theorem afW(h:Hp c w (W7 b t::R))(C:TB n t)(hn:n<=80000000):Cs 415 #[Pt b,I C0] w (λe w'=>∃d j,e= .returned (.slice d (t.Q9 C0).length j)∧Hp c w' (so 3 O5 d j (t.Q9 C0)::W7 b t::R)):=by
 have MW:=C.sum;have anY:=C.S5;refine R2 func415 O (wg h.W6 λl o h=>U0 h 0 O O (A4.dt (by exact Vi O O) (h.g [1] O) O λz w M h=>?_));replace h:=h.G4 3 O5;refine p5.A6 kn [0,1,5,14] (λk vs w'=>∃(done left:List w4)(a:List Int)(d:Option Addr)(j:Nat),vs=[Pt b,I C0,.slice d a.length j,Pt z]∧(left.length=k∧(done++left).Perm (t.B0.map (·.1))∧a=done.flatMap (Cj t.S5 C0 t.B0))∧Hp c w' (so 3 O5 d j a::PO w4.v Pb l z t.B0 left::bk b [I t.S5,.map (some l),.map (some o)] 432::mo I w4.v o t.B5::R)) (t.B0.map (·.1)).length ⟨[],_,[],none,0,rfl,⟨rfl,tj _,rfl⟩,h⟩ ?_;rintro k _ w1 e0 ⟨done,left,a,a1,K,rfl,⟨hnk,F,hls⟩,h⟩;have hll:∀V5:List Int,(∃l2:List w4,(done++l2).Perm (t.B0.map (·.1))∧V5=l2.flatMap (Cj t.S5 C0 t.B0))->(a++V5).length<=n:=by rintro V5 ⟨l2,E,rfl⟩;have D:=(E.flatMap_right (f:=Cj t.S5 C0 t.B0)).length_eq;rw[<-Ru M]at D;have h3:=MG (Hv:=t.S5) (C0:=C0) (B0:=t.B0);rw[hls,<-wI,D];omega
 refine A4.mG (h.g [1] O) O (λe h0=>?_) λl1 e l2 p s w' T hs h=>?_
 ·subst e;clear h;have h:=h0;rw[Jb]at F;have Mm:a.Perm (t.B0.flatMap λx=>Wb t.S5 C0 x.2.R3):=by rw[Ru M,hls];exact F.flatMap_right _
  have Qd:(J7 Pe a).length=a.length:=(H5 _).length_eq;have hlb:=hll [] ⟨[],Zb6,rfl⟩;rw[Jb]at hlb;rw[IM,<-NA Mm];refine m5 (N1 (lZ O (h.g [1] O) m4) λw h=>?_);replace h:=Hp.V6 (h.g [2,1,3] O);exact⟨a1,K,V4 (λn=>Ending.returned (Value.slice a1 n K)) Qd.symm,h.g [1] O⟩
 ·have hsq:=C.ec e s hs;have NW:=C.B0 e s hs;have ame:(done++[e]).flatMap (Cj t.S5 C0 t.B0)=a++Wb t.S5 C0 s.R3:=by
   rw[wI,<-hls];have:Cj t.S5 C0 t.B0 e=Wb t.S5 C0 s.R3:=by unfold Cj;rw[hs]
   simp[this]
  have Y:((done++[e])++(l1++l2)).Perm (t.B0.map (·.1)):=by refine List.Perm.trans ?_ F;rw[T,N',jz];exact wC _ List.perm_middle.symm
  have V:(l1++l2).length=k-1∧k-1<k:=by rw[T]at hnk;simp at hnk⊢;omega
  have QM:∀i:Nat,(a++Wb t.S5 C0 (s.R3.take i)).length<=n:=by
   intro i;have E:=hll (Wb t.S5 C0 s.R3++(l1++l2).flatMap (Cj t.S5 C0 t.B0)) ⟨e::(l1++l2),Zb1,Zb7⟩;have D:Wb t.S5 C0 s.R3=Wb t.S5 C0 (s.R3.take i)++Wb t.S5 C0 (s.R3.drop i):=by unfold Wb;rw[<-ic,<-uv,Vd]
   rw[D]at E;simp only[List.length_append]at E⊢;omega
  have fE:∀{w:World}{a:List Int}{J aq d:Option Addr}{ch cq j:Nat},Hp c w (bk p [.slice J s.N4.length ch,.slice aq s.R3.length cq] 439::so 448 J4 J ch s.N4::so 448 J4 aq cq s.R3::HZ w4.v Pb l z t.B0 (l1++l2) e p::so 3 O5 d j a::bk b [I t.S5,.map (some l),.map (some o)] 432::mo I w4.v o t.B5::R)->Hp c w (so 3 O5 d j a::PO w4.v Pb l z t.B0 (l1++l2)::bk b [I t.S5,.map (some l),.map (some o)] 432::mo I w4.v o t.B5::R):=by intro w a J aq d ch cq j h;have h:=h.z8.Wp;rw[E' hs]at h;exact h.g [1] O
  refine Q5 (A4.Zw (h.g [1] O) O (pg h.Va λQ N G L h=>U0 h 0 O O (p5.A6 kn [0,1,5,14,22,23,24] (λm vs w'=>∃(i:Int)(r:List Int)(d:Option Addr)(j:Nat),vs=[Pt b,I C0,.slice d r.length j,Pt z,.slice G s.R3.length L,I s.R3.length,I i]∧(0<=i∧i+m=s.R3.length)∧r=a++Wb t.S5 C0 (s.R3.take i.toNat)∧Hp c w' (bk p [.slice Q s.N4.length N,.slice G s.R3.length L] 439::so 448 J4 Q N s.N4::so 448 J4 G L s.R3::HZ w4.v Pb l z t.B0 (l1++l2) e p::so 3 O5 d j r::bk b [I t.S5,.map (some l),.map (some o)] 432::mo I w4.v o t.B5::R)) s.R3.length ⟨0,a,a1,K,rfl,m4,by simp[Wb],h⟩ ?_)));rintro m _ w1 e0 ⟨i,r,a2,E4,rfl,hm,y,h⟩;refine BR.T5 (λZ=>?_) λZ=>?_
  ·obtain⟨x,S⟩:∃x,i3 s.R3 i.toNat=some x:=⟨s.R3[i.toNat],by rw[Z0,d8]⟩;have ei:(i+1).toNat=i.toNat+1:=m4
   have A:=NG (Hv:=t.S5) (C0:=C0) S;rw[<-ei]at A;have hxs:=hsq x (by grind[Z0]);have eK:=QM i.toNat;rw[<-y]at eK;refine jd h 2 O λb3 o3 X=>Oa.sl h 2 O X S (I2 h O λb1 w h=>J3 h 0 O O O λw h=>sv [0,1,3,4,5,2,6,7,8] ?_);replace h:=h.drew;refine U0 h 0 O O (U0 h 6 O O (i5 (BR.T5 (λH=>?_) λH=>?_)))
   ·rw[S1 H]at A;have aj:a++Wb t.S5 C0 (s.R3.take (i+1).toNat)=r++[x.tx]:=by rw[A,<-N',<-y]
    exact U0 h 0 O O (I2 h O λb2 w h=>A4.Yb (u:=_) (Ca.of (w9:=8) kn O O O O O O) h 6 O O 0 O O O m4 (λ_ _=>rfl) λa3 na w h=>i5 ⟨m-1,m4,i+1,_,_,_,rfl,m4,aj.symm,h.q 9 [2,3,4,5,6,7,8] O⟩)
   ·rw[V0 H,Jb]at A;rw[<-A]at y;exact i5 ⟨m-1,m4,i+1,_,_,_,rfl,m4,y,h.q 8 [1,2,3,4,5,6,7] O⟩
  ·have e2:s.R3.take i.toNat=s.R3:=sd m4;rw[e2]at y;exact⟨k-1,V.2,_,_,r,a2,E4,rfl,⟨V.1,Y,y.trans ame.symm⟩,fE h⟩
end
theorem HU{P:Prop}(h:P:=by replace h:Hp _ _ (P5 _ (x)::_):=Hp.X5 h;replace h:=Hp.F6 ‹_› h;replace h:Hp _ _ (T2 _ (s)::_):=Hp.Q4 (h.g [1,2,3] O);exact⟨rfl,h⟩):P:=h
theorem tN{P:Prop}(h:P:=by refine⟨Ya O ?_,h⟩;grind[wa]):P:=h
theorem abM{P:Prop}(h:P:=by replace h:Hp _ _ (T2 _ (s)::_):=Hp.Q4 h;refine⟨Ya O ?_,h⟩;grind[]):P:=h
structure SB(n:Nat)(s:E1):Prop where
 N0:s.N0.length<=n
 S3:TB n s.S3
 H':s.G0.length<=n
 I3:∀x∈s.G0,x.2.I3.length<=n
section
theorem aZ(h:Hp c w (T2 b s::R)):Cr 215 #[Pt b,I tx] w c (I (s.Um tx)) (T2 b s::R):=by
 obtain⟨o,j⟩:∃o,K0 s.G0 tx=o:=⟨_,rfl⟩;have e:s.Um tx=if tx<1∨tx>1048576 then 11 else if o.isSome=true then 13 else if(s.G0.length:Int)>=8 then 16 else 0:=by rw[<-j];rfl
 rw[e];cases o with
 |none=>
  refine R2 func215 O (BR.T5 (λd=>?_) λd=>?_)
  ·refine Q5 ⟨Ya O ?_,h⟩;omega
  ·refine BR.T5 (λa=>?_) λa=>?_
   ·refine⟨Ya O ?_,h⟩;omega
   ·refine pg h.I5 λf l i m h=>U0 h 0 O O (RD.tn Ad h 3 O _ Zb9 (tg.un O (m5 (U0 h 0 O O (RD.alz (by exact Vi O O) h 3 O (BR.T5 (λk=>?_) λk=>?_))))))
    ·exact abM
    ·exact abM
 |some x=>
  refine R2 func215 O (BR.T5 (λd=>?_) λd=>?_)
  ·refine Q5 ⟨Ya O ?_,h⟩;omega
  ·refine BR.T5 (λa=>?_) λa=>?_
   ·refine⟨Ya O ?_,h⟩;omega
   ·refine pg h.I5 λf l i m h=>U0 h 0 O O (RD.Ed Ad h 3 O _ Zb9 λn h=>tg.un O (Q5 ?_));replace h:=Hp.F6 Zb9 h;replace h:Hp _ _ (T2 _ (s)::_):=Hp.Q4 (h.g [1,2,3] O);refine⟨Ya O ?_,h⟩;grind[]
theorem ahe(h:Hp c w (T2 b s::R)):Cr 223 #[Pt b,I tx] w c (I (s.I1 tx).1) (T2 b (s.I1 tx).2::R):=by
 obtain⟨e,f⟩:∃e,s.Um tx=e:=⟨_,rfl⟩;have d:=λ(w:World)(R:List HP)(h:Hp c w (T2 b s::R))=>aZ (tx:=tx) h;rw[f]at d;have j:s.I1 tx=if e=0 then(0,{s with G0:=R1 s.G0 tx ⟨1,0,[]⟩})else(e,s):=by unfold E1.I1;simp only[f]
 rw[j];have i:e=0->K0 s.G0 tx=none:=by
  intro h0;rw[<-f]at h0;unfold E1.Um at h0;split at h0
  ·omega
  ·split at h0<;>simp_all
 by_cases a:e=0
 ·have k:=i a;rw[S1 a];subst a;refine R2 func223 O (N1 (d _ _ h) λw h=>Q5 (pg h.I5 λl n m o h=>Y6 h [0,1,2,4,3,55,6,57,108] λh=>U3 0 O O (He (OY h) λb1 w h=>⟨h.q 5 [1,2,3,4] O,I2 h O λb2 w h=>⟨h.q 6 [2,3,4,5] O,?_⟩⟩)));replace h:=Hp.X5 (ZI:=[]) h;refine A4.lG Ad (h.g [4] O) _ Zb9 O O O λw h=>?_;replace h:=Hp.Q4 (h.g [1,2,3] O);exact⟨rfl,h⟩
 ·rw[V0 a];exact R2 func223 O (N1 (d _ _ h) λw h=>Wa ⟨rfl,h⟩)
theorem agM{a:Nat}{x:I7}{W0:Int}(h:Hp c w (P5 a x::R)):Cr 284 #[Pt a,I W0] w c (I (wa (some x) W0)) (P5 a x::R):=by
 refine R2 func284 O (BR.T5 (λe=>?_) λe=>?_)
 ·refine Q5 ⟨Ya O ?_,h⟩;grind[wa]
 ·refine BR.T5 (λd=>?_) λd=>?_
  ·exact tN
  ·refine tg.un O (m5 (K9 (h.w8) (λf h=>U0 h 0 O O (BR.eq (λb=>?_) λb=>?_))))
   ·replace h:Hp _ _ (P5 _ (x)::_):=Hp.X5 h;exact tN
   ·refine U0 h 0 O O ?_;replace h:Hp _ _ (P5 _ (x)::_):=Hp.X5 h;exact tN
theorem iS{W0:Int}(h:Hp c w R):Cr 284 #[.pointer none,I W0] w c (I (wa none W0)) R:=by
 refine R2 func284 O (BR.T5 (λb=>?_) λb=>?_)
 ·refine Q5 ⟨Ya O ?_,h⟩;grind[wa]
 ·refine BR.T5 (λa=>?_) λa=>?_
  ·exact tN
  ·refine tg.un O (Q5 ⟨Ya O ?_,h⟩);grind[wa]
theorem bp(h:Hp c w (T2 b s::R)):Cr 398 #[Pt b,I tx] w c (I (s.N9 tx)) (T2 b s::R):=by
 obtain⟨o,a⟩:∃o,K0 s.G0 tx=o:=⟨_,rfl⟩;unfold E1.N9;cases o with
 |none=>rw[a];refine R2 func398 O (pg h.I5 λd f e i h=>U0 h 0 O O (RD.tn Ad h 3 O _ Zb9 (tg.un O (Q5 ?_))));replace h:Hp _ _ (T2 _ (s)::_):=Hp.Q4 h;exact⟨rfl,h⟩
 |some x=>rw[a];refine R2 func398 O (pg h.I5 λd f e i h=>U0 h 0 O O (RD.Ed Ad h 3 O _ Zb9 λj h=>tg.un O (m5 (K9 (h.w8) (λk h=>U0 h 0 O O ?_)))));exact HU
theorem tR{a:Int}(h:Hp c w (T2 b s::R))(r:TB n s.S3)(q:n<=70000000):Cr 285 #[Pt b,I tx,I a] w c (.bool (s.qb tx a).1) (T2 b (s.qb tx a).2::R):=by
 obtain⟨o,i⟩:∃o,K0 s.G0 tx=o:=⟨_,rfl⟩;cases o with
 |none=>
  have e:s.qb tx a=(false,s):=by unfold E1.qb;rw[i]
  rw[e];refine R2 func285 O (pg h.I5 λd j f k h=>U0 h 0 O O (RD.tn Ad h 3 O _ Zb9 (tg.un O (Q5 (Q5 (Q5 ?_))))));replace h:Hp _ _ (T2 _ (s)::_):=Hp.Q4 h;exact⟨rfl,h⟩
 |some x=>
  have e:s.qb tx a=if¬x.B4=1∨a=0 then(false,s)else(true,{s with G0:=R1 s.G0 tx ⟨2,a,x.I3⟩,S3:=(s.S3.Vq tx).2}):=by unfold E1.qb;rw[i]
  rw[e];by_cases g:¬x.B4=1∨a=0
  ·rw[S1 g];refine R2 func285 O (pg h.I5 λd j f k h=>U0 h 0 O O (RD.Ed Ad h 3 O _ Zb9 λl h=>tg.un O (m5 (K9 (h.w8) (λp h=>U0 h 0 O O (BR.ne (λm=>?_) λm=>?_))))))
   ·refine Q5 ?_;exact HU
   ·refine mf ?_;exact HU
  ·rw[V0 g];refine R2 func285 O (pg h.I5 λd j f k h=>U0 h 0 O O (RD.Ed Ad h 3 O _ Zb9 λl h=>tg.un O (m5 (K9 (h.w8) (λp h=>U0 h 0 O O (Mj (Wa (J3 h 0 O O O λw h=>J3 h 0 O O O λw h=>?_))))))));refine U0 h 3 O O (N1 (agB (h.g [5] O) Zb9 Zb9) λw h=>?_);replace h:=Hp.X5 (h.g [1,2] O);replace h:=(h.g [0,2] O).V';replace h:=Hp.Q4 (h.g [2,3,1] O);exact⟨rfl,h⟩
end
theorem HN{P Q:Prop}(q:Q)(f:Q->P:=by intro q;exact Y6 h [0,1,2,3,54,105,106] λh=>U3 5 O O (O4 h 4 O O ⟨h,N1 (lR (h.Z4 6 O) m4) λw h'=>q h w h'⟩)):P:=f q
theorem sN{P:Prop}(h:P:=by refine⟨alw O ?_,h.q 6 [4,5,0] O⟩;grind[]):P:=h
theorem abL{P:Prop}(h:P:=by replace h:Hp _ _ (T2 _ (s)::_):=Hp.Q4 (h.g [1,2,3,4] O);exact⟨_,_,rfl,h.g [1] O⟩):P:=h
section
theorem acY(h:Hp c w (T2 b s::R))(k:s.N0.length<=100000000):Cs 30 #[Pt b] w (λe w'=>∃a d,e= .returned (.slice a s.N0.length d)∧Hp c w' (so 157 F2 a d s.N0::T2 b s::R)):=by refine R2 func30 O (pg h.I5 λi m j n h=>U0 h 0 O O (ga (afs (h.Z4 1 O) m4) λa1 l w f=>?_));replace h:=h.H6 f;exact abL
theorem agR(h:Hp c w (T2 b s::R))(k:∀x,K0 s.G0 tx=some x->x.I3.length<=100000000):Cs 27 #[Pt b,I tx] w (λe w'=>∃d f,e= .returned (.slice d (s.rc tx).length f)∧Hp c w' (so 157 F2 d f (s.rc tx)::T2 b s::R)):=by
 obtain⟨o,a⟩:∃o,K0 s.G0 tx=o:=⟨_,rfl⟩;unfold E1.rc;cases o with
 |none=>rw[a];refine R2 func27 O (pg h.I5 λi l j m h=>U0 h 0 O O (RD.tn Ad h 3 O _ Zb9 (tg.un O (Q5 ?_))));replace h:=h.G4 157 F2;exact abL
 |some x=>have p:=k x a;rw[a];refine R2 func27 O (pg h.I5 λi l j m h=>U0 h 0 O O (RD.Ed Ad h 3 O _ Zb9 λn h=>tg.un O (m5 (K9 (h.w8) (λr h=>U0 h 0 O O (ga (WV (h.g [1] O) Zb9) λa1 q w h=>?_))))));replace h:Hp _ _ (P5 _ (x)::_):=Hp.X5 (h.g [2,1] O);replace h:=Hp.F6 Zb9 (h.g [0,2] O);replace h:Hp _ _ (T2 _ (s)::_):=Hp.Q4 (h.g [2,3,4] O);exact⟨_,_,rfl,h.g [1] O⟩
theorem agL{d:Nat}{x:I7}(h:Hp c w (bk b [.slice ab N0.length cb,Pt p,.map (some m)] 167::so 157 F2 ab cb N0::P5 d x::R))(l:N0.length<=100000000):Cr 286 #[Pt b,Pt d,k.v] w c (match K0 x.I3 k with|some v=>v|none=>Hb N0 k).v (bk b [.slice ab N0.length cb,Pt p,.map (some m)] 167::so 157 F2 ab cb N0::P5 d x::R):=by
 obtain⟨o,i⟩:∃o,K0 x.I3 k=o:=⟨_,rfl⟩;cases o with
 |none=>
  rw[i];refine R2 func286 O (I2 h O λb1 w h=>I2 h O λb2 w h=>K9 ((h.g [4] O).w8) (λj h=>Bs h (qs [0,1,2,3,4] (.w2 5 (qs [6,7,8] (vs [9,10] (qs [11] .done))) 9 (vs [5] (qs [6,7,8] (vs [10] (qs [11] .done)))))) λh=>U3 0 O O (xg 3 O O ⟨?_,?_⟩)))
  ·refine N1 (XL (h.g [1] O)) λw h=>⟨h.g [1] O,I2 h O λe w h=>J3 h 0 O O O λw h=>BR.O' (λa=>?_) λa=>?_⟩
   ·refine O4 h 0 O O (J3 h 3 O O O λw h=>O4 h 3 O O ?_);simp_all
   ·refine HN λh w h'=>?_;replace h:=h.H6 h';refine J3 h 3 O O O λw h=>O4 h 3 O O ?_;replace h:Hp _ _ (P5 _ (x)::_):=Hp.X5 (h.g [2,1] O);exact⟨rfl,h.q 6 [4,5,0] O⟩
  ·refine I2 h O λe w h=>⟨h.q 7 [1,2,3,4,5,6] O,N1 (XL (h.g [2] O)) λw h=>J3 h 1 O O O λw h=>BR.O' (λa=>?_) λa=>?_⟩
   ·refine O4 h 1 O O (J3 h 3 O O O λw h=>O4 h 3 O O ?_);simp_all
   ·refine HN λh w h'=>?_;replace h:=h.H6 h';refine J3 h 3 O O O λw h=>O4 h 3 O O ?_;replace h:Hp _ _ (P5 _ (x)::_):=Hp.X5 (h.g [2] O);exact⟨rfl,h.q 6 [4,5,0] O⟩
 |some v=>
  rw[i];refine R2 func286 O (I2 h O λb1 w h=>I2 h O λb2 w h=>K9 ((h.g [4] O).w8) (λj h=>Bs h (qs [0,1,2,3,4] (.w2 5 (qs [6,7,8] (vs [9,10] (qs [11] .done))) 9 (vs [5] (qs [6,7,8] (vs [10] (qs [11] .done)))))) λh=>U3 0 O O (xg 3 O O ⟨?_,?_⟩)))
  ·refine N1 (XL (h.g [1] O)) λw h=>⟨h.g [1] O,I2 h O λe w h=>J3 h 0 O O O λw h=>BR.O' (λa=>?_) λa=>?_⟩
   ·refine O4 h 0 O O (J3 h 3 O O O λw h=>O4 h 3 O O ?_);replace h:Hp _ _ (P5 _ (x)::_):=Hp.X5 (h.g [2,1] O);exact sN
   ·refine HN λh w h'=>?_;replace h:=h.H6 h';refine J3 h 3 O O O λw h=>O4 h 3 O O ?_;replace h:Hp _ _ (P5 _ (x)::_):=Hp.X5 (h.g [2,1] O);exact sN
  ·refine I2 h O λe w h=>⟨h.q 7 [1,2,3,4,5,6] O,N1 (XL (h.g [2] O)) λw h=>J3 h 1 O O O λw h=>BR.O' (λa=>?_) λa=>?_⟩
   ·refine O4 h 1 O O (J3 h 3 O O O λw h=>O4 h 3 O O ?_);replace h:Hp _ _ (P5 _ (x)::_):=Hp.X5 (h.g [2] O);exact sN
   ·refine HN λh w h'=>?_;replace h:=h.H6 h';refine J3 h 3 O O O λw h=>O4 h 3 O O ?_;replace h:Hp _ _ (P5 _ (x)::_):=Hp.X5 (h.g [2] O);exact sN
theorem ahA{R0:Int}(hs:Sx F2 w a N0.length cap N0)(j:N0.length<=100000000):Cs 166 #[I R0,.slice a N0.length cap] w (λe w'=>match E1.new R0 N0 with
 |none=>e= .returned (.tuple #[.pointer none,I (Nf R0)])∧Hp w w' []
 |some s=>∃p,e= .returned (.tuple #[Pt p,I 0])∧Hp w w' [T2 p s]):=by
 have h:=Hp.start w;unfold E1.new;by_cases g:R0<1∨R0>1000
 ·rw[S1 g,show Nf R0=11 from S1 g];refine R2 func166 O (xb (ER h) ?_);intro _ w b;rw[S1 g]at b;obtain⟨rfl,h⟩:=b;exact Q5 ⟨rfl,h⟩
 ·rw[V0 g];by_cases d:((gc N0).length:Int)>64
  ·simp only[if_pos d];rw[show Nf R0=16 from V0 g];refine R2 func166 O (xb (ER h) ?_);intro _ w b;rw[V0 g]at b;obtain⟨f,rfl,h⟩:=b;refine m5 (ga (MF (hs.up h) m4) λa1 i w c=>?_);replace h:=h.H6 c;exact A4.Xp I Pt h λb1 w h=>I2 h O λb2 w h=>U0 h 0 O O (Zt ⟨rfl,h.q 4 [] O⟩)
  ·simp only[if_neg d];refine R2 func166 O (xb (ER h) ?_);intro _ w b;rw[V0 g]at b;obtain⟨f,rfl,h⟩:=b;refine m5 (ga (MF (hs.up h) m4) λa1 i w c=>?_);replace h:=h.H6 c;refine A4.Xp I Pt h λb1 w h=>I2 h O λb2 w h=>U0 h 0 O O (Te ?_);replace h:=(h.g [1] O).yn (R:=P5);replace h:=Hp.Q4 (Gp:=[]) (h.g [1,2,3] O);exact⟨_,rfl,h⟩
end
theorem TB.ade(h:TB n t){v:R5}{B5:List (Int×w4)}(b:K0 t.B0 k=some v)(e:r.sz<=v.sz)(d:∀x∈r.R3,x∈v.R3):TB n ⟨t.S5,R1 t.B0 k r,B5⟩:=by
 refine⟨λx a=>?_,?_,?_,h.S5⟩
 ·rcases Sa a with rfl|a
  ·exact λy c=>h.ec k v b y (d y c)
  ·exact h.mem x a
 ·have g:=Ws (r:=r) b
  have f:=h.sum
  show Kf (R1 t.B0 k r)<=n
  omega
 ·show(R1 t.B0 k r).length<=n
  rw[Z7 b]
  exact h.H'
theorem TB.Vq(h:TB n t)(tx:Int):TB n (t.Vq tx).2:=by
 cases c:K0 t.B5 tx with
 |none=>rw[Zs c];exact h
 |some k=>
  rw[Ys c];show TB n ((Tw t tx k).on k);cases b:K0 t.B0 k with
  |some v=>
   refine TB.on ?_ k;unfold Tw;have e:S4 t.B0 k=(v,t.B0):=by unfold S4;rw[b]
   rw[e];refine h.ade b ?_ (λx a=>Bi a);simp[ee,R5.sz]
  |none=>
   have e:S4 t.B0 k=(ya,R1 t.B0 k ya):=by unfold S4;rw[b]
   have i:Tw t tx k=⟨t.S5,R1 t.B0 k ya,U7 t.B5 tx⟩:=by unfold Tw;rw[e];have:R1 (R1 t.B0 k ya) k ya=R1 t.B0 k ya:=E' G1;show(⟨t.S5,R1 (R1 t.B0 k ya) k ya,_⟩:L3)=_;rw[this]
   have d:S4 (R1 t.B0 k ya) k=(ya,R1 t.B0 k ya):=by unfold S4;rw[G1]
   have g:(Tw t tx k).on k=⟨t.S5,U7 (R1 t.B0 k ya) k,U7 t.B5 tx⟩:=by rw[i];have:=BM (t:=⟨t.S5,R1 t.B0 k ya,U7 t.B5 tx⟩) (k:=k) (Mh:=[]) (ql:=[]) (j:=0) (by simp_all[ya]) (by show R5.on 0 _=_;rw[show S4 (⟨t.S5,R1 t.B0 k ya,U7 t.B5 tx⟩:L3).B0 k=_ from d];rfl) (V7 _);rw[this];show(⟨t.S5,if 0+0=0 then U7 (S4 (R1 t.B0 k ya) k).2 k else _,_⟩:L3)=_;rw[S1 O,d];rfl
   rw[g];refine⟨λx a=>?_,?_,?_,h.S5⟩
   ·rcases Sa (Qk a)with rfl|a
    ·intro y f;cases f
    ·exact h.mem x a
   ·have o:=bo (R1 t.B0 k ya) k;have m:=Uj (r:=ya) b;have l:ya.sz=0:=rfl;have:=h.sum;grind
   ·exact j9 (Ij b) h.H'
theorem TB.qb(h:TB n s.S3)(tx e:Int):TB n (s.qb tx e).2.S3:=by
 unfold E1.qb
 split
 ·exact h
 ·split
  ·exact h
  ·exact h.Vq tx
def Dk(l:List Int)(s:E1):E1:=l.foldl (λ(s:E1)(tx:Int)=>(s.qb tx 18).2) s
theorem CK{l:List Int}(h:i3 l i=some tx):Dk (l.take (i+1)) s=((Dk (l.take i) s).qb tx 18).2:=by unfold Dk;rw[O7 h,Qh];rfl
theorem TB.Dk{n:Nat}:∀(l:List Int){s:E1},TB n s.S3->TB n (Dk l s).S3
 |[],_,h=>h
 |tx::l,s,h=>TB.Dk l (s:=(s.qb tx 18).2) (h.qb tx 18)
section
theorem agd(h:Hp c w (T2 b s::R))(a:TB n s.S3)(D:n<=70000000):Cs 402 #[Pt b,I C0] w (λe w'=>∃k o,e= .returned (.slice k (s.Q9 C0).1.length o)∧Hp c w' (so 3 O5 k o (s.Q9 C0).1::T2 b (s.Q9 C0).2::R)):=by
 have e:s.Q9 C0=(s.S3.Q9 C0,Dk (s.S3.Q9 C0) s):=rfl;rw[e];have hll:(s.S3.Q9 C0).length<=n:=by rw[IM,(H5 _).length_eq];exact j9 MG a.sum
 obtain⟨l,r⟩:∃l,s.S3.Q9 C0=l:=⟨_,rfl⟩;have j:=λ(w:World)(R:List HP)(p:Nat)(h:Hp c w (W7 p s.S3::R))=>afW (C0:=C0) h a m4;rw[r]at hll j⊢;refine R2 func402 O (pg h.I5 λz J C K h=>U0 h 0 O O (ga (j _ _ _ (h.g [2] O)) λa1 d w h=>?_));replace h:=(Hp.Q4 (h.g [2,3,1,4] O));refine p5.A6 kn [0,5,14,15,16] (λm vs w'=>∃(i:Int),vs=[Pt b,.slice a1 l.length d,.slice a1 l.length d,I l.length,I i]∧(0<=i∧i+m=l.length)∧Hp c w' (T2 b (Dk (l.take i.toNat) s)::so 3 O5 a1 d l::R)) l.length ⟨0,rfl,m4,h⟩ ?_;rintro m _ w1 F ⟨i,rfl,E,h⟩;have H:=TB.Dk (l.take i.toNat) a;refine BR.T5 (λt=>?_) λt=>?_
 ·obtain⟨x,f⟩:∃x,i3 l i.toNat=some x:=⟨l[i.toNat],by rw[Z0,d8]⟩;have y:=CK (s:=s) f;have u:(i+1).toNat=i.toNat+1:=m4
  rw[<-u]at y;refine jd h 1 O λG A q=>LD.qf h 1 O q f O (N1 (tR h Zb9 Zb9) λw h=>i5 ⟨(m-1),?_,_,rfl,?_,Hp.subst h ?_⟩)
  ·omega
  ·omega
  ·grind[]
 ·have v:l.take i.toNat=l:=sd m4;rw[v]at h;exact⟨_,_,rfl,h.g [1] O⟩
theorem dR(h:Hp c w (T2 b s::R))(f:TB n s.S3)(e:n<=30000000):Cr 435 #[Pt b,I tx] w c (.tuple #[]) (T2 b (s.K7 tx)::R):=by refine R2 func435 O (pg h.I5 λa i d j h=>U0 h 0 O O (A4.vZ Ad (h.g [3] O) _ O O λw h=>U0 h 1 O O (N1 (afG (h.g [3] O) Zb9 Zb9) λw h=>?_)));replace h:=Hp.Q4 (h.g [2,3] O);exact⟨rfl,h⟩
end
end Go.Proofs.YtaaihojmcfaejaaGreatDoor
