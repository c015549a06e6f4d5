/- Lemmas for the tops: the walk of the house and its laws. No condition is added. -/
import Derived.Test.YtaaihojmcfaejaaGreatDoorQai
import Derived.Test.YtaaihojmcfaejaaGreatDoorQah
import Derived.Test.YtaaihojmcfaejaaGreatDoorQaf
import Derived.Test.YtaaihojmcfaejaaGreatDoorQag
set_option linter.all false
namespace Go.Proofs.YtaaihojmcfaejaaGreatDoor
open Go Go.RowKit Tryz
variable{r:E2->Int}{hi lo mid:Int}{post pre:List E2}{R:List HP}{lb:List Value}{cap g n:Nat}{a:Option Addr}{c w:World}
section
variable{α:Type}
inductive ju(r:α->Int)(k:Nat):List α->Prop
 |ba {l:List α} (h:l.length<k) (hr:I6 r l):ju r k l
 |cons {u v:List α} (h:u.length=k) (hr:I6 r u) (hv:ju r k v):ju r k (u++v)
inductive EL(r:α->Int)(k:Nat):List α->Prop
 |nil:EL r k []
 |oO {d u:List α} (hd:EL r k d) (h:u.length=k) (hr:I6 r u):EL r k (d++u)
variable{r:α->Int}{k:Nat}
theorem EL.adh{d:List α}(h:EL r k d):∀{v:List α},ju r k v->ju r k (d++v):=by
 induction h with
 |nil=>intro v a;exact a
 |oO f e c b=>intro v a;rw[N'];exact b (.cons e c a)
theorem ju.ads{l:List α}(h:ju r k l)(c:k<=l.length):∃u v,l=u++v∧u.length=k∧I6 r u∧ju r k v:=by
 cases h with
 |ba h a=>omega
 |cons h a b=>exact⟨_,_,rfl,h,a,b⟩
theorem ju.SR{l:List α}(h:ju r k l)(b:l.length<=k)(d:0<k):I6 r l:=by
 cases h with
 |ba h a=>exact a
 | @cons u v h a c=>
  have:v=[]:=by rw[j7,h]at b;exact List.length_eq_zero_iff.mp m4
  subst this;rw[Jb];exact a
end
section
theorem abZ{P:Prop}(h:P:=by
 refine R2 z0 O (p5.A6 kn [0,1,2,6,7,8] (λm vs w'=>∃(i j:Int)(d V5:List _),vs=[.slice a n cap,I hi,.func (.func g) #[] lb.toArray,I 20,I i,I j]∧(i=d.length∧j=i+20∧EL r 20 d∧F7 r l (d++V5)∧d.length+V5.length=n∧V5.length=m)∧Hp c w' (Zo (d++V5)::R)) l.length ⟨0,20,[],l,rfl,⟨rfl,rfl,.nil,F7.refl _,Zb5,rfl⟩,h⟩ ?_);rintro m _ w1 e0 ⟨i,j,d,V5,rfl,⟨Jz,VQ,hfd,A7,DB,hrm⟩,h⟩;refine BR.T5 (λg1=>?_) λg1=>?_
 ·have zt:V5=V5.take 20++V5.drop 20:=(Vd 20 V5).symm;have Tu:(V5.take 20).length=20:=by rw[Ga];omega
  have Wx:(V5.drop 20).length=V5.length-20:=Ve;rw[zt]at h A7;refine xb (acA (pre:=d) (mid:=V5.take 20) (post:=V5.drop 20) h hf (by simp only[List.length_append];omega) Jz m4 hb) ?_;rintro _ w ⟨rfl,u,hul,hus,Kx,h⟩;refine i5 ⟨m-20,m4,j,j+20,d++u,V5.drop 20,rfl,⟨by rw[j7];omega,rfl,.oO hfd m4 Kx,?_,by rw[j7];omega,m4⟩,by rw[N'];exact h⟩;have:=(F7.refl d).jI (hus.jI (F7.refl (V5.drop 20)));rw[<-N' d u]at this;exact A7.trans this
 ·have hsh:d++V5=d++(V5++[]):=Zb3
  rw[hsh]at h;refine xb (acA (pre:=d) (mid:=V5) (post:=[]) h hf (by simp only[List.length_append,List.length_nil];omega) Jz m4 hb) ?_;rintro _ w ⟨rfl,u,hul,hus,Kx,h⟩;rw[Jb]at h;have aj:=A7.trans ((F7.refl d).jI hus);have ajk:ju r 20 (d++u):=hfd.adh (.ba m4 Kx);refine p5.A6 kn [0,1,2,6] (λm vs w'=>∃(kk:Nat)(k:Int)(l1:List _),vs=[.slice a n cap,I hi,.func (.func g) #[] lb.toArray,I k]∧(k=kk∧20<=kk∧kk<=2*n+20∧ju r kk l1∧F7 r l l1∧l1.length=n∧m=n-kk)∧Hp c w' (Zo l1::R)) (n-20) ⟨20,20,d++u,rfl,⟨rfl,V7 _,m4,ajk,aj,by rw[j7];omega,rfl⟩,h⟩ ?_;rintro m2 _ w2 e2 ⟨kk,k,l1,rfl,⟨hk,JI,jP,hru,eT,AB,II⟩,h⟩;refine BR.T5 (λg2=>?_) λg2=>?_
  ·refine i5 (p5.A6 kn [0,1,2,6,7,8] (λm vs w'=>∃(i j:Int)(d V5:List _),vs=[.slice a n cap,I hi,.func (.func g) #[] lb.toArray,I k,I i,I j]∧(i=d.length∧j=i+2*k∧EL r (2*kk) d∧ju r kk V5∧F7 r l (d++V5)∧d.length+V5.length=n∧V5.length=m)∧Hp c w' (Zo (d++V5)::R)) l1.length ⟨0,2*k,[],l1,rfl,⟨rfl,m4,.nil,hru,eT,Zb5,rfl⟩,h⟩ ?_);rintro m3 _ w3 e3 ⟨i,j,d,V5,rfl,⟨Jz,VQ,hfd,aea,A7,DB,hrm⟩,h⟩;refine BR.T5 (λg3=>?_) λg3=>?_
   ·obtain⟨u1,v,rfl,hu1,GW,adZ⟩:=aea.ads m4;rw[j7]at DB hrm;obtain⟨u2,v,rfl,dT,hz3,alR⟩:=adZ.ads m4;rw[j7]at DB hrm;refine i5 (xb (acz (n:=n) hf hb _ (pre:=d) (X:=u1) (Y:=u2) (post:=v) (V7 _) m4 m4 h (by simp only[List.length_append];omega) Jz m4 m4 GW hz3) ?_);rintro _ w ⟨rfl,u,hul,hus,hz4,h⟩;refine i5 (i5 ⟨v.length,m4,j,j+2*k,d++u,v,rfl,⟨by rw[j7];omega,rfl,.oO hfd m4 hz4,alR,?_,by rw[j7];omega,rfl⟩,by rw[N'];exact h⟩);have:=(F7.refl d).jI (hus.jI (F7.refl v));rw[<-N' d u,N' u1]at this;exact A7.trans this
   ·refine i5 (BR.T5 (λg4=>?_) λg4=>?_)
    ·obtain⟨u1,v,rfl,hu1,GW,adZ⟩:=aea.ads m4;rw[j7]at DB hrm;have hz3:=adZ.SR m4 m4;have adV:d++(u1++v)=d++(u1++(v++[])):=Zb3
     rw[adV]at h;refine xb (acz (n:=n) hf hb _ (pre:=d) (X:=u1) (Y:=v) (post:=[]) (V7 _) m4 m4 h (by simp only[List.length_append,List.length_nil];omega) Jz m4 m4 GW hz3) ?_;rintro _ w ⟨rfl,u,hul,hus,hz4,h⟩;rw[Jb]at h;exact i5 ⟨n-2*kk,m4,2*kk,k*2,d++u,rfl,⟨m4,m4,m4,hfd.adh (.ba m4 hz4),A7.trans ((F7.refl d).jI hus),by rw[j7];omega,rfl⟩,h⟩
    ·have hz3:=aea.SR m4 m4;exact i5 ⟨n-2*kk,m4,2*kk,k*2,d++V5,rfl,⟨m4,m4,m4,hfd.adh (.ba m4 hz3),A7,by rw[j7];omega,rfl⟩,h⟩
  ·have RZ:=hru.SR m4 m4;exact⟨rfl,l1,eT,RZ,h⟩):P:=h
set_option maxHeartbeats 4000000 in
theorem akV{r:Int->Int}{l:List Int}(h:Hp c w (so 3 O5 a cap l::R))(hf:Ks g lb I r c R)(o:n=l.length)(p:hi=l.length)(hb:n<=1000000000):Cs 75 #[.slice a n cap,I hi,.func (.func g) #[] lb.toArray] w (λe w'=>e= .returned (.tuple #[])∧∃l',F7 r l l'∧I6 r l'∧Hp c w' (so 3 O5 a cap l'::R)):=by let Zo:List Int->HP:=λl=>so 3 O5 a cap l;have z0:=func75;have b:=@ZLi;have f:=@ZCi;have acA:=@aie;have acz:=@aid;exact abZ
theorem abY{P:Prop}(h:P:=by refine R2 z0 O (xb (z75 h hf hn m4 hb) ?_);rintro _ w ⟨rfl,l',hs,hz,h⟩;rw[cD Qd hs hz]at h;exact⟨rfl,h⟩):P:=h
theorem alh{r:Int->Int}{le:Int->Int->Bool}{l:List Int}(h:Hp c w (so 3 O5 a cap l::R))(hf:Ks g lb I r c R)(Qd:∀a b,le a b=true↔r a<=r b)(hn:n=l.length)(hb:n<=1000000000):Cr 46 #[.slice a n cap,.func (.func g) #[] lb.toArray] w c (.tuple #[]) (so 3 O5 a cap (J7 le l)::R):=by let f:List Int->HP:=λl=>so 3 O5 a cap l;have z0:=func46;have d:=@ZLi;have e:=@ZCi;have z75:=@akV;exact abY
end
section
set_option maxHeartbeats 1000000 in
theorem ahp{mid:List E2}(h:Hp c w (so 157 F2 a cap (pre++(mid++post))::R))(hf:Ks g lb E2.v r c R)(hn:n=(pre++(mid++post)).length)(s:lo=pre.length)(o:hi=pre.length+mid.length)(f:n<=1000000000):Cs 184 #[.slice a n cap,I lo,I hi,.func (.func g) #[] lb.toArray] w (λe w'=>e= .returned (.tuple #[])∧∃b,b.length=mid.length∧F7 r mid b∧I6 r b∧Hp c w' (so 157 F2 a cap (pre++(b++post))::R)):=by let Zo:List E2->HP:=λl=>so 157 F2 a cap l;have z0:=func184;have zL:=@ZLp;have zC:=@ZCp;exact abX
end
section
set_option maxHeartbeats 2000000 in
theorem AF{Y:List E2}{x:E2}(h:Hp c w (so 157 F2 a cap (pre++(x::(Y++post)))::R))(hf:Ks g lb E2.v r c R)(hn:n=(pre++(x::(Y++post))).length)(s:lo=pre.length)(d:mid=pre.length+1)(o:hi=pre.length+1+Y.length)(hY:I6 r Y)(f:n<=1000000000):Cs 340 #[.slice a n cap,I lo,I mid,I hi,.func (.func g) #[] lb.toArray] w (λe w'=>e= .returned (.tuple #[])∧∃b,b.length=1+Y.length∧F7 r (x::Y) b∧I6 r b∧Hp c w' (so 157 F2 a cap (pre++(b++post))::R)):=by let Zo:List E2->HP:=λl=>so 157 F2 a cap l;have z0:=func340;have zL:=@ZLp;have zC:=@ZCp;exact abU
end
section
set_option maxHeartbeats 2000000 in
theorem YC{X:List E2}{y:E2}(h:Hp c w (so 157 F2 a cap (pre++(X++y::post))::R))(hf:Ks g lb E2.v r c R)(hn:n=(pre++(X++y::post)).length)(C:lo=pre.length)(f:mid=pre.length+X.length)(s:hi=pre.length+X.length+1)(A:X.length≠1)(hX:I6 r X)(o:n<=1000000000):Cs 340 #[.slice a n cap,I lo,I mid,I hi,.func (.func g) #[] lb.toArray] w (λe w'=>e= .returned (.tuple #[])∧∃d,d.length=X.length+1∧F7 r (X++[y]) d∧I6 r d∧Hp c w' (so 157 F2 a cap (pre++(d++post))::R)):=by let Zo:List E2->HP:=λl=>so 157 F2 a cap l;have z0:=func340;have zL:=@ZLp;have zC:=@ZCp;exact abT
end
section
set_option maxHeartbeats 1000000 in
theorem agi{A M B:List E2}{k:Int}{fv:Value}(h:Hp c w (so 157 F2 a cap (pre++(A++(M++(B++post))))::R))(hn:n=(pre++(A++(M++(B++post)))).length)(g:lo=pre.length)(f:hi=pre.length+A.length+M.length)(d:k=A.length)(hAB:A.length=B.length)(e:n<=1000000000):Cr 363 #[.slice a n cap,I lo,I hi,I k,fv] w c (.tuple #[]) (so 157 F2 a cap (pre++(B++(M++(A++post))))::R):=by let Zo:List E2->HP:=λl=>so 157 F2 a cap l;have z0:=func363;have zL:=@ZLp;have b:=@ZCp;exact abW
theorem agn{X Y:List E2}{fv:Value}(h:Hp c w (so 157 F2 a cap (pre++(X++(Y++post)))::R))(hn:n=(pre++(X++(Y++post))).length)(g:lo=pre.length)(e:mid=pre.length+X.length)(f:hi=pre.length+X.length+Y.length)(h0:0<X.length∧0<Y.length)(hb:n<=1000000000):Cr 354 #[.slice a n cap,I lo,I mid,I hi,fv] w c (.tuple #[]) (so 157 F2 a cap (pre++(Y++(X++post)))::R):=by let Zo:List E2->HP:=λl=>so 157 F2 a cap l;have z0:=func354;have b:=@ZLp;have d:=@ZCp;have OV:=@agi;exact abV
end
section
set_option maxHeartbeats 8000000 in
theorem agt(hf:Ks g lb E2.v r c R)(hb:n<=1000000000):∀(N:Nat){w:World}{pre X Y post:List E2}{lo mid hi:Int},X.length+Y.length<=N->0<X.length->0<Y.length->Hp c w (so 157 F2 a cap (pre++(X++(Y++post)))::R)->n=(pre++(X++(Y++post))).length->lo=pre.length->mid=pre.length+X.length->hi=pre.length+X.length+Y.length->I6 r X->I6 r Y->Cs 340 #[.slice a n cap,I lo,I mid,I hi,.func (.func g) #[] lb.toArray] w (λe w'=>e= .returned (.tuple #[])∧∃b,b.length=X.length+Y.length∧F7 r (X++Y) b∧I6 r b∧Hp c w' (so 157 F2 a cap (pre++(b++post))::R)):=by let Zo:List E2->HP:=λl=>so 157 F2 a cap l;have z0:=func340;have zL:=@ZLp;have zC:=@ZCp;have aeQ:=@agn;have UX:=@AF;have TX:=@YC;exact abS
end
end Go.Proofs.YtaaihojmcfaejaaGreatDoor
