/- Lemmas for the tops: the walk of the house and its laws. No condition is added. -/
import Derived.Test.YtaaihojmcfaejaaGreatDoorQbc
import Derived.Test.YtaaihojmcfaejaaGreatDoorQah
import Derived.Test.YtaaihojmcfaejaaGreatDoorQaf
set_option linter.all false
namespace Go.Proofs.YtaaihojmcfaejaaGreatDoor
open Go Go.RowKit Tryz
theorem qU{P:Prop}(h:P:=by
 refine p5.A6 kn [6,7,8,9,10] (λm vs w'=>∃k:Nat,vs=[.slice a1 D.M3.length V1,.slice a2 (T7 D).length E4,I i,Pt b4,I k]∧k+m=(T7 D).length∧Hp c w' (bk b4 (I9.f y) 42::so 3 O5 a2 E4 (T7 D)::so 42 I9 a1 V1 D.M3::R)) (T7 D).length ⟨0,rfl,m4,h⟩ ?_;rintro m2 _ w1 e1 ⟨k,rfl,II,h⟩;refine BR.T5 (λq1=>?_) λq1=>?_
 ·obtain⟨x,hx⟩:∃x,i3 (T7 D) k=some x:=⟨_,by rw[Z0];exact d8 m4⟩;have hxm:x∈T7 D:=by rw[Z0]at hx;exact wv hx
  have Aa:¬x=y.tx:=λe=>hnm (e▸hxm);refine sv [0,1,2,4,3,5,6] ?_;replace h:=h.drew;refine jd h 1 O λb5 o2 Lj=>LD.qf h 1 O Zb9 Zb9 O (U0 h 0 O O (Wa (i5 ⟨(m2-1),?_,_,rfl,?_,h⟩)))
  ·omega
  ·grind[]
 ·exact i5 ⟨m-1,m4,i+1,rfl,m4,h.q 3 [1,2] O⟩):P:=h
section
variable{c w:World}{R:List HP}{a:Option Addr}{cap:Nat}{p:R9}{s R0:Int}{P0:List Ev}
theorem als{b N:Nat}{h0:I0}(h:Hp c w (G3 b N h0::R))(m:h0.M3.length<=1000000):Cs 10 #[Pt b] w (λe w'=>∃a cap,e= .returned (.slice a h0.M3.length cap)∧Hp c w' (so 42 I9 a cap h0.M3::G3 b N h0::R)):=by
 obtain⟨s,g,f,i,l,h⟩:=h.C4;have d:s.M3=h0.M3:=by rw[f];rfl
 refine R2 func10 O (U0 h 0 O O (ga (alj (xs:=s.M3) (h.Z4 6 O) (by rw[d];omega)) λa1 k w j=>?_));replace h:=h.H6 j;replace h:=Hp.F1 (h0:=h0) (s:=s) (g:=g) f i l (h.g [1,2,3,4,5,6,7,8,9,10,11] O);rw[d]at h;exact⟨a1,k,by rw[<-d];rfl,h.g [1] O⟩
theorem sp8(h:Hp c w R)(j:ng c)(v:0<P0.length->Sx eEv c a P0.length cap P0)(o:∀ev∈P0,M7 ev.op.n)(z:P0.length<=150)(d:sV p s R0):Cs 8 #[.agg #[I p.A0,I p.F0,I p.L0,I s,I R0],.slice a P0.length cap] w (λe w'=>∃b,e= .returned (Pt b)∧Hp c w' (G3 b (2*P0.length) (zj (I0.start p s R0) P0)::R)):=by
 obtain⟨d,g,t⟩:=d;have k:=HH.start (R0:=R0) d g;refine R2 func8 O (I2 h O λb1 w h=>O4 h 0 O O (He (adb (p:=p) h j d g t) λb2 w h=>?_));obtain⟨l,eH0⟩:∃H,I0.start p s R0=H:=⟨_,rfl⟩;rw[eH0]at h k⊢;refine p5.A6 kn [1,5,6] (λm vs w'=>∃i:Nat,vs=[.slice a P0.length cap,Pt b2,I i]∧i+m=P0.length∧Hp c w' (G3 b2 (2*i) (zj l (P0.take i))::R)) P0.length ⟨0,rfl,m4,h.q 2 [0] O⟩ ?_;rintro m _ w1 D ⟨i,rfl,C,h⟩;refine BR.T5 (λu=>?_) λu=>?_
 ·obtain⟨ev,f⟩:∃ev,i3 P0 i=some ev:=⟨_,by rw[Z0];exact d8 m4⟩;have y:ev∈P0:=by rw[Z0]at f;exact wv f
  have hs:=v m4;obtain⟨r,ajp⟩:=k.evs o i m4 m4;have hev:=vy (h0:=l) f;refine tg.un O (Q5 (Lz hs λE A F=>Oa.ro h hs Zb9 Zb9 (N1 (bD (ev:=ev) h r j m4 (o ev y)) λw h=>i5 ?_)));rw[<-hev]at h;exact⟨m-1,m4,i+1,rfl,m4,h⟩
 ·have x:i=P0.length:=m4
  subst x;rw[jg]at h;exact m5 ⟨_,rfl,h⟩
theorem sp3(h:Hp c w R)(u:ng c)(N:0<P0.length->Sx eEv c a P0.length cap P0)(G:∀ev∈P0,M7 ev.op.n):Cr 3 #[.agg #[I p.A0,I p.F0,I p.L0,I s,I R0],.slice a P0.length cap] w c (.bool true) R:=by
 refine R2 func3 O (I2 h O λb1 w h=>N1 (sp6 h u) λw h=>m5 (O4 h 0 O O (xb (sp7 (n:=P0.length) h) ?_)));rintro _ w ⟨q,rfl,K,h⟩;cases q with
 |true=>exact Q5 ⟨rfl,h.q 1 [] O⟩
 |false=>
  obtain⟨z,t⟩:=K rfl;have S:=HH.start (R0:=R0) t.p t.s;refine m5 (O4 h 0 O O (He (sp8 (p:=p) h u N G z t) λb2 w h=>?_));obtain⟨d,_⟩:=S.evs G P0.length (V7 _) z;rw[jg]at d;obtain⟨T,J⟩:∃H,zj (I0.start p s R0) P0=H:=⟨_,rfl⟩;rw[J]at h d;refine tg.un O (m5 (N1 (sp9 (r:=12) h d u m4 m4) λw h=>?_));obtain⟨b,Q⟩:=d.X8 (r:=12) m4 m4;replace h:=Hp.se Q h;obtain⟨D,L⟩:∃D,T.X8 12=D:=⟨_,rfl⟩;rw[L]at h b;have TP:=b.rl;refine ga (als h m4) λa1 V1 w h=>ga (aig (h.g [1] O) b) λa2 E4 w h=>?_;have FV:(T7 D).length<=64:=by have:=b.hb.P2.l;rw[fm,(H5 _).length_eq];unfold nx;refine j9 (Rh _ _) ?_;rw[H7,yz];exact this
  refine p5.A6 kn [6,7,8] (λm vs w'=>∃i:Nat,vs=[.slice a1 D.M3.length V1,.slice a2 (T7 D).length E4,I i]∧i+m=D.M3.length∧Hp c w' (so 3 O5 a2 E4 (T7 D)::so 42 I9 a1 V1 D.M3::R)) D.M3.length ⟨0,rfl,m4,h.q 4 [0,2] O⟩ ?_;rintro m _ w1 Z ⟨i,rfl,Y,h⟩;refine BR.T5 (λM=>?_) λM=>?_
  ·obtain⟨y,X⟩:∃y,i3 D.M3 i=some y:=⟨_,by rw[Z0];exact d8 m4⟩;have v:=λ(hb:fU y)=>b.hb.A6.aew (r:=y) (by grind[Z0]) hb;refine jd h 1 O λb3 V U9=>Oa.sl h 1 O Zb9 Zb9 (I2 h O λb4 w h=>J3 h 0 O O O λw h=>U0 h 0 O O (BR.ne (λo=>?_) λo=>?_))
   ·refine Q5 (Q5 (i5 ⟨(m-1),?_,_,rfl,?_,h.q 3 [1,2] O⟩))
    ·omega
    ·grind[]
   ·refine U0 h 0 O O (BR.eq (λj=>?_) λj=>?_)
    ·refine Q5 (i5 ⟨(m-1),?_,_,rfl,?_,h.q 3 [1,2] O⟩)
     ·omega
     ·grind[]
    ·refine U0 h 0 O O (BR.eq (λF=>?_) λF=>?_)
     ·refine Q5 (m5 ?_);have hnm:=v ⟨o,j,.inl F⟩;exact qU
     ·refine U0 h 0 O O (BR.eq (λE=>?_) λE=>?_)
      ·refine m5 ?_;have hnm:=v ⟨o,j,.inr (.inl E)⟩;exact qU
      ·refine U0 h 0 O O (BR.eq (λC=>?_) λC=>?_)
       ·refine U0 h 0 O O (BR.not (BR.eq (λA=>?_) λA=>?_))
        ·have hnm:=v ⟨o,j,.inr (.inr ⟨C,A⟩)⟩;exact qU
        ·refine i5 ⟨(m-1),?_,_,rfl,?_,h.q 3 [1,2] O⟩
         ·omega
         ·grind[]
       ·refine Q5 (i5 ⟨(m-1),?_,_,rfl,?_,h.q 3 [1,2] O⟩)
        ·omega
        ·grind[]
  ·exact⟨rfl,h.q 2 [] O⟩
end
end Go.Proofs.YtaaihojmcfaejaaGreatDoor
