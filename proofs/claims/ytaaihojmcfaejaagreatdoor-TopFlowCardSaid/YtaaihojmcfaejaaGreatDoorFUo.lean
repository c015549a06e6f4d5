/- Lemmas for the tops: the walk of the house and its laws. No condition is added. -/
import Derived.Test.YtaaihojmcfaejaaGreatDoorQbc
import Derived.Test.YtaaihojmcfaejaaGreatDoorFUd
import Derived.Test.YtaaihojmcfaejaaGreatDoorQah
import Derived.Test.YtaaihojmcfaejaaGreatDoorQaf
set_option linter.all false
namespace Go.Proofs.YtaaihojmcfaejaaGreatDoor
open Go Go.RowKit Go.Proofs.Tryz
theorem aat{P:Prop}(h:P:=by
 replace h:Hp _ _ (K1 _ (s1.O0)::_):=Hp.F3 (h.g [2,0,3,4] O);refine⟨(m4-1),?_,_,rfl,?_,h.q 15 [3,4,1,0,5,6,7,8,9,10,11,12,13,14] O⟩
 ·omega
 ·grind[]):P:=h
section
variable{c w:World}{R:List HP}
theorem FP{k:J2}(b:k.Ok)(p:Int)(up:Bool):(k.C8 p up).length<=8:=by
 unfold J2.C8;split
 ·simp
 ·rename_i x a;unfold Yk.P0;split
  ·simp
  ·exact(b.w _ _ a).2.2
theorem BI.evs{h0:I0}(a:BI h0):∀l:List Ev,BI (zj h0 l):=by
 intro l;unfold zj;induction l generalizing h0 with
 |nil=>exact a
 |cons e l b=>grind[da]
theorem sp4{p:R9}{s R0:Int}{a:Option Addr}{cap:Nat}{P0:List Ev}(h:Hp c w R)(M:ng c)(Uo:0<P0.length->Sx eEv c a P0.length cap P0)(F:∀ev∈P0,M7 ev.op.n):Cr 4 #[.agg #[I p.A0,I p.F0,I p.L0,I s,I R0],.slice a P0.length cap] w c (.bool true) R:=by
 refine R2 func4 O (I2 h O λb1 w h=>N1 (sp6 h M) λw h=>m5 (O4 h 0 O O (xb (sp7 (n:=P0.length) h) ?_)));rintro _ w ⟨q,rfl,hq,h⟩;cases q with
 |true=>exact Q5 ⟨rfl,h.q 1 [] O⟩
 |false=>
  obtain⟨r7,⟨v,L,hw⟩⟩:=hq rfl;refine m5 (O4 h 0 O O (He (adb h ‹_› ‹_› ‹_› ‹_›) λb2 w h=>tg.un O (m5 ?_)));have C:=HH.start (R0:=R0) v L;have hF0:=BI.start p s R0;have alV:(I0.start p s R0).D0=p:=by rw[start_eq];exact(Zn (R0:=R0) v L _ (V7 _)).D0
  obtain⟨E,eH0⟩:∃H,I0.start p s R0=H:=⟨_,rfl⟩;rw[eH0]at h C hF0 alV;obtain⟨n,hn⟩:∃n:Nat,p.A0=n:=⟨p.A0.toNat,by have:=v.A0;omega⟩;have hn6:n<=6:=by have:=v.A0;omega
  refine p5.A6 kn [1,2,5,6] (λm vs w'=>∃i:Nat,vs=[.slice a P0.length cap,Pt b1,Pt b2,I i]∧i+m=P0.length∧Hp c w' (G3 b2 (2*i) (zj E (P0.take i))::bk b1 [I p.A0,I p.F0,I p.L0,I s,I R0] 23::R)) P0.length ⟨0,rfl,by omega,h⟩ ?_;rintro m _ w1 e0 ⟨i,rfl,hm,h⟩;refine BR.T5 (λg1=>?_) λg1=>?_
  ·obtain⟨ev,u⟩:∃ev,i3 P0 i=some ev:=⟨_,by rw[Z0];exact d8 (by omega)⟩;have Bt:ev∈P0:=by rw[Z0]at u;exact wv u
   have hs:=Uo (by omega);obtain⟨Z,ajp⟩:=C.evs F i (by omega) (by omega);obtain⟨t,alU⟩:=C.evs F (i+1) (by omega) (by omega);have J:=hF0.evs (P0.take (i+1));have hev:=vy (h0:=E) u;refine Lz hs λbq oq haq=>Oa.ro h hs haq u (N1 (bD (ev:=ev) h Z M (by omega) (F ev Bt)) λw h=>?_);rw[<-hev]at h;obtain⟨D,hD⟩:∃D,zj E (P0.take (i+1))=D:=⟨_,rfl⟩;rw[hD]at h t J alU;refine p5.A6 kn [1,2,5,6,7] (λm vs w'=>∃j:Nat,vs=[.slice a P0.length cap,Pt b1,Pt b2,I i,I j]∧j+m=n∧Hp c w' (G3 b2 (2*i+2) D::bk b1 [I p.A0,I p.F0,I p.L0,I s,I R0] 23::R)) n ⟨0,rfl,by omega,h⟩ ?_;rintro m2 _ w1 e1 ⟨j,rfl,II,h⟩;obtain⟨G,S⟩:=J.ank (j:Int);obtain⟨s1,b,f,hq1,T,h⟩:=h.C4;have hbg:∀up l,K0 s1.p6.S8 ⟨(j:Int),up⟩=some l->l.length<=16:=λup l e=>(t.hb.S8 (j:Int) up l (by rw[f];exact e)).1;have K:s1.O0.Ok:=by have:=t.hb.kb.ok;rw[f]at this;exact this
   rw[f]at G S;have X:∀up,(s1.p6.Ot (j:Int) up).length<=16:=λup=>by have:=eE t (j:Int) up;rw[f]at this;exact this
   have Y:=FP K (j:Int);have hb3:=X true;have hb4:=X false;have hb5:=Y true;have hb6:=Y false;refine U0 h 11 O O (BR.T5 (λg2=>?_) λg2=>?_)
   ·have amy:=λ(up:Bool)(w:World)(R:List HP)(h:Hp c w (x5 b.pl s1.p6::R))=>ada (p:=(j:Int)) (up:=up) h (hbg up);have aof:=λ(up:Bool)(w:World)(R:List HP)(h:Hp c w (K1 b.pk s1.O0::R))=>GR (p:=(j:Int)) (up:=up) h K;refine N1 (ahJ h) λw h=>ga (ada (h.g [2] O) (by grind[])) λa1 V1 w h=>N1 (IR (h.g [2] O)) λw h=>ga (GR (h.g [3] O) ‹_›) λa2 E4 w h=>A4.Pk (Ca.of (w9:=32) kn O O O O O O) h 3 O O O (h.Z4 0 O).sl (by omega) (λ_ _=>rfl) λa3 r w h=>N1 (ahJ (h.g [2] O)) λw h=>ga (amy true _ _ (h.g [4] O)) λa4 ph w h=>N1 (IR (h.g [2] O)) λw h=>ga (GR (h.g [4] O) ‹_›) λa5 Mt w h=>A4.Pk (Ca.of (w9:=32) kn O O O O O O) h 3 O O O (h.Ew 0 O) (by omega) (λ_ _=>rfl) λz A w h=>?_;have hul:(s1.p6.Ot (j:Int) true++s1.O0.C8 (j:Int) true).length<=24:=by rw[j7];omega
    have Wx:(s1.p6.Ot (j:Int) false++s1.O0.C8 (j:Int) false).length<=24:=by rw[j7];omega
    refine p5.A6 kn [1,2,5,6,7,8,9,10] (λm vs w'=>∃k:Nat,vs=[.slice a P0.length cap,Pt b1,Pt b2,I i,I j,.slice a3 (s1.p6.Ot (j:Int) false++s1.O0.C8 (j:Int) false).length r,.slice z (s1.p6.Ot (j:Int) true++s1.O0.C8 (j:Int) true).length A,I k]∧k+m=(s1.p6.Ot (j:Int) true++s1.O0.C8 (j:Int) true).length∧Hp c w' (so 55 j8 z A (s1.p6.Ot (j:Int) true++s1.O0.C8 (j:Int) true)::so 55 j8 a3 r (s1.p6.Ot (j:Int) false++s1.O0.C8 (j:Int) false)::bk b2 (O9 s1 b) 90::K1 b.pk s1.O0::x5 b.pl s1.p6::z6 b.pd s1.P2::so 99 am b.ad b.cd (s1.q.map (·.d)++[s1.dc])::so 61 Pg b.ap b.cp (s1.q.map S2.pp)::so 42 I9 b.ar b.cr s1.M3::so 215 jl b.B6 b.cs b.sl::rl (sh.mem (2*i+2)) b.sl::rl (M4 b.pk (2*i+2)) s1.q::Lf b.pk s1.dc s1.xc s1.oc::bk b1 [I p.A0,I p.F0,I p.L0,I s,I R0] 23::R)) (s1.p6.Ot (j:Int) true++s1.O0.C8 (j:Int) true).length ⟨0,rfl,by omega,h.q 16 [3,6,2,1,4,7,8,9,10,11,12,13,14,15] O⟩ ?_;rintro m3 _ w1 e3 ⟨k,rfl,hm3,h⟩;refine BR.T5 (λg3=>?_) λg3=>?_
    ·obtain⟨y,o⟩:∃y,i3 (s1.p6.Ot (j:Int) true++s1.O0.C8 (j:Int) true) k=some y:=⟨_,by rw[Z0];exact d8 (by omega)⟩;obtain⟨SP,WG⟩:=G y (by rw[Z0]at o;exact wv o);refine jd h 0 O λb3 o1 U9=>LD.sl h 0 O ‹_› ‹_› O (Mj (jd h 0 O λb4 o2 Lj=>LD.qf h 0 O ‹_› ‹_› O (Te (i5 ⟨(m3-1),?_,_,rfl,?_,h⟩))))
     ·omega
     ·grind[]
    ·refine p5.A6 kn [1,2,5,6,7,8,11] (λm vs w'=>∃k:Nat,vs=[.slice a P0.length cap,Pt b1,Pt b2,I i,I j,.slice a3 (s1.p6.Ot (j:Int) false++s1.O0.C8 (j:Int) false).length r,I k]∧k+m=(s1.p6.Ot (j:Int) false++s1.O0.C8 (j:Int) false).length∧Hp c w' (so 55 j8 z A (s1.p6.Ot (j:Int) true++s1.O0.C8 (j:Int) true)::so 55 j8 a3 r (s1.p6.Ot (j:Int) false++s1.O0.C8 (j:Int) false)::bk b2 (O9 s1 b) 90::K1 b.pk s1.O0::x5 b.pl s1.p6::z6 b.pd s1.P2::so 99 am b.ad b.cd (s1.q.map (·.d)++[s1.dc])::so 61 Pg b.ap b.cp (s1.q.map S2.pp)::so 42 I9 b.ar b.cr s1.M3::so 215 jl b.B6 b.cs b.sl::rl (sh.mem (2*i+2)) b.sl::rl (M4 b.pk (2*i+2)) s1.q::Lf b.pk s1.dc s1.xc s1.oc::bk b1 [I p.A0,I p.F0,I p.L0,I s,I R0] 23::R)) (s1.p6.Ot (j:Int) false++s1.O0.C8 (j:Int) false).length ⟨0,rfl,by omega,h⟩ ?_;rintro m4 _ w1 e4 ⟨k,rfl,hm4,h⟩;refine BR.T5 (λg4=>?_) λg4=>?_
     ·obtain⟨y,o⟩:∃y,i3 (s1.p6.Ot (j:Int) false++s1.O0.C8 (j:Int) false) k=some y:=⟨_,by rw[Z0];exact d8 (by omega)⟩;obtain⟨SP,WG,V⟩:=S y (by rw[Z0]at o;exact wv o);refine jd h 1 O λb3 o1 U9=>Oa.sl h 1 O ‹_› ‹_› (I2 h O λb4 w h=>J3 h 0 O O O λw h=>Y6 h [0,3,5,6,4,51,52,57,108,9,10,11,12,13] λh=>U3 0 O O (N1 (IR (h.g [3] O)) λw h=>⟨h.g [1,2,3] O,pg ((h.g [4] O).d5) λC7 E7 D5 D7 h=>N1 (Mp h) λw h=>⟨by replace h:Hp _ _ (K1 _ (s1.O0)::_):=Hp.F3 (h);exact h.g [2,3,4,1] O,N1 (aho (h.g [4] O)) λw h=>?_⟩⟩));refine⟨by replace h:Hp _ _ (K1 _ (s1.O0)::_):=Hp.F3 (h.g [1,2,3,4] O);exact h.g [2,3,4,1] O,N1 (yj (h.g [2] O)) λw h=>U0 h 5 O O (Mj (U0 h 5 O O (Te (U0 h 5 O O (BR.eq (λx=>?_) λx=>?_)))))⟩
      ·refine BR.ne (λQ=>?_) λQ=>?_
       ·refine Q5 ⟨A8 O ?_,h.q 18 [] O⟩;exact absurd (V4 Prod.snd (V x)) Q
       ·refine U0 h 5 O O (BR.ne (λN=>?_) λN=>?_)
        ·refine⟨A8 O ?_,h.q 18 [] O⟩;exact absurd (V4 Prod.fst (V x)) N
        ·refine i5 ?_;exact aat
      ·refine m5 (i5 ?_);exact aat
     ·refine i5 ?_;replace h:=Hp.F1 (h0:=D) (s:=s1) (g:=b) f hq1 T (h.q 14 [2,3,4,5,6,7,8,9,10,11,12,13] O);exact⟨m2-1,by omega,j+1,rfl,by omega,h⟩
   ·refine i5 ?_;replace h:=Hp.F1 (h0:=D) (s:=s1) (g:=b) f hq1 T h;exact⟨m-1,by omega,i+1,rfl,by omega,by grind⟩
  ·have Iz:i=P0.length:=by omega
   exact⟨rfl,h.q 2 [] O⟩
end
end Go.Proofs.YtaaihojmcfaejaaGreatDoor
