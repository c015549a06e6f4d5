/- Lemmas for the tops: the walk of the house and its laws. No condition is added. -/
import Derived.Test.YtaaihojmcfaejaaGreatDoorYi
import Derived.Test.YtaaihojmcfaejaaGreatDoorYf
import Derived.Test.YtaaihojmcfaejaaGreatDoorQbc
import Derived.Test.YtaaihojmcfaejaaGreatDoorQah
import Derived.Test.YtaaihojmcfaejaaGreatDoorQaf
set_option linter.all false
namespace Go.Proofs.YtaaihojmcfaejaaGreatDoor
open Go Go.RowKit Go.Proofs.Tryz
section
variable{c w:World}{R:List HP}
set_option maxHeartbeats 4000000 in
theorem sp5{p:R9}{s R0:Int}{a:Option Addr}{cap:Nat}{P0:List Ev}(h:Hp c w R)(T:ng c)(Uo:0<P0.length->Sx eEv c a P0.length cap P0)(Gn:∀ev∈P0,M7 ev.op.n):Cr 5 #[.agg #[I p.A0,I p.F0,I p.L0,I s,I R0],.slice a P0.length cap] w c (.bool true) R:=by
 refine R2 func5 O (I2 h O λb1 w h=>N1 (sp6 h T) λw h=>m5 (O4 h 0 O O (xb (sp7 (n:=P0.length) h) ?_)));rintro _ w ⟨q,rfl,v,h⟩;cases q with
 |true=>exact Q5 ⟨rfl,h.q 1 [] O⟩
 |false=>
  obtain⟨r7,⟨S,Q,hw⟩⟩:=v rfl;refine m5 (O4 h 0 O O (He (adb h Zb9 Zb9 Zb9 Zb9) λb2 w h=>tg.un O (m5 ?_)));have HV:=HH.start (R0:=R0) S Q;have alV:(I0.start p s R0).D0=p:=by rw[start_eq];exact(Zn (R0:=R0) S Q _ (V7 _)).D0
  obtain⟨M,eH0⟩:∃H,I0.start p s R0=H:=⟨_,rfl⟩;rw[eH0]at h HV alV;refine p5.A6 kn [1,2,5,6] (λm vs w'=>∃i:Nat,vs=[.slice a P0.length cap,Pt b1,Pt b2,I i]∧i+m=P0.length∧Hp c w' (G3 b2 (2*i) (zj M (P0.take i))::bk b1 [I p.A0,I p.F0,I p.L0,I s,I R0] 23::R)) P0.length ⟨0,rfl,m4,h⟩ ?_;rintro m _ w1 e0 ⟨i,rfl,hm,h⟩;refine BR.T5 (λg1=>?_) λg1=>?_
  ·obtain⟨ev,hx⟩:∃ev,i3 P0 i=some ev:=⟨_,by rw[Z0];exact d8 m4⟩;have Bt:ev∈P0:=by rw[Z0]at hx;exact wv hx
   have hs:=Uo m4;obtain⟨r,ajp⟩:=HV.evs Gn i m4 m4;have hev:=vy (h0:=M) hx;obtain⟨D,hD⟩:∃D,zj M (P0.take i)=D:=⟨_,rfl⟩;rw[hD]at h r ajp hev;refine Lz hs λbq oq haq=>Oa.ro h hs haq hx (I2 h O λb7 w h=>J3 h 0 O O O λw h=>U0 h 0 O O ?_);obtain⟨b,e,f,hq1,L,h⟩:=(h.g [1] rfl).C4;obtain⟨z,j⟩:∃z,(if 0<=ev.N3 then(i3 (b.q.map S2.pp) ev.N3.toNat).getD none else none)=z:=⟨_,rfl⟩;refine N1 (alq (s:=b) (g:=e) j (h.g [0,5] O)) λw h=>?_;have hDo:=λ(w:World)(R:List HP)(h:Hp c w (G3 b2 (2*i) D::R))=>bD (ev:=ev) h r T m4 (Gn ev Bt);obtain⟨⟨x9,D'⟩,hDe⟩:∃V,D.da ev=V:=⟨_,rfl⟩;rw[hDe]at hDo hev;simp only at hDo hev;by_cases g2:ev.W0=2
   ·cases z with
    |none=>replace h:=Hp.F1 (h0:=D) (s:=b) (g:=e) f hq1 L (h.g [0,2,3,4,5] O);exact U0 h 1 O O (Mj (tg.un O (Q5 (O4 h 1 O O (N1 (hDo _ _ h) λw h=>i5 ⟨m-1,m4,i+1,rfl,m4,by rw[hev];exact h.q 3 [0,2] O⟩)))))
    |some pp=>
     have h0w:0<=ev.N3:=by
      by_cases k:0<=ev.N3
      ·exact k
      ·rw[V0 k]at j;cases j
     rw[S1 h0w]at j;obtain⟨n,E⟩:∃n:Nat,ev.N3=n:=⟨ev.N3.toNat,m4⟩;rw[E]at j;simp only[Int.toNat_natCast]at j;obtain⟨y,u,Z⟩:∃y,i3 b.q n=some y∧y.pp=some pp:=by
      rw[Z0,We]at j;cases v:b.q[n]? with
      |none=>rw[v]at j;cases j
      |some y=>rw[v]at j;exact⟨y,by rw[Z0];exact v,by simpa using j⟩
     obtain⟨d,x,o⟩:=y;obtain⟨pa,rfl⟩:∃pa,o=some (pp,pa):=by
      cases o with
      |none=>cases Z
      |some q=>obtain⟨q1,q2⟩:=q;have:some q1=some pp:=Z;injection this with this;subst this;exact⟨q2,rfl⟩
     have J:b.J1.G5 (n:Int)=some pa:=HS.AM u;have hnl:n<b.q.length:=by rw[Z0]at u;exact(Cp.1 u).1
     have hnp:0<=ev.N3∧ev.N3<D.D0.A0:=by rw[E,f];show 0<=((n:Nat):Int)∧((n:Nat):Int)<b.D0.A0;omega
     obtain⟨l,S0,Na,aH⟩:=r.S0 (n:=ev.N3) ⟨hnp.1,m4⟩;have mq:=Na.few;have Tx:b.O0.D0=b.D0:=by have:=r.hb.Qa;rw[f]at this;exact this
     have alU:D.D0=b.D0:=by rw[f];rfl
     rw[alU]at hnp;have aoW:s6 (b.J1.U4 ev.N3) l S0:=by rw[<-f];exact Na
     have t:=(Inv.aoL r.hb.A6 ev g2 (by rw[alU];exact hnp) (p:=pa) (by rw[E,f];exact J)).2;have aoJ:(aom D ev.N3).1=(P6 S0).N0:=by unfold aom;rw[V0 (by have:=r.hb.Qa;rw[this,alU];omega)];simp only[aH];rfl
     rw[aoJ,hDe]at t;have hdd:D.P2=b.P2:=by rw[f];rfl
     have YP:D.C0=b.C0:=by rw[f];rfl
     rw[hdd,YP]at t;simp only at t;have fX:=aoE S0;have apj:S0.length*S0.length<=10000*10000:=zq m4 m4;obtain⟨N0,Am⟩:∃N0,(P6 S0).N0=N0:=⟨_,rfl⟩;have X:=λ(w:World)(R:List HP)(h:Hp c w (bk b2 (O9 b e) 90::K1 e.pk b.O0::x5 e.pl b.p6::z6 e.pd b.P2::so 99 am e.ad e.cd (b.q.map (·.d)++[b.dc])::so 61 Pg e.ap e.cp (b.q.map S2.pp)::so 42 I9 e.ar e.cr b.M3::so 215 jl e.B6 e.cs e.sl::rl (sh.mem (2*i)) e.sl::rl (M4 e.pk (2*i)) b.q::Lf e.pk b.dc b.xc b.oc::R))=>apf (n:=ev.N3) (N:=2*i) hq1 h hnp Tx aoW m4;rw[Am]at X t fX;replace h:=h.g [0,2,3,4,5] O;have fH:b.P2.Ok:=by have:=r.hb.P2;rw[f]at this;exact this
     have hSS:=(r.hb.A0 n pa (by rw[f];exact J)).1;have hwb:∀(tx:Int)(x:I7),K0 pa.U1.G0 tx=some x->x.I3.length<=100000000:=λtx x hx=>by have:x.I3.length<=16:=hSS.I3 _ (Q7 hx);omega
     have G:∀tx:Int,(pa.U1.rc tx).length<=16:=λtx=>by
      cases hx:K0 pa.U1.G0 tx with
      |none=>simp[E1.rc,hx]
      |some x=>have h1:x.I3.length<=16:=hSS.I3 _ (Q7 hx);simp only[E1.rc,hx];rw[Db];exact h1
     have apg:i3 (b.q.map S2.pp) n=some (some pp):=by rw[Z0]at u⊢;rw[We,u];rfl
     refine U0 h 11 O O (Mj (tg.un O (m5 (U0 h 11 O O (xb (X _ _ h) ?_)))));rintro _ w ⟨ab,cb,a2,n2,E4,rfl,h⟩;refine Y6 h [0,2,4,3,51,55,106,7,8,9,10,11] λh=>U3 12 O O (N1 (ZV (s:=b) (g:=e) (h.g [1] O)) λw h=>⟨h.g [1] O,N1 (aho (s:=b) (g:=e) h) λw h=>⟨h.g [1] O,N1 (acZ (h.g [4] O) Zb9) λw h=>?_⟩⟩);obtain⟨pp',ug,v0,v1,v2,v4,v5,K,alT,h,ay⟩:=HS.iO (i:=n) J (h.g [10] rfl);rw[apg]at alT;injection alT with api
     injection api with aph;subst aph;refine N1 (alp h) λw h=>ga (agR (h.g [1] O) (hwb _)) λa4 ph w h=>ga (aoU (h.Z4 0 O) (by have:=G (b.P2.of ev.Z3 b.C0).1;omega)) λa5 Mt w A=>?_;replace h:=h.H6 A;replace h:=ay _ _ (h.g [3,2,4] O);replace h:=Hp.F1 (h0:=D) (s:=b) (g:=e) f hq1 L (h.q 16 [4,6,7,3,8,9,10,11,12,0,13,1,5,14,15] O);clear ay;refine O4 h 3 O O (N1 (hDo _ _ h) λw h=>I2 h O λb3 w h=>J3 h 0 O O O λw h=>Y6 h [0,1,2,3,54,5,6,7,8,59,10,11,12,13,15,16,18,19,14,20,67,71,22,23,24,25,26,77,28,29,30,32,81,33,34,35] λh=>m5 (U0 h 0 O O ⟨h,BR.eq (λF=>?_) λF=>?_⟩))
     ·refine U0 h 4 O O ⟨h,BR.eq (λC=>?_) λC=>?_⟩
      ·refine xg 0 O O (xg 4 O O (xb (apd (h.Z4 3 O) (h.Z4 2 O) ?_) ?_))
       ·have h9:=G (b.P2.of ev.Z3 b.C0).1;omega
       rintro _ w ⟨a1,V1,rfl,A⟩;replace h:=h.H6 A;refine⟨h.q 7 [1,2,3,4,5,6] O,xb (ape (h.Z4 0 O) ?_) ?_⟩
       ·have h9:=G (b.P2.of ev.Z3 b.C0).1;exact j9 (Rh _ _) (j9 (aor _) (by rw[j7];omega))
       rintro _ w ⟨rfl,A⟩;replace h:=h.H6 A;refine⟨h.q 7 [1,2,3,4,5,6] O,RD.xV Zb2 Zb2 O O (BR.not (BR.O' (λY=>?_) λY=>?_))⟩
       ·exact U0 h 1 O O ⟨h.q 7 [1,2,3,4,5,6] O,Mj ⟨h.q 7 [1,2,3,4,5,6] O,m5 (i5 ⟨m-1,m4,i+1,rfl,m4,by rw[hev];exact h.q 7 [2,6] O⟩)⟩⟩
       ·refine⟨h.q 7 [1,2,3,4,5,6] O,⟨h.q 7 [1,2,3,4,5,6] O,Q5 ⟨A8 O ?_,h.q 7 [] O⟩⟩⟩;exact absurd Y (by rw[t.1 F C];simp[sg])
      ·exact⟨h,⟨h,m5 (U0 h 0 O O ⟨h,Mj ⟨h,m5 (i5 ⟨m-1,m4,i+1,rfl,m4,by rw[hev];exact h.q 6 [1,5] O⟩)⟩⟩)⟩⟩
     ·refine⟨h,m5 ⟨h,⟨h,m5 (U0 h 0 O O ⟨h,xq (O4 h 0 O O ⟨h,RD.xV Zb2 Zb2 O O (BR.not ?_)⟩)⟩)⟩⟩⟩;refine BR.O' (λC=>?_) λC=>?_
      ·exact i5 ⟨m-1,m4,i+1,rfl,m4,by rw[hev];exact h.q 6 [1,5] O⟩
      ·refine⟨A8 O ?_,h.q 6 [] O⟩;exact absurd C (by rw[t.2 F];simp[sg,X0])
   ·replace h:=Hp.F1 (h0:=D) (s:=b) (g:=e) f hq1 L (h.g [0,2,3,4,5] O);exact U0 h 1 O O (xq (Q5 (O4 h 1 O O (N1 (hDo _ _ h) λw h=>i5 ⟨m-1,m4,i+1,rfl,m4,by rw[hev];exact h.q 3 [0,2] O⟩))))
  ·have hi:i=P0.length:=m4
   subst hi;exact⟨rfl,h.q 2 [] O⟩
end
end Go.Proofs.YtaaihojmcfaejaaGreatDoor
