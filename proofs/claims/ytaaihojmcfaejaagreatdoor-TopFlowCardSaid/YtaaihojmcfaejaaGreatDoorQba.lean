/- Lemmas for the tops: the walk of the house and its laws. No condition is added. -/
import Derived.Test.YtaaihojmcfaejaaGreatDoorQaz
import Derived.Test.YtaaihojmcfaejaaGreatDoorQah
import Derived.Test.YtaaihojmcfaejaaGreatDoorQaf
set_option linter.all false
namespace Go.Proofs.YtaaihojmcfaejaaGreatDoor
open Go Go.RowKit Tryz
variable{h h0:I0}{n t:Int}{z:J2×O6}{R:List HP}{N b m pr:Nat}{c w:World}
section
variable{P:zf}
theorem HB.cx(hb:HB P N h){C:D8}(a:h.O1=some C):CX P 0 ⟨C,h.O0,h.U4 h.D0.A0⟩:=by
 have b:=hb.A6.O1;rw[a]at b;have c:=hb.O1 C a;have d:=hb.P2.l;refine⟨?_,hb.kb,hb.VS,?_,c.2⟩
 ·rw[hb.A6.D0];exact b.ci hb.A6.R4 hb.A6.O0 hb.A6.Qa
 grind
theorem HB.px(hb:HB P N h){n:Nat}(b:(n:Int)<h.D0.A0){p:d4}(hp:h.G5 n=some p):PX (17000+16*N) 0 ⟨p,h.O0,h.U4 n⟩∧p.me=n:=by have a:=hb.A6.E0 n (by rw[<-hb.A6.D0];exact b);rw[hp]at a;have c:=hb.A0 n p hp;have d:=hb.P2.l;refine⟨⟨(a.1 h.O0).mono (λ_ _=>trivial) (λ_ _=>trivial),c.1,hb.kb,hb.VS,?_⟩,a.2.1⟩;grind
end
theorem CX.dG{P:zf}{x:CW}(h:CX P m x)(r:m<=100000)(C0:Int):CX P (m+18006) (x.run C0).2∧(x.run C0).2.O0.D0=x.O0.D0∧(x.run C0).2.O1.B0.map (·.1)=x.O1.B0.map (·.1):=by
 by_cases i:x.O0.D0.K6 C0=x.O0.D0.A0
 ·have q:=h.pl.A0;obtain⟨f,c,b⟩:=h.cf1 C0 x.O0.D0.A0.toNat m4;obtain⟨x2,j⟩:∃x2,Go.Proofs.YtaaihojmcfaejaaGreatDoor.cf1 C0 x x.O0.D0.A0.toNat=x2:=⟨_,rfl⟩;rw[j]at f c b;obtain⟨j1,j2,j3⟩:=CX.cf2 C0 (T3 x2.O1.B0) f (λtx p=>(i4 _).mem_iff.mp p);obtain⟨⟨⟨l,B0⟩,k,d⟩,hx3⟩:∃n,Go.Proofs.YtaaihojmcfaejaaGreatDoor.cf2 C0 x2 (T3 x2.O1.B0)=n:=⟨_,rfl⟩;rw[hx3]at j1 j2 j3;have e:=eN i j hx3;obtain⟨o,g⟩:=aU (C:=3000) j1.kb B0 C0 j1.B0 x.O0.D0.A0.toNat m4;have a:=h.ci.run C0;rw[e]at a⊢;simp only at a g j2⊢;refine⟨⟨a,o.up m4,?_,j1.B0,j1.Pu⟩,g.trans (j2.trans c),j3.trans b⟩;grind[pl]
 ·have e:x.run C0=(23,x):=by unfold CW.run;simp only;rw[S1 i]
  rw[e];exact⟨h.up m4,rfl,rfl⟩
theorem PX.dG{n:Nat}{x:PW}(h:PX n m x)(E:m<=900000)(C0:Int):PX (n+16) (m+81) (x.run C0).2∧(x.run C0).2.E0.me=x.E0.me∧(x.run C0).2.O0.D0=x.O0.D0∧(x.run C0).2.E0.B0.map (·.1)=x.E0.B0.map (·.1):=by
 by_cases j:x.O0.D0.K6 C0=x.E0.me
 ·obtain⟨a,i⟩:∃a:List (Int×Nat),x.E0.B0.map (·.1)=a.map (·.1):=⟨x.E0.B0.map λr=>(r.1,0),Zb3⟩;have v:a.length<=80:=by have:=V4 List.length i;simp only[List.length_map]at this;have:=h.B0;omega
  have hEl:(d9 a).length<=80:=by unfold d9;rw[H7,(i4 _).length_eq,H7];exact v
  have f:=h.Q9 C0;obtain⟨X1,b⟩:∃X1:PW,X1={x with E0:={x.E0 with U1:=(x.E0.U1.Q9 C0).2}}:=⟨_,rfl⟩;rw[<-b]at f;have C:X1.E0.B0.map (·.1)=a.map (·.1):=by rw[b];exact i
  obtain⟨o,u,l,k⟩:=gy C0 (d9 a) f (λy d=>by grind[Ao]);obtain⟨X2,hX2⟩:∃X2,fo (f1 C0) X1 (d9 a)=X2:=⟨_,rfl⟩;rw[hX2]at o u l k;obtain⟨z,c⟩:∃z,X2.O0.J6 X2.E0.me X2.E0.me 0 C0=z:=⟨_,rfl⟩;have g:=o.J6 m4 X2.E0.me X2.E0.me 0 C0;rw[c]at g;obtain⟨y,d⟩:∃y,(if z.2.1=0 then PW.take {X2 with O0:=z.2.2} z.1 C0 else(0,{X2 with O0:=z.2.2}))=y:=⟨_,rfl⟩;have A:z.2.2.D0=x.O0.D0:=by rw[<-c,Df,k,b]
  have t:PX (n+16) (m+1) y.2∧y.2.E0.me=X2.E0.me∧y.2.E0.B0.map (·.1)=X2.E0.B0.map (·.1)∧y.2.O0.D0=z.2.2.D0:=by
   rw[<-d];split
   ·refine⟨g.take m4 z.1 C0,XC _ _ _,CA _ _ _,?_⟩;have s:∀(X:PW)(q:P9),(X.take q C0).2.O0.D0=X.O0.D0:=by
     intro X q;unfold PW.take;split
     ·rfl
     ·split
      ·rfl
      ·split
       ·split
        ·simp only;split
         ·simp[Gb]
         ·exact(Bf _ _ _ _ _).trans (V4 (·.D0) (Gb X q.tx _ _).1)
        ·exact Bf _ _ _ _ _
       ·rfl
    rw[s]
   ·exact⟨g.up m4 m4,rfl,rfl,rfl⟩
  obtain⟨a1,a2,a3,a4⟩:=t;have e:=rJ (X:=x) i j b f hX2 c O d;have hky:y.2.E0.B0.map (·.1)=a.map (·.1):=a3.trans (l.trans C);rw[fy (f2 C0) y.2 hky]at e;obtain⟨b1,b2⟩:=UD C0 (d9 a) a1 m4;have w:(fo (f2 C0) y.2 (d9 a)).O0.D0=y.2.O0.D0:=by
   generalize y.2=Y;generalize d9 a=L;induction L generalizing Y with
   |nil=>rfl
   |cons p L D=>have F:fo (f2 C0) Y (p::L)=fo (f2 C0) (f2 C0 Y p.1 ((K0 Y.E0.B0 p.1).getD Cb)) L:=rfl;grind[f2,PW.jb,PW.Z6,Bf]
  rw[e];refine⟨b1.up (V7 _) m4,?_,?_,?_⟩
  ·simp[*]
  ·rw[w,a4,A]
  simp[*]
 ·have e:x.run C0=(23,x):=by unfold PW.run;rw[S1 j]
  rw[e];exact⟨h.up m4 m4,rfl,rfl,rfl⟩
theorem Uw{l:O6}{p:Int}{up:Bool}{P0:List P9}{Q:Int->Bool->Prop}(h:∀p up b,K0 l.S8 ⟨p,up⟩=some b->b.length<=16∧Q p up):∀c d b,K0 (l.put p up P0).2.2.S8 ⟨c,d⟩=some b->b.length<=16∧Q c d:=by
 intro c d b a;unfold O6.put at a;cases h0:K0 l.S8 ⟨p,up⟩with
 |none=>grind
 |some e=>
  rw[h0]at a;simp only at a;have f:K0 (R1 l.S8 ⟨p,up⟩ (e++(P0.filter (·.right)).take (min ((P0.filter (·.right)).length:Int) (16-e.length)).toNat)) ⟨c,d⟩=some b:=by split at a<;>exact a
  grind[G1,Y0]
theorem DA{l:O6}{p i:Int}{up st:Bool}{Q:Int->Bool->Prop}(h:∀p up b,K0 l.S8 ⟨p,up⟩=some b->b.length<=16∧Q p up):∀c d b,K0 (l.take p up i st).2.2.S8 ⟨c,d⟩=some b->b.length<=16∧Q c d:=by
 intro c d b a;unfold O6.take at a;cases h0:K0 l.S8 ⟨p,up⟩with
 |none=>grind
 |some e=>
  rw[h0]at a;simp only at a;split at a
  ·grind
  ·cases st with
   |true=>grind
   |false=>have f:K0 (R1 l.S8 ⟨p,up⟩ (pj e i.toNat)) ⟨c,d⟩=some b:=a;grind[G1,pj,Y0]
section
variable{ev:Ev}
theorem ahL{P:zf}(h:Hp c w (bk pr (Zk ev t 0 0 X0) 42::G3 b N h0::R))(M:HB P N h0):Cs 135 #[Pt b,ev.v,Pt pr] w (pA c b N pr (Zk ev t) R (h0.fa)):=by
 obtain⟨⟨⟨A0,F0,L0⟩,R0,C0,k,r,m,q,f,j,u,l⟩,⟨pk,pl,pd,ad,cd,F,E,ar,cr,B6,cs,L⟩,rfl,K,L8,h⟩:=(h.g [1] rfl).C4;simp only at K L8 h;replace h:Hp c w (bk pr [I ev.W0,I t,I ev.Z3,I ev.N3,I 0,I ev.op.W0,I ev.op.tx,B8 ev.op.key.a,B8 ev.op.key.b,B8 ev.op.key.x,B8 ev.op.key.y,I ev.op.n,I 0,.bool false,I 0] 42::bk b [I A0,I F0,I L0,I R0,I C0,Pt pk,Pt pl,Pt pd,.slice ad (q.map (·.d)++[f]).length cd,.slice F (q.map S2.pp).length E,la (u.map (·.1)),.slice ar l.length cr,.slice B6 L.length cs] 90::K1 pk k::x5 pl r::z6 pd m::so 99 am ad cd (q.map (·.d)++[f])::so 61 Pg F E (q.map S2.pp)::so 42 I9 ar cr l::so 215 jl B6 cs L::rl (sh.mem N) L::rl (M4 pk N) q::Lf pk f j u::R):=h.g [11] O;have fH:m.Ok:=M.P2;have Tx:F8 k.D0.A0 k.D0.F0 k.D0.L0:=M.VS;have Gi:=M.D0.A0;replace Gi:1<=A0∧A0<=6:=Gi;have bi:((q.map S2.pp).length:Int)=A0:=by rw[H7];exact K
 obtain⟨n,hn⟩:∃n,ce A0 C0=n:=⟨_,rfl⟩;have iK:0<=C0:=M.A6.C0;have fP:=Zg (p:=⟨A0,F0,L0⟩) (t:=C0) Zb1 iK;replace fP:0<=ce A0 C0∧ce A0 C0<=A0:=fP;rw[hn]at fP;have MI:=λ(w:World)(R:List HP)(h:Hp c w R)=>HF (p:=A0) (wd:=F0) (d:=L0) (t:=C0) h m4;rw[hn]at MI;by_cases g0:n=A0
 ·subst g0;cases u with
  |none=>
   have Q:I0.fa (HS.J1 ⟨⟨n,F0,L0⟩,R0,C0,k,r,m,q,f,j,none,l⟩)=(ma 22,HS.J1 ⟨⟨n,F0,L0⟩,R0,C0,k,r,m,q,f,j,none,l⟩):=by unfold I0.fa;exact S1 hn
   rw[Q];exact R2 func135 O (I2 h O λb1 w h=>Y6 h [0,1,2,3,4,6,7,8,12,13,14,5,9,15,60,61,16,17,18,119,20,21,122] λh=>xg 2 O O (U3 2 O O (U3 2 O O (N1 (MI _ _ h) λw h=>⟨h,nl (XN (ch:=none) (ps:=q.map S2.pp) (h.g [2,7] O) m4 bi (by unfold Bc<;>grind)) λw h=>λ_=>Or.inr ⟨rfl,rfl,(Hp.F1 (s:=⟨⟨n,F0,L0⟩,R0,C0,k,r,m,q,f,j,none,l⟩) (g:=⟨pk,pl,pd,ad,cd,F,E,ar,cr,B6,cs,L⟩) O K L8 (h.q 13 [0,4,5,6,7,1,8,9,10,11,12,3] O)).g [1] O⟩⟩))))
  |some y=>
   obtain⟨D,C⟩:=y;have ZP:=M.cx (C:=C) O;replace ZP:CX P 0 ⟨C,k,j⟩:=by have hd:=HS.Ey (s:=⟨⟨n,F0,L0⟩,R0,C0,k,r,m,q,f,j,some (D,C),l⟩) K;have e:(HS.J1 ⟨⟨n,F0,L0⟩,R0,C0,k,r,m,q,f,j,some (D,C),l⟩).D0.A0=n:=rfl;rw[e]at ZP;rw[hd]at ZP;exact ZP
   have T:Bc n (some D) (q.map S2.pp) n=(.iface 87 (Pt D),true):=by unfold Bc;rw[S1 O];rfl
   obtain⟨⟨er,⟨C',k',G⟩⟩,hW⟩:∃V,CW.T0 ⟨C,k,j⟩ C0=V:=⟨_,rfl⟩;have S:=λ(w:World)(R:List HP)(h:Hp c w (r6 pk f D C::M1 f j::K1 pk k::R))=>aeD (C0:=C0) h ZP;rw[hW]at S;simp only at S;have Q:I0.fa (HS.J1 ⟨⟨n,F0,L0⟩,R0,C0,k,r,m,q,f,j,some (D,C),l⟩)=(ma er,HS.J1 ⟨⟨n,F0,L0⟩,R0,C0,k',r,m,q,f,G,some (D,C'),l⟩):=by
    have a1:I0.fa (HS.J1 ⟨⟨n,F0,L0⟩,R0,C0,k,r,m,q,f,j,some (D,C),l⟩)=(ma (((HS.J1 ⟨⟨n,F0,L0⟩,R0,C0,k,r,m,q,f,j,some (D,C),l⟩).cw C).T0 C0).1,(HS.J1 ⟨⟨n,F0,L0⟩,R0,C0,k,r,m,q,f,j,some (D,C),l⟩).G7 (((HS.J1 ⟨⟨n,F0,L0⟩,R0,C0,k,r,m,q,f,j,some (D,C),l⟩).cw C).T0 C0).2):=by unfold I0.fa;exact S1 hn
    rw[a1,HS.cwE (s:=⟨⟨n,F0,L0⟩,R0,C0,k,r,m,q,f,j,some (D,C),l⟩) K];simp only[hW];rw[HS.ZF (s:=⟨⟨n,F0,L0⟩,R0,C0,k,r,m,q,f,j,some (D,C),l⟩) K D]
   rw[Q];have J:=λ(w:World)(v3 v4 Z Y X uj:Value)(R:List HP)(h:Hp c w (bk b [I n,I F0,I L0,I R0,I C0,v3,v4,Z,Y,.slice F (q.map S2.pp).length E,la (some D),X,uj] 90::so 61 Pg F E (q.map S2.pp)::R))=>xA (ch:=some D) (ps:=q.map S2.pp) (n:=n) h m4 bi (by rw[T]);rw[T]at J;simp only at J;refine R2 func135 O (I2 h O λb1 w h=>?_);replace h:Hp _ _ (M1 f j::r6 pk f D C::_):=Hp.R6 (h.g [12] O);refine NX h 14 [4] O [0,1,2,3,4,6,7,8,12,13,14,5,9,15,60,61,16,67,18,119,20,21,122] λh=>xg 0 O O (U3 0 O O (U3 0 O O (N1 (MI _ _ h) λw h=>⟨h.q 14 [4] O,N1 (J _ _ _ _ _ _ _ _ (h.g [4,9] O)) λw h=>⟨h.q 14 [0] O,A4.rW kn O O O O O ⟨h.q 14 [0] O,A4.A6 kn O O O O O O O (S _ _ (h.g [3,2,6] O)) ?_⟩⟩⟩)));rintro _ w ⟨rfl,h⟩;refine J3 h 6 O O O λw h=>?_;replace h:Hp _ _ (Lf pk f G (some (D,C'))::_):=Hp.C3 (A:=[M1 f G,r6 pk f D C']) (h.g [1] O);exact .inl ⟨rfl,(Hp.F1 (s:=⟨⟨n,F0,L0⟩,R0,C0,k',r,m,q,f,G,(some (D,C')),l⟩) (g:=⟨pk,pl,pd,ad,cd,F,E,ar,cr,B6,cs,L⟩) O K L8 (h.q 13 [2,1,6,7,8,3,9,10,11,12,0,5] O)).g [1] O⟩
 ·obtain⟨i,hi⟩:∃i:Nat,n=(i:Int):=⟨n.toNat,m4⟩;obtain⟨y,H⟩:∃y,i3 q i=some y:=⟨q[i]'m4,by rw[Z0,d8]⟩;have T:=Zh (A0:=A0) (ch:=u.map (·.1)) H m4;rw[<-hi]at T;have a2:(HS.J1 ⟨⟨A0,F0,L0⟩,R0,C0,k,r,m,q,f,j,u,l⟩).G5 n=y.E0:=by rw[hi];exact HS.AM (s:=⟨⟨A0,F0,L0⟩,R0,C0,k,r,m,q,f,j,u,l⟩) H
  obtain⟨d,x,o⟩:=y;cases o with
  |none=>
   have Q:I0.fa (HS.J1 ⟨⟨A0,F0,L0⟩,R0,C0,k,r,m,q,f,j,u,l⟩)=(ma 22,HS.J1 ⟨⟨A0,F0,L0⟩,R0,C0,k,r,m,q,f,j,u,l⟩):=by unfold I0.fa;have a3:(HS.J1 ⟨⟨A0,F0,L0⟩,R0,C0,k,r,m,q,f,j,u,l⟩).D0.K6 (HS.J1 ⟨⟨A0,F0,L0⟩,R0,C0,k,r,m,q,f,j,u,l⟩).C0=n:=hn;simp only[a3];rw[V0 (by exact g0),a2];rfl
   rw[Q];exact R2 func135 O (I2 h O λb1 w h=>Y6 h [0,1,2,3,4,6,7,8,12,13,14,5,9,15,60,61,16,17,18,119,20,21,122] λh=>xg 2 O O (U3 2 O O (U3 2 O O (N1 (MI _ _ h) λw h=>⟨h,nl (XN (ch:=u.map (·.1)) (ps:=q.map S2.pp) (h.g [2,7] O) m4 bi (by rw[T];rfl)) λw h=>λ_=>Or.inr ⟨rfl,rfl,(Hp.F1 (s:=⟨⟨A0,F0,L0⟩,R0,C0,k,r,m,q,f,j,u,l⟩) (g:=⟨pk,pl,pd,ad,cd,F,E,ar,cr,B6,cs,L⟩) O K L8 (h.q 13 [0,4,5,6,7,1,8,9,10,11,12,3] O)).g [1] O⟩⟩))))
  |some z=>
   obtain⟨pp,p⟩:=z;have UP:=(M.px (n:=i) (p:=p) (by rw[<-hi];show n<A0;omega) (by rw[<-hi,a2];rfl)).1;have UW:(HS.J1 ⟨⟨A0,F0,L0⟩,R0,C0,k,r,m,q,f,j,u,l⟩).U4 i=x:=HS.Yu (s:=⟨⟨A0,F0,L0⟩,R0,C0,k,r,m,q,f,j,u,l⟩) H;rw[UW]at UP;replace UP:PX (17000+16*N) 0 ⟨p,k,x⟩:=UP;have hN:=M.n;obtain⟨⟨er,⟨p',k',G⟩⟩,hW⟩:∃V,PW.T0 ⟨p,k,x⟩ C0=V:=⟨_,rfl⟩;have S:=λ(w:World)(R:List HP)(h:Hp c w (B7 pk d N pp p::M1 d x::K1 pk k::R))=>adt (C0:=C0) h UP m4;rw[hW]at S;simp only at S;have Q:I0.fa (HS.J1 ⟨⟨A0,F0,L0⟩,R0,C0,k,r,m,q,f,j,u,l⟩)=(ma er,HS.J1 ⟨⟨A0,F0,L0⟩,R0,C0,k',r,m,(q.set i ⟨d,G,some (pp,p')⟩),f,j,u,l⟩):=by
    have a3:(HS.J1 ⟨⟨A0,F0,L0⟩,R0,C0,k,r,m,q,f,j,u,l⟩).D0.K6 (HS.J1 ⟨⟨A0,F0,L0⟩,R0,C0,k,r,m,q,f,j,u,l⟩).C0=n:=hn;have a1:I0.fa (HS.J1 ⟨⟨A0,F0,L0⟩,R0,C0,k,r,m,q,f,j,u,l⟩)=(ma (((HS.J1 ⟨⟨A0,F0,L0⟩,R0,C0,k,r,m,q,f,j,u,l⟩).pw n p).T0 C0).1,(HS.J1 ⟨⟨A0,F0,L0⟩,R0,C0,k,r,m,q,f,j,u,l⟩).qg n (((HS.J1 ⟨⟨A0,F0,L0⟩,R0,C0,k,r,m,q,f,j,u,l⟩).pw n p).T0 C0).2):=by unfold I0.fa;simp only[a3];rw[V0 (by exact g0),a2];rfl
    rw[a1,hi,HS.pwE (s:=⟨⟨A0,F0,L0⟩,R0,C0,k,r,m,q,f,j,u,l⟩) H];simp only[hW];rw[HS.sZ (s:=⟨⟨A0,F0,L0⟩,R0,C0,k,r,m,q,f,j,u,l⟩) H pp]
   rw[Q];have J:=λ(w:World)(v3 v4 Z Y X uj:Value)(R:List HP)(h:Hp c w (bk b [I A0,I F0,I L0,I R0,I C0,v3,v4,Z,Y,.slice F (q.map S2.pp).length E,la (u.map (·.1)),X,uj] 90::so 61 Pg F E (q.map S2.pp)::R))=>xA (ch:=u.map (·.1)) (ps:=q.map S2.pp) (n:=n) h m4 bi (by rw[T];rfl);rw[T]at J;replace J:=λ(w:World)(v3 v4 Z Y X uj:Value)(R:List HP)(h:Hp c w (bk b [I A0,I F0,I L0,I R0,I C0,v3,v4,Z,Y,.slice F (q.map S2.pp).length E,la (u.map (·.1)),X,uj] 90::so 61 Pg F E (q.map S2.pp)::R))=>(J w v3 v4 Z Y X uj R h:Calls _ _ _ _ (Zb c (.iface 61 (Pt pp)) _));refine R2 func135 O (I2 h O λb1 w h=>?_);replace h:Hp _ _ (M4 pk N ⟨d,x,some (pp,p)⟩::_):=Hp.rf (h.g [11] O) H;replace h:Hp _ _ (M1 d x::B7 pk d N pp p::_):=Hp.R6 h;refine NX h 15 [5] O [0,1,2,3,4,6,7,8,12,13,14,5,9,15,60,61,16,67,18,119,20,21,122] λh=>xg 0 O O (U3 0 O O (U3 0 O O (N1 (MI _ _ h) λw h=>⟨h.q 15 [5] O,N1 (J _ _ _ _ _ _ _ _ (h.g [5,10] O)) λw h=>⟨h.q 15 [0] O,A4.rW kn O O O O O ⟨h.q 15 [0] O,A4.A6 kn O O O O O O O (S _ _ (h.g [3,2,7] O)) ?_⟩⟩⟩)));rintro _ w ⟨rfl,h⟩;refine J3 h 7 O O O λw h=>?_;replace h:Hp _ _ (M4 pk N ⟨d,G,some (pp,p')⟩::_):=Hp.C3 (A:=[M1 d G,B7 pk d N pp p']) (h.g [1,0,5] O);replace h:=Hp.Wj h H;rw[<-Iw H ⟨d,G,some (pp,p')⟩ O,<-Hw H ⟨d,G,some (pp,p')⟩ O]at h;exact .inl ⟨rfl,(Hp.F1 (s:=⟨⟨A0,F0,L0⟩,R0,C0,k',r,m,(q.set i ⟨d,G,some (pp,p')⟩),f,j,u,l⟩) (g:=⟨pk,pl,pd,ad,cd,F,E,ar,cr,B6,cs,L⟩) O Zb6 Zb6 (h.q 13 [2,1,6,7,8,3,9,10,11,0,12,5] O)).g [1] O⟩
end
def ik(up:Bool)(p:Int)(z:J2×O6):J2×O6:=((z.1.Za p up).2,(z.2.put p up (z.1.Za p up).1).2.2)
theorem zM(s:HS)(p:Int)(up:Bool):s.J1.pass p up=HS.J1 {s with O0:=(ik up p (s.O0,s.p6)).1,p6:=(ik up p (s.O0,s.p6)).2}:=rfl
def passS(A0 n p:Int)(z:J2×O6):J2×O6:=if n=A0 then ik false p z else if n=p then ik true p z else z
def xa(A0 n:Int)(z:J2×O6)(i:Nat):J2×O6:=(List.range i).foldl (λz(i:Nat)=>passS A0 n (i:Int) z) z
theorem Ub(A0 n:Int)(z:J2×O6)(i:Nat):xa A0 n z (i+1)=passS A0 n (i:Int) (xa A0 n z i):=by simp[xa,List.range_succ]
theorem qG{A0:Int}(f:I0->Int->I0)(s:HS)(b:∀(s:HS)(p:Int),f s.J1 p=HS.J1 {s with O0:=(passS A0 n p (s.O0,s.p6)).1,p6:=(passS A0 n p (s.O0,s.p6)).2})(i:Nat):m6 (i:Int) f s.J1=HS.J1 {s with O0:=(xa A0 n (s.O0,s.p6) i).1,p6:=(xa A0 n (s.O0,s.p6) i).2}:=by
 unfold m6;rw[kg];induction i with
 |zero=>rfl
 |succ i a=>simp_all[List.range_succ,Ub]
structure MN(m:Nat)(z:J2×O6):Prop where
 kb:KB m z.1
 S8:∀p up b,K0 z.2.S8 ⟨p,up⟩=some b->b.length<=16∧True
theorem MN.ik(h:MN m z)(a:m<=1000000)(up:Bool)(p:Int):MN m (ik up p z):=
 ⟨h.kb.Za a p up,Uw h.S8⟩
theorem MN.Za(h:MN m z)(up:Bool)(p:Int):(z.1.Za p up).1.length<=m:=by
 unfold J2.Za;split
 ·simp
 ·rename_i w a;exact h.kb.r9 _ _ a
theorem MN.passS(h:MN m z)(a:m<=1000000)(A0 n p:Int):MN m (passS A0 n p z):=by grind[Go.Proofs.YtaaihojmcfaejaaGreatDoor.passS,ik]
theorem MN.xa{m:Nat}{z:J2×O6}(h:MN m z)(a:m<=1000000)(A0 n:Int):∀i:Nat,MN m (xa A0 n z i)
 |0=>h
 |i+1=>by
  rw[Ub]
  exact(MN.xa h a A0 n i).passS a _ _ _
theorem pA.up{w':World}{M:Nat}{i:Int->Int->Ba->List Value}{x:QI×I0}{e:Ending}(f:N<=M)(h:pA c b N pr i R x e w'):pA c b M pr i R x e w':=by
 rcases h with⟨d,a⟩|⟨d,a,j⟩
 ·exact .inl ⟨d,(Hp.se f (a.g [1] O)).g [1] O⟩
 ·exact .inr ⟨d,a,(Hp.se f (j.g [1] O)).g [1] O⟩
theorem ack{P Q:Prop}(q:Q)(f:Q->P:=by intro q;exact R2 func127 O (I2 h O λb1 w h=>Y6 h [0,1,2,4,5,6,3,57,108,9] λh=>xg 2 O O (U0 h 2 O O ⟨h,N1 (MI _ _ h) λw h=>q b1 w h⟩))):P:=f q
section
variable{ev:Ev}
theorem ahR{P:zf}(h:Hp c w (bk pr (Zk ev t 0 0 X0) 42::G3 b N h0::R))(X:HB P N h0):Cs 127 #[Pt b,ev.v,Pt pr] w (pA c b (N+1) pr (Zk ev t) R (h0.vj)):=by
 obtain⟨⟨⟨A0,F0,L0⟩,R0,C0,k,u,F,q,r,E,G,D⟩,⟨pk,pl,pd,ad,cd,K,J,ar,cr,B6,cs,T⟩,rfl,hq,L8,h⟩:=(h.g [1] rfl).C4;simp only at hq L8 h;replace h:Hp c w (bk pr [I ev.W0,I t,I ev.Z3,I ev.N3,I 0,I ev.op.W0,I ev.op.tx,B8 ev.op.key.a,B8 ev.op.key.b,B8 ev.op.key.x,B8 ev.op.key.y,I ev.op.n,I 0,.bool false,I 0] 42::bk b [I A0,I F0,I L0,I R0,I C0,Pt pk,Pt pl,Pt pd,.slice ad (q.map (·.d)++[r]).length cd,.slice K (q.map S2.pp).length J,la (G.map (·.1)),.slice ar D.length cr,.slice B6 T.length cs] 90::K1 pk k::x5 pl u::z6 pd F::so 99 am ad cd (q.map (·.d)++[r])::so 61 Pg K J (q.map S2.pp)::so 42 I9 ar cr D::so 215 jl B6 cs T::rl (sh.mem N) T::rl (M4 pk N) q::Lf pk r E G::R):=h.g [11] O;have fH:F.Ok:=X.P2;have Tx:F8 k.D0.A0 k.D0.F0 k.D0.L0:=X.VS;have Gi:=X.D0.A0;replace Gi:1<=A0∧A0<=6:=Gi;have bi:((q.map S2.pp).length:Int)=A0:=by rw[H7];exact hq
 obtain⟨n,hn⟩:∃n,ce A0 C0=n:=⟨_,rfl⟩;have iK:0<=C0:=X.A6.C0;have fP:=Zg (p:=⟨A0,F0,L0⟩) (t:=C0) Zb1 iK;replace fP:0<=ce A0 C0∧ce A0 C0<=A0:=fP;rw[hn]at fP;have hN:=X.n;have hbg:=X.S8;have MI:=λ(w:World)(R:List HP)(h:Hp c w R)=>HF (p:=A0) (wd:=F0) (d:=L0) (t:=C0) h m4;rw[hn]at MI;by_cases g0:n=A0
 ·subst g0;cases G with
  |none=>
   have e1:I0.vj (HS.J1 ⟨⟨n,F0,L0⟩,R0,C0,k,u,F,q,r,E,none,D⟩)=(ma 22,HS.J1 ⟨⟨n,F0,L0⟩,R0,C0,k,u,F,q,r,E,none,D⟩):=by unfold I0.vj;exact S1 hn
   rw[e1];refine Calls.mono ?_ (λ_ _ h=>pA.up (j' N) h);exact R2 func127 O (I2 h O λb1 w h=>Y6 h [0,1,2,4,5,6,3,57,108,9] λh=>xg 2 O O (U0 h 2 O O ⟨h,N1 (MI _ _ h) λw h=>Y6 h [0,1,2,4,5,6,7,53,8,9,10,111,12,13,114] λh=>U3 2 O O (nl (XN (ch:=none) (ps:=q.map S2.pp) (h.g [2,7] O) m4 bi (by unfold Bc<;>grind)) λw h=>λ_=>Or.inr ⟨rfl,rfl,(Hp.F1 (s:=⟨⟨n,F0,L0⟩,R0,C0,k,u,F,q,r,E,none,D⟩) (g:=⟨pk,pl,pd,ad,cd,K,J,ar,cr,B6,cs,T⟩) O hq L8 (h.q 13 [0,4,5,6,7,1,8,9,10,11,12,3] O)).g [1] O⟩)⟩))
  |some y=>
   obtain⟨H,C⟩:=y;have ZP:=X.cx (C:=C) O;replace ZP:CX P 0 ⟨C,k,E⟩:=by have hd:=HS.Ey (s:=⟨⟨n,F0,L0⟩,R0,C0,k,u,F,q,r,E,some (H,C),D⟩) hq;have e:(HS.J1 ⟨⟨n,F0,L0⟩,R0,C0,k,u,F,q,r,E,some (H,C),D⟩).D0.A0=n:=rfl;rw[e]at ZP;rw[hd]at ZP;exact ZP
   have Ar:Bc n (some H) (q.map S2.pp) n=(.iface 87 (Pt H),true):=by unfold Bc;rw[S1 O];rfl
   have hX:=(ZP.dG m4 C0).1.kb;obtain⟨⟨er,⟨C',M,S⟩⟩,hW⟩:∃V,CW.run ⟨C,k,E⟩ C0=V:=⟨_,rfl⟩;have Kv:=λ(w:World)(R:List HP)(h:Hp c w (r6 pk r H C::M1 r E::K1 pk k::R))=>akj (C0:=C0) h ZP m4;rw[hW]at Kv hX;simp only at Kv hX;have hpk:MN 18006 (M,u):=⟨m4,λp up b X=>⟨(hbg p up b X).1,trivial⟩⟩;have e1:I0.vj (HS.J1 ⟨⟨n,F0,L0⟩,R0,C0,k,u,F,q,r,E,some (H,C),D⟩)=(ma er,HS.J1 ⟨⟨n,F0,L0⟩,R0,C0,(xa n n (M,u) q.length).1,(xa n n (M,u) q.length).2,F,q,r,S,some (H,C'),D⟩):=by
    have a1:I0.vj (HS.J1 ⟨⟨n,F0,L0⟩,R0,C0,k,u,F,q,r,E,some (H,C),D⟩)=(ma (((HS.J1 ⟨⟨n,F0,L0⟩,R0,C0,k,u,F,q,r,E,some (H,C),D⟩).cw C).run C0).1,m6 ((HS.J1 ⟨⟨n,F0,L0⟩,R0,C0,k,u,F,q,r,E,some (H,C),D⟩).A0.length:Int) (λ(h:I0)(p:Int)=>h.pass p false) ((HS.J1 ⟨⟨n,F0,L0⟩,R0,C0,k,u,F,q,r,E,some (H,C),D⟩).G7 (((HS.J1 ⟨⟨n,F0,L0⟩,R0,C0,k,u,F,q,r,E,some (H,C),D⟩).cw C).run C0).2)):=by unfold I0.vj;exact S1 hn
    rw[a1,HS.cwE (s:=⟨⟨n,F0,L0⟩,R0,C0,k,u,F,q,r,E,some (H,C),D⟩) hq];simp only[hW];rw[HS.ZF (s:=⟨⟨n,F0,L0⟩,R0,C0,k,u,F,q,r,E,some (H,C),D⟩) hq H];have r7:((HS.J1 ⟨⟨n,F0,L0⟩,R0,C0,k,u,F,q,r,E,some (H,C),D⟩).A0.length:Int)=(q.length:Nat):=by simp[HS.J1]
    rw[r7,qG (A0:=n) (n:=n) _ _ (λs p=>by rw[zM];unfold passS;simp)]
   rw[e1];have iH:=λ(w:World)(v3 v4 v5 v6 v9 uj:Value)(R:List HP)(h:Hp c w (bk b [I n,I F0,I L0,I R0,I C0,v3,v4,v5,v6,.slice K (q.map S2.pp).length J,la (some H),v9,uj] 90::so 61 Pg K J (q.map S2.pp)::R))=>xA (ch:=some H) (ps:=q.map S2.pp) (n:=n) h m4 bi (by rw[Ar]);rw[Ar]at iH;simp only at iH;refine ack λb1 w h=>?_;replace h:Hp _ _ (M1 r E::r6 pk r H C::_):=Hp.R6 (h.g [12] O);refine NX h 14 [4] O [0,1,2,4,5,6,7,53,8,59,10,111,12,13,114] λh=>U3 0 O O (N1 (iH _ _ _ _ _ _ _ _ (h.g [4,9] O)) λw h=>⟨h.q 14 [0] O,A4.rW kn O O O O O ⟨h.q 14 [0] O,A4.A6 kn O O O O O O O (Kv _ _ (h.g [3,2,6] O)) ?_⟩⟩);rintro _ w ⟨rfl,h⟩;refine J3 h 6 O O O λw h=>U0 h 3 O O ?_;replace h:Hp _ _ (Lf pk r S (some (H,C'))::_):=Hp.C3 (A:=[M1 r S,r6 pk r H C']) (h.g [1] O);replace h:=Hp.ae (f':=sh.mem (N+1)) (λ_ _ _ h=>Hp.GC (j' N) h) _ (h.g [11] O);replace h:=Hp.ae (f':=M4 pk (N+1)) (λ_ _ _ h=>Hp.Sj (j' N) h) _ (h.g [12] O);replace h:=h.g [7,4,3,8,9,10,5,11,12,1] O;refine p5.A6 kn [0,6,35,36] (λm vs w'=>∃(j:Nat),vs=[Pt b,I n,I (q.map S2.pp).length,I j]∧j+m=q.length∧Hp c w' (bk pr [I ev.W0,I t,I ev.Z3,I ev.N3,I 0,I ev.op.W0,I ev.op.tx,B8 ev.op.key.a,B8 ev.op.key.b,B8 ev.op.key.x,B8 ev.op.key.y,I ev.op.n,I er,.bool false,I 0] 42::bk b [I n,I F0,I L0,I R0,I C0,Pt pk,Pt pl,Pt pd,.slice ad (q.map (·.d)++[r]).length cd,.slice K (q.map S2.pp).length J,la (some H),.slice ar D.length cr,.slice B6 T.length cs] 90::K1 pk (xa n n (M,u) j).1::x5 pl (xa n n (M,u) j).2::z6 pd F::so 99 am ad cd (q.map (·.d)++[r])::so 61 Pg K J (q.map S2.pp)::so 42 I9 ar cr D::so 215 jl B6 cs T::rl (sh.mem (N+1)) T::rl (M4 pk (N+1)) q::Lf pk r S (some (H,C'))::bk b1 [I ev.W0,I ev.Z3,I ev.N3,I ev.tx,I ev.t8,I ev.Q6,I ev.O8,gb ev.J0,.bool ev.up,.bool ev.uc,I ev.op.W0,I ev.op.tx,B8 ev.op.key.a,B8 ev.op.key.b,B8 ev.op.key.x,B8 ev.op.key.y,I ev.op.n] 47::R)) q.length ⟨0,rfl,m4,h⟩ ?_
   rintro m _ w1 e0 ⟨j,rfl,hm,h⟩;have Kx:=hpk.xa m4 n n j;obtain⟨⟨L,Z⟩,hz⟩:∃z,xa n n (M,u) j=z:=⟨_,rfl⟩;rw[hz]at h Kx;simp only at h;have hbz:=Kx.S8;simp only at hbz;have cF:(q.map S2.pp).length=q.length:=H7 ..;have Y:=Ub n n (M,u) j;rw[hz]at Y;have hOt:=λ(w:World)(R:List HP)(h:Hp c w (K1 pk L::R))=>gZ (p:=(j:Int)) (up:=false) h;have CV:=Kx.Za false (j:Int);simp only at CV;have hPt:=λ(w:World)(a:Option Addr)(cap:Nat)(R:List HP)(h:Hp c w (x5 pl Z::R))(hs:Sx j8 w a (L.Za (j:Int) false).1.length cap (L.Za (j:Int) false).1)=>hZ (p:=(j:Int)) (up:=false) h hs m4 (λl hl=>(hbz _ _ l hl).1);refine BR.T5 (λg1=>?_) λg1=>?_
   ·have hs:passS n n (j:Int) (L,Z)=ik false (j:Int) (L,Z):=by unfold passS;rw[S1 O]
    rw[hs]at Y;unfold ik at Y;simp only at Y;refine U0 h 1 O O (BR.QT O (NX h 13 [1] O [0,1,2,4,5,6,7,9,3,58,60,111] λh=>U3 0 O O (U0 h 1 O O ⟨h.q 13 [1] O,ga (hOt _ _ (h.g [2] O)) λa2 E4 w h=>⟨h.q 14 [3] O,N1 (hPt _ _ _ _ (h.g [4] O) (h.Z4 0 O)) λw h=>i5 ⟨m-1,m4,j+1,by push_cast;rfl,m4,?_⟩⟩⟩)));rw[Y];exact h.q 14 [3,4,2,0,5,6,7,8,9,10,11,12,13] O
   ·have hj:j=q.length:=m4
    subst hj;rw[hz];exact .inl ⟨rfl,(Hp.F1 (s:=⟨⟨n,F0,L0⟩,R0,C0,L,Z,F,q,r,S,(some (H,C')),D⟩) (g:=⟨pk,pl,pd,ad,cd,K,J,ar,cr,B6,cs,T⟩) O hq L8 (h.q 13 [1,2,3,4,5,6,7,8,9,10,11,0] O)).g [1] O⟩
 ·obtain⟨i,hi⟩:∃i:Nat,n=(i:Int):=⟨n.toNat,m4⟩;obtain⟨y,hy⟩:∃y,i3 q i=some y:=⟨q[i]'m4,by rw[Z0,d8]⟩;have Ar:=Zh (A0:=A0) (ch:=G.map (·.1)) hy m4;rw[<-hi]at Ar;have a2:(HS.J1 ⟨⟨A0,F0,L0⟩,R0,C0,k,u,F,q,r,E,G,D⟩).G5 n=y.E0:=by rw[hi];exact HS.AM (s:=⟨⟨A0,F0,L0⟩,R0,C0,k,u,F,q,r,E,G,D⟩) hy
  obtain⟨d,x,o⟩:=y;cases o with
  |none=>
   have e1:I0.vj (HS.J1 ⟨⟨A0,F0,L0⟩,R0,C0,k,u,F,q,r,E,G,D⟩)=(ma 22,HS.J1 ⟨⟨A0,F0,L0⟩,R0,C0,k,u,F,q,r,E,G,D⟩):=by unfold I0.vj;have a3:(HS.J1 ⟨⟨A0,F0,L0⟩,R0,C0,k,u,F,q,r,E,G,D⟩).D0.K6 (HS.J1 ⟨⟨A0,F0,L0⟩,R0,C0,k,u,F,q,r,E,G,D⟩).C0=n:=hn;simp only[a3];rw[V0 (by exact g0),a2];rfl
   rw[e1];refine Calls.mono ?_ (λ_ _ h=>pA.up (j' N) h);exact R2 func127 O (I2 h O λb1 w h=>Y6 h [0,1,2,4,5,6,3,57,108,9] λh=>xg 2 O O (U0 h 2 O O ⟨h,N1 (MI _ _ h) λw h=>Y6 h [0,1,2,4,5,6,7,53,8,9,10,111,12,13,114] λh=>U3 2 O O (nl (XN (ch:=G.map (·.1)) (ps:=q.map S2.pp) (h.g [2,7] O) m4 bi (by rw[Ar];rfl)) λw h=>λ_=>Or.inr ⟨rfl,rfl,(Hp.F1 (s:=⟨⟨A0,F0,L0⟩,R0,C0,k,u,F,q,r,E,G,D⟩) (g:=⟨pk,pl,pd,ad,cd,K,J,ar,cr,B6,cs,T⟩) O hq L8 (h.q 13 [0,4,5,6,7,1,8,9,10,11,12,3] O)).g [1] O⟩)⟩))
  |some z=>
   obtain⟨pp,p⟩:=z;have UP:=(X.px (n:=i) (p:=p) (by rw[<-hi];show n<A0;omega) (by rw[<-hi,a2];rfl)).1;have UW:(HS.J1 ⟨⟨A0,F0,L0⟩,R0,C0,k,u,F,q,r,E,G,D⟩).U4 i=x:=HS.Yu (s:=⟨⟨A0,F0,L0⟩,R0,C0,k,u,F,q,r,E,G,D⟩) hy;rw[UW]at UP;replace UP:PX (17000+16*N) 0 ⟨p,k,x⟩:=UP;have hX:=(UP.dG m4 C0).1.kb;have Bt:=(UP.dG m4 C0).2.1;obtain⟨⟨er,⟨p',M,S⟩⟩,hW⟩:∃V,PW.run ⟨p,k,x⟩ C0=V:=⟨_,rfl⟩;have Kv:=λ(w:World)(R:List HP)(h:Hp c w (B7 pk d N pp p::M1 d x::K1 pk k::R))=>aio (C0:=C0) h UP m4 m4 m4 Bt;rw[hW]at Kv hX;simp only at Kv hX;have hpk:MN 81 (M,u):=⟨m4,λp up b X=>⟨(hbg p up b X).1,trivial⟩⟩;have e1:I0.vj (HS.J1 ⟨⟨A0,F0,L0⟩,R0,C0,k,u,F,q,r,E,G,D⟩)=(ma er,HS.J1 ⟨⟨A0,F0,L0⟩,R0,C0,(xa A0 n (M,u) q.length).1,(xa A0 n (M,u) q.length).2,F,(q.set i ⟨d,S,some (pp,p')⟩),r,E,G,D⟩):=by
    have a3:(HS.J1 ⟨⟨A0,F0,L0⟩,R0,C0,k,u,F,q,r,E,G,D⟩).D0.K6 (HS.J1 ⟨⟨A0,F0,L0⟩,R0,C0,k,u,F,q,r,E,G,D⟩).C0=n:=hn;have a1:I0.vj (HS.J1 ⟨⟨A0,F0,L0⟩,R0,C0,k,u,F,q,r,E,G,D⟩)=(ma (((HS.J1 ⟨⟨A0,F0,L0⟩,R0,C0,k,u,F,q,r,E,G,D⟩).pw n p).run C0).1,m6 ((HS.J1 ⟨⟨A0,F0,L0⟩,R0,C0,k,u,F,q,r,E,G,D⟩).A0.length:Int) (λ(h:I0)(p:Int)=>if n=p then h.pass p true else h) ((HS.J1 ⟨⟨A0,F0,L0⟩,R0,C0,k,u,F,q,r,E,G,D⟩).qg n (((HS.J1 ⟨⟨A0,F0,L0⟩,R0,C0,k,u,F,q,r,E,G,D⟩).pw n p).run C0).2)):=by unfold I0.vj;simp only[a3];rw[V0 (by exact g0),a2];rfl
    rw[a1,hi,HS.pwE (s:=⟨⟨A0,F0,L0⟩,R0,C0,k,u,F,q,r,E,G,D⟩) hy];simp only[hW];rw[HS.sZ (s:=⟨⟨A0,F0,L0⟩,R0,C0,k,u,F,q,r,E,G,D⟩) hy pp];have r7:((HS.J1 ⟨⟨A0,F0,L0⟩,R0,C0,k,u,F,q,r,E,G,D⟩).A0.length:Int)=(q.length:Nat):=by simp[HS.J1]
    rw[r7,qG (A0:=A0) (n:=(i:Int)) _ _ (λs p=>by
     have e0:¬(i:Int)=A0:=by rw[<-hi];exact g0
     unfold passS;simp only[if_neg e0];by_cases e:(i:Int)=p
     ·simp_all[zM]
     simp[*])]
   rw[e1];have iH:=λ(w:World)(v3 v4 v5 v6 v9 uj:Value)(R:List HP)(h:Hp c w (bk b [I A0,I F0,I L0,I R0,I C0,v3,v4,v5,v6,.slice K (q.map S2.pp).length J,la (G.map (·.1)),v9,uj] 90::so 61 Pg K J (q.map S2.pp)::R))=>xA (ch:=G.map (·.1)) (ps:=q.map S2.pp) (n:=n) h m4 bi (by rw[Ar];rfl);rw[Ar]at iH;replace iH:=λ(w:World)(v3 v4 v5 v6 v9 uj:Value)(R:List HP)(h:Hp c w (bk b [I A0,I F0,I L0,I R0,I C0,v3,v4,v5,v6,.slice K (q.map S2.pp).length J,la (G.map (·.1)),v9,uj] 90::so 61 Pg K J (q.map S2.pp)::R))=>(iH w v3 v4 v5 v6 v9 uj R h:Calls _ _ _ _ (Zb c (.iface 61 (Pt pp)) _));refine ack λb1 w h=>?_;replace h:Hp _ _ (M4 pk N ⟨d,x,some (pp,p)⟩::_):=Hp.rf (h.g [11] O) hy;replace h:Hp _ _ (M1 d x::B7 pk d N pp p::_):=Hp.R6 h;refine NX h 15 [5] O [0,1,2,4,5,6,7,53,8,59,10,111,12,13,114] λh=>U3 0 O O (N1 (iH _ _ _ _ _ _ _ _ (h.g [5,10] O)) λw h=>⟨h.q 15 [0] O,A4.rW kn O O O O O ⟨h.q 15 [0] O,A4.A6 kn O O O O O O O (Kv _ _ (h.g [3,2,7] O)) ?_⟩⟩);rintro _ w ⟨rfl,h⟩;refine J3 h 7 O O O λw h=>U0 h 3 O O ?_;replace h:=Hp.ae (f':=M4 pk (N+1)) (λ_ _ _ h=>Hp.Sj (j' N) h) _ (h.g [5] O);replace h:Hp _ _ (M4 pk (N+1) ⟨d,S,some (pp,p')⟩::_):=Hp.C3 (A:=[M1 d S,B7 pk d (N+1) pp p']) (h.g [2,1] O);replace h:=Hp.Wj h hy;replace h:=Hp.ae (f':=sh.mem (N+1)) (λ_ _ _ h=>Hp.GC (j' N) h) _ (h.g [11] O);replace h:=h.g [6,3,2,7,8,9,4,10,11,0,1,12] O;refine p5.A6 kn [0,6,35,36] (λm vs w'=>∃(j:Nat),vs=[Pt b,I n,I (q.map S2.pp).length,I j]∧j+m=q.length∧Hp c w' (bk pr [I ev.W0,I t,I ev.Z3,I ev.N3,I 0,I ev.op.W0,I ev.op.tx,B8 ev.op.key.a,B8 ev.op.key.b,B8 ev.op.key.x,B8 ev.op.key.y,I ev.op.n,I er,.bool false,I 0] 42::bk b [I A0,I F0,I L0,I R0,I C0,Pt pk,Pt pl,Pt pd,.slice ad (q.map (·.d)++[r]).length cd,.slice K (q.map S2.pp).length J,la (G.map (·.1)),.slice ar D.length cr,.slice B6 T.length cs] 90::K1 pk (xa A0 n (M,u) j).1::x5 pl (xa A0 n (M,u) j).2::z6 pd F::so 99 am ad cd (q.map (·.d)++[r])::so 61 Pg K J (q.map S2.pp)::so 42 I9 ar cr D::so 215 jl B6 cs T::rl (sh.mem (N+1)) T::rl (M4 pk (N+1)) (q.set i ⟨d,S,some (pp,p')⟩)::Lf pk r E G::bk b1 [I ev.W0,I ev.Z3,I ev.N3,I ev.tx,I ev.t8,I ev.Q6,I ev.O8,gb ev.J0,.bool ev.up,.bool ev.uc,I ev.op.W0,I ev.op.tx,B8 ev.op.key.a,B8 ev.op.key.b,B8 ev.op.key.x,B8 ev.op.key.y,I ev.op.n] 47::R)) q.length ⟨0,rfl,m4,h⟩ ?_
   rintro m _ w1 e0 ⟨j,rfl,hm,h⟩;have Kx:=hpk.xa m4 A0 n j;obtain⟨⟨L,Z⟩,hz⟩:∃z,xa A0 n (M,u) j=z:=⟨_,rfl⟩;rw[hz]at h Kx;simp only at h;have hbz:=Kx.S8;simp only at hbz;have cF:(q.map S2.pp).length=q.length:=H7 ..;have Y:=Ub A0 n (M,u) j;rw[hz]at Y;have hOt:=λ(w:World)(R:List HP)(h:Hp c w (K1 pk L::R))=>gZ (p:=(j:Int)) (up:=true) h;have CV:=Kx.Za true (j:Int);simp only at CV;have hPt:=λ(w:World)(a:Option Addr)(cap:Nat)(R:List HP)(h:Hp c w (x5 pl Z::R))(hs:Sx j8 w a (L.Za (j:Int) true).1.length cap (L.Za (j:Int) true).1)=>hZ (p:=(j:Int)) (up:=true) h hs m4 (λl hl=>(hbz _ _ l hl).1);refine BR.T5 (λg1=>?_) λg1=>?_
   ·refine U0 h 1 O O (BR.eqN g0 ?_);by_cases g2:n=(j:Int)
    ·have hs:passS A0 n (j:Int) (L,Z)=ik true (j:Int) (L,Z):=by unfold passS;rw[V0 g0,S1 g2]
     rw[hs]at Y;unfold ik at Y;simp only at Y;refine BR.QT g2 (NX h 13 [1] O [0,1,2,4,5,6,7,9,3,58,60,111] λh=>U3 0 O O (U0 h 1 O O ⟨h.q 13 [1] O,ga (hOt _ _ (h.g [2] O)) λa2 E4 w h=>⟨h.q 14 [3] O,N1 (hPt _ _ _ _ (h.g [4] O) (h.Z4 0 O)) λw h=>i5 ⟨m-1,m4,j+1,by push_cast;rfl,m4,?_⟩⟩⟩));rw[Y];exact h.q 14 [3,4,2,0,5,6,7,8,9,10,11,12,13] O
    ·have hs:passS A0 n (j:Int) (L,Z)=(L,Z):=by unfold passS;rw[V0 g0,V0 g2]
     rw[hs]at Y;refine BR.eqN g2 (i5 ⟨m-1,m4,j+1,by push_cast;rfl,m4,?_⟩);simp_all
   ·have hj:j=q.length:=m4
    subst hj;rw[hz];rw[<-Iw hy ⟨d,S,some (pp,p')⟩ O,<-Hw hy ⟨d,S,some (pp,p')⟩ O]at h;exact .inl ⟨rfl,(Hp.F1 (s:=⟨⟨A0,F0,L0⟩,R0,C0,L,Z,F,(q.set i ⟨d,S,some (pp,p')⟩),r,E,G,D⟩) (g:=⟨pk,pl,pd,ad,cd,K,J,ar,cr,B6,cs,T⟩) O Zb6 Zb6 (h.q 13 [1,2,3,4,5,6,7,8,9,10,11,0] O)).g [1] O⟩
end
theorem HS.aiv{s:HS}(a:(s.q.length:Int)=s.D0.A0):s.J1.L6 s.D0.A0=(match D8.new s.D0.A0 s.xc with
  |none=>(21,s.J1)
  |some C=>(0,{s.J1 with O1:=some C})):=by
 unfold I0.L6;have e:s.J1.D0.A0=s.D0.A0:=rfl;rw[e,S1 O,HS.Ey a];rfl
theorem HS.aiu{s:HS}{i:Nat}{y:S2}(a:i3 s.q i=some y)(b:¬(i:Int)=s.D0.A0):s.J1.L6 (i:Int)=(match d4.new (i:Int) s.R0 y.x with
  |none=>(Bj (i:Int) s.R0 y.x,s.J1)
  |some p=>(0,{s.J1 with A0:=s.J1.A0.set i (some p)})):=by
 unfold I0.L6;have e:s.J1.D0.A0=s.D0.A0:=rfl;rw[e,V0 b,HS.Yu a];rfl
theorem Ll:∀(l:List xf)(p:d4),l.foldl Da (some p)=none->¬Wc p l=0
 |[],_,h=>by cases h
 |x::l,p,h=>by
  cases c:x.T1 with
  |true=>obtain⟨b,a⟩:=UC (p:=p) (x:=x) (l:=l) c;rw[b]at h;rw[a];exact Ll l p h
  |false=>
   by_cases g:(p.U1.i7 x.n x.K2).1=0
   ·obtain⟨b,a⟩:=VC (p:=p) (x:=x) (l:=l) c g;rw[b]at h;rw[a];exact Ll l _ h
   simp_all[WC]
theorem NO{x:U2}{a:N7}{S0:List A5}(b:s6 x a S0){me R0:Int}(h:d4.new me R0 x=none):¬Bj me R0 x=0:=by
 have c:=b.Y9;have d:d4.new me R0 x=(match E1.new R0 (P6 S0).N0 with
  |none=>none
  |some s=>(P6 S0).L5.foldl Da (some ⟨me,a,s,[]⟩)):=by unfold d4.new;rw[c];rfl
 grind[Bj,Nf,Ll]
section
theorem afo(h:Hp c w (G3 b N h0::R))(hn:0<=n∧n<=h0.D0.A0)(hp:1<=h0.D0.A0∧h0.D0.A0<=6)(hk:h0.O0.D0=h0.D0)(H:∃l S0,s6 (h0.U4 n) l S0)(F:h0.up n=false):Cr 81 #[Pt b,I n] w c (I (h0.L6 n).1) (G3 b N (h0.L6 n).2::R):=by
 obtain⟨⟨⟨A0,u,t⟩,R0,C0,k,v,E,q,a,j,r,m⟩,⟨pk,pl,J,T,cd,S,M,Q,L,V,cs,sl⟩,rfl,K,L8,h⟩:=h.C4;simp only at K L8 h;obtain⟨l,S0,H⟩:=H;replace h:Hp c w (bk b [I A0,I u,I t,I R0,I C0,Pt pk,Pt pl,Pt J,.slice T (q.map (·.d)++[a]).length cd,.slice S (q.map S2.pp).length M,la (r.map (·.1)),.slice Q m.length L,.slice V sl.length cs] 90::K1 pk k::x5 pl v::z6 J E::so 99 am T cd (q.map (·.d)++[a])::so 61 Pg S M (q.map S2.pp)::so 42 I9 Q L m::so 215 jl V cs sl::rl (sh.mem N) sl::rl (M4 pk N) q::Lf pk a j r::R):=h;replace hn:0<=n∧n<=A0:=hn;replace hp:1<=A0∧A0<=6:=hp;have Tx:k.D0.A0=A0:=V4 (·.A0) hk;rw[HS.upE (s:=⟨⟨A0,u,t⟩,R0,C0,k,v,E,q,a,j,r,m⟩) K]at F;by_cases g0:n=A0
 ·subst g0;replace F:(Bc n (r.map (·.1)) (q.map S2.pp) n).2=false:=F;unfold Bc at F;rw[S1 O]at F;obtain _|z:=r
  case some=>cases F
  clear F;have hd:(HS.J1 ⟨⟨n,u,t⟩,R0,C0,k,v,E,q,a,j,none,m⟩).U4 n=j:=HS.Ey (s:=⟨⟨n,u,t⟩,R0,C0,k,v,E,q,a,j,none,m⟩) K;rw[hd]at H;have hdd:i3 (q.map (·.d)++[a]) n.toNat=some a:=by
   have e:n.toNat=q.length:=m4
   rw[e,Z0,Im Zb3];simp
  have X:=HS.aiv (s:=⟨⟨n,u,t⟩,R0,C0,k,v,E,q,a,j,none,m⟩) K;simp only at X;rw[X];clear X;have G:=λ(w:World)(R:List HP)(h:Hp c w (K1 pk k::M1 a j::R))=>ahX h H m4;rw[Tx]at G;obtain⟨o,ho⟩:∃o,D8.new n j=o:=⟨_,rfl⟩;rw[ho]at G⊢;cases o with
  |none=>refine R2 func81 O (U0 h 0 O O (BR.QT O (Y6 h [0,1,2,4,5,6,8,3,57,9,60,111,12,13,14,15,16] λh=>U3 0 O O (U0 h 0 O O ⟨h,Jc.sl h 4 O Zb5 λb3 Z Y=>LD.qf h 4 O Zb9 Zb9 O ⟨h,xb (G _ _ (h.g [1,10] O)) ?_⟩⟩))));rintro _ w h;exact h.elim
  |some C=>refine R2 func81 O (U0 h 0 O O (BR.QT O (Y6 h [0,1,2,4,5,6,8,3,57,9,60,111,12,13,14,15,16] λh=>U3 0 O O (U0 h 0 O O ⟨h,Jc.sl h 4 O Zb5 λb3 Z Y=>LD.qf h 4 O Zb9 Zb9 O ⟨h,He (G _ _ (h.g [1,10] O)) λbc w h=>Q5 ?_⟩⟩))));refine ST.lit h 3 O O O O (l':=[I n,I u,I t,I R0,I C0,Pt pk,Pt pl,Pt J,.slice T (q.map (·.d)++[a]).length cd,.slice S (q.map S2.pp).length M,la (some bc),.slice Q m.length L,.slice V sl.length cs]) O O λw h=>?_;replace h:Hp _ _ (Lf pk a j (some (bc,C))::_):=Hp.C3 (A:=[M1 a j,r6 pk a bc C]) (h.g [2] O);exact⟨rfl,Hp.F1 (s:=⟨⟨n,u,t⟩,R0,C0,k,v,E,q,a,j,(some (bc,C)),m⟩) (g:=⟨pk,pl,J,T,cd,S,M,Q,L,V,cs,sl⟩) O K L8 (h.g [2,1,3,4,5,6,7,8,9,10] O)⟩
 ·obtain⟨i,hi⟩:∃i:Nat,n=(i:Int):=⟨n.toNat,m4⟩;subst hi;obtain⟨y,D⟩:∃y,i3 q i=some y:=⟨q[i]'m4,by rw[Z0,d8]⟩;have Ar:=Zh (A0:=A0) (ch:=r.map (·.1)) D g0;replace F:(Bc A0 (r.map (·.1)) (q.map S2.pp) i).2=false:=F;rw[Ar]at F;have X:=HS.aiu (s:=⟨⟨A0,u,t⟩,R0,C0,k,v,E,q,a,j,r,m⟩) D g0;rw[X];obtain⟨d,x,o⟩:=y;have BV:o=none:=by
   cases o with
   |none=>rfl
   |some z=>cases F
  subst BV;have UW:(HS.J1 ⟨⟨A0,u,t⟩,R0,C0,k,v,E,q,a,j,r,m⟩).U4 i=x:=HS.Yu (s:=⟨⟨A0,u,t⟩,R0,C0,k,v,E,q,a,j,r,m⟩) D;rw[UW]at H;have G:=λ(w:World)(R:List HP)(h:Hp c w (K1 pk k::M1 d x::R))=>ahW (me:=(i:Int)) (R0:=R0) h H m4;have mK:i<q.length:=m4
  have hdd:i3 (q.map (·.d)++[a]) (i:Int).toNat=some d:=by rw[Z0]at D⊢;rw[kg,Hm Zb1,We,D];rfl
  have Gi:i3 (q.map S2.pp) (i:Int).toNat=some none:=by rw[Z0]at D⊢;rw[kg,We,D];rfl
  replace h:=Hp.rf (h.g [9] O) D;replace h:Hp c w (M1 d x::_):=h;simp only;obtain⟨o,ho⟩:∃o,d4.new (i:Int) R0 x=o:=⟨_,rfl⟩;rw[ho]at G⊢;cases o with
  |none=>have Aa:=NO H ho;obtain⟨er,her⟩:∃er,Bj (i:Int) R0 x=er:=⟨_,rfl⟩;simp only[her]at G Aa⊢;refine R2 func81 O (U0 h 2 O O (Wa (Y6 h [0,1,2,4,5,6,7,9,10,11,13,3,8,62,14,65,116,17,18,19,20,21] λh=>U3 2 O O (U3 2 O O (U0 h 2 O O ⟨h,Jc.sl h 6 O Zb5 λb3 Z Y=>LD.qf h 6 O Zb9 Zb9 O ⟨h,N1 (G _ _ (h.g [3] O)) λw h=>?_⟩⟩)))));refine Wa ?_;replace h:Hp _ _ (rl (M4 pk N) q::_):=Hp.ij (f:=M4 pk N) (x:=⟨d,x,none⟩) (h.g [1,2] O) D;exact⟨rfl,Hp.F1 (s:=⟨⟨A0,u,t⟩,R0,C0,k,v,E,q,a,j,r,m⟩) (g:=⟨pk,pl,J,T,cd,S,M,Q,L,V,cs,sl⟩) O K L8 (h.g [2,1,3,4,5,6,7,8,9] O)⟩
  |some p=>
   refine R2 func81 O (U0 h 2 O O (Wa (Y6 h [0,1,2,4,5,6,7,9,10,11,13,3,8,62,14,65,116,17,18,19,20,21] λh=>U3 2 O O (U3 2 O O (U0 h 2 O O ⟨h,Jc.sl h 6 O Zb5 λb3 Z Y=>LD.qf h 6 O Zb9 Zb9 O ⟨h,He (G _ _ (h.g [3] O)) λpp w h=>?_⟩⟩)))));refine Q5 (U0 h 4 O O (Jc.sl h 8 O Zb5 λb3 Z Y=>ST.qf (y:=some pp) h 8 O Y Gi O O O O O λw h=>?_));replace h:=Hp.yI (ye N) h;replace h:Hp _ _ (M4 pk N ⟨d,x,some (pp,p)⟩::_):=Hp.C3 (A:=[M1 d x,B7 pk d N pp p]) (h.g [2,0,3] O);replace h:=Hp.Wj h D;have e5:(q.map S2.pp).set (i:Int).toNat (some pp)=(q.set i ⟨d,x,some (pp,p)⟩).map S2.pp:=by rw[uL];rfl
   have e6:(q.map S2.pp).length=((q.set i ⟨d,x,some (pp,p)⟩).map S2.pp).length:=Zb3
   rw[<-Iw D ⟨d,x,some (pp,p)⟩ O,e5,e6]at h;have e7:=HS.HJ (s:=⟨⟨A0,u,t⟩,R0,C0,k,v,E,q,a,j,r,m⟩) D pp p;refine⟨rfl,?_⟩;simp only;rw[e7];exact Hp.F1 (s:=⟨⟨A0,u,t⟩,R0,C0,k,v,E,(q.set i ⟨d,x,some (pp,p)⟩),a,j,r,m⟩) (g:=⟨pk,pl,J,T,cd,S,M,Q,L,V,cs,sl⟩) O Zb6 Zb6 (h.g [2,1,3,4,5,6,7,8,9] O)
end
theorem HS.akg{s:HS}(a:(s.q.length:Int)=s.D0.A0)(ev:Ev):s.J1.Gd s.D0.A0 ev=HS.J1 {s with O0:=s.O0.clear s.D0.A0,xc:=s.xc.N6 ev.Q6 ev.O8,oc:=none}:=by
 unfold I0.Gd;have e:s.J1.D0.A0=s.D0.A0:=rfl;rw[HS.Ey a];simp only;rw[e,S1 O];unfold HS.J1;simp only;have e:(s.q.map (·.x)++[s.xc]).set s.D0.A0.toNat (s.xc.N6 ev.Q6 ev.O8)=s.q.map (·.x)++[s.xc.N6 ev.Q6 ev.O8]:=by rw[<-a,kg,Cz _ _ Zb3];simp
 rw[e];rfl
theorem HS.akf{s:HS}{i:Nat}{y:S2}(a:i3 s.q i=some y)(b:¬(i:Int)=s.D0.A0)(ev:Ev):s.J1.Gd (i:Int) ev=HS.J1 {s with O0:=s.O0.clear (i:Int),q:=s.q.set i ⟨y.d,y.x.N6 ev.Q6 ev.O8,none⟩}:=by unfold I0.Gd;have e:s.J1.D0.A0=s.D0.A0:=rfl;rw[HS.Yu a];simp only;rw[e,V0 b];rw[Z0]at a;obtain⟨f,c⟩:=Cp.1 a;unfold HS.J1;simp only[List.map_set,Int.toNat_natCast];rw[List.set_append_left _ _ Zb1];rfl
section
variable{ev:Ev}
theorem eZ(h:Hp c w (G3 b N h0::R))(Z:0<=n∧n<=h0.D0.A0)(V:(h0.U4 n).Ok)(r:h0.up n=true):Cr 180 #[Pt b,I n,ev.v] w c (.tuple #[]) (G3 b N (h0.Gd n ev)::R):=by
 obtain⟨⟨⟨A0,m,l⟩,R0,C0,k,t,u,q,a,f,A,j⟩,⟨pk,pl,G,S,cd,Q,L,M,K,T,cs,sl⟩,rfl,J,L8,h⟩:=h.C4;simp only at J L8 h;replace h:Hp c w (bk b [I A0,I m,I l,I R0,I C0,Pt pk,Pt pl,Pt G,.slice S (q.map (·.d)++[a]).length cd,.slice Q (q.map S2.pp).length L,la (A.map (·.1)),.slice M j.length K,.slice T sl.length cs] 90::K1 pk k::x5 pl t::z6 G u::so 99 am S cd (q.map (·.d)++[a])::so 61 Pg Q L (q.map S2.pp)::so 42 I9 M K j::so 215 jl T cs sl::rl (sh.mem N) sl::rl (M4 pk N) q::Lf pk a f A::R):=h;replace Z:0<=n∧n<=A0:=Z;rw[HS.upE (s:=⟨⟨A0,m,l⟩,R0,C0,k,t,u,q,a,f,A,j⟩) J]at r;by_cases X:n=A0
 ·subst X;replace r:(Bc n (A.map (·.1)) (q.map S2.pp) n).2=true:=r;unfold Bc at r;rw[S1 O]at r;obtain _|z:=A
  case none=>cases r
  clear r;obtain⟨H,C⟩:=z;have hd:(HS.J1 ⟨⟨n,m,l⟩,R0,C0,k,t,u,q,a,f,some (H,C),j⟩).U4 n=f:=HS.Ey (s:=⟨⟨n,m,l⟩,R0,C0,k,t,u,q,a,f,some (H,C),j⟩) J;rw[hd]at V;have hdd:i3 (q.map (·.d)++[a]) n.toNat=some a:=by
   have e:n.toNat=q.length:=m4
   rw[e,Z0,Im Zb3];simp
  have F:=HS.akg (s:=⟨⟨n,m,l⟩,R0,C0,k,t,u,q,a,f,some (H,C),j⟩) J ev;replace F:(HS.J1 ⟨⟨n,m,l⟩,R0,C0,k,t,u,q,a,f,some (H,C),j⟩).Gd n ev=HS.J1 ⟨⟨n,m,l⟩,R0,C0,(k.clear n),t,u,q,a,(f.N6 ev.Q6 ev.O8),none,j⟩:=F;rw[F];have Y:=λ(w:World)(R:List HP)(h:Hp c w (M1 a f::R))=>VY (Q6:=ev.Q6) (O8:=ev.O8) h V;replace h:Hp _ _ (M1 a f::r6 pk a H C::_):=Hp.R6 (h.g [10] O);refine R2 func180 O (I2 h O λb1 w h=>Y6 h [0,1,2,4,7,9,3,5,6,8,60,111] λh=>U3 3 O O (Jc.sl h 7 O Zb5 λb2 o1 U9=>LD.Km (E:=am) (λ_ h=>h) 7 O Zb9 Zb9 O (U3 0 O O (U0 h 0 O O ⟨h,N1 (Y _ _ (h.g [1] O)) λw h=>U0 h 3 O O (N1 (UY (h.g [4] O)) λw h=>?_)⟩))));exact U0 h 4 O O (mf (ST.lit h 4 O O O O (l':=[I n,I m,I l,I R0,I C0,Pt pk,Pt pl,Pt G,.slice S (q.map (·.d)++[a]).length cd,.slice Q (q.map S2.pp).length L,la none,.slice M j.length K,.slice T sl.length cs]) O O λw h=>⟨rfl,Hp.F1 (s:=⟨⟨n,m,l⟩,R0,C0,(k.clear n),t,u,q,a,(f.N6 ev.Q6 ev.O8),none,j⟩) (g:=⟨pk,pl,G,S,cd,Q,L,M,K,T,cs,sl⟩) O J L8 (h.q 13 [4,0,5,6,7,8,9,10,11,12,1] O)⟩))
 ·obtain⟨i,hi⟩:∃i:Nat,n=(i:Int):=⟨n.toNat,m4⟩;subst hi;obtain⟨y,D⟩:∃y,i3 q i=some y:=⟨q[i]'m4,by rw[Z0,d8]⟩;have Ar:=Zh (A0:=A0) (ch:=A.map (·.1)) D X;replace r:(Bc A0 (A.map (·.1)) (q.map S2.pp) i).2=true:=r;rw[Ar]at r;have F:=HS.akf (s:=⟨⟨A0,m,l⟩,R0,C0,k,t,u,q,a,f,A,j⟩) D X ev;rw[F];clear F;obtain⟨d,x,o⟩:=y;obtain _|z:=o
  case none=>cases r
  clear r;obtain⟨pp,p⟩:=z;have UW:(HS.J1 ⟨⟨A0,m,l⟩,R0,C0,k,t,u,q,a,f,A,j⟩).U4 i=x:=HS.Yu (s:=⟨⟨A0,m,l⟩,R0,C0,k,t,u,q,a,f,A,j⟩) D;rw[UW]at V;have mK:i<q.length:=m4
  have hdd:i3 (q.map (·.d)++[a]) (i:Int).toNat=some d:=by rw[Z0]at D⊢;rw[kg,Hm Zb1,We,D];rfl
  have Gi:i3 (q.map S2.pp) (i:Int).toNat=some (some pp):=by rw[Z0]at D⊢;rw[kg,We,D];rfl
  have Y:=λ(w:World)(R:List HP)(h:Hp c w (M1 d x::R))=>VY (Q6:=ev.Q6) (O8:=ev.O8) h V;replace h:=Hp.rf (h.g [9] O) D;replace h:Hp c w (M1 d x::B7 pk d N pp p::_):=Hp.R6 h;refine R2 func180 O (I2 h O λb1 w h=>Y6 h [0,1,2,4,7,9,3,5,6,8,60,111] λh=>U3 4 O O (Jc.sl h 8 O Zb5 λb3 o1 U9=>LD.Km (E:=am) (λ_ h=>h) 8 O Zb9 Zb9 O (U3 0 O O (U0 h 0 O O ⟨h,N1 (Y _ _ (h.g [1] O)) λw h=>U0 h 4 O O (N1 (UY (h.g [5] O)) λw h=>?_)⟩))));refine U0 h 5 O O (Wa (U0 h 5 O O (Jc.sl h 9 O Zb5 λb2 o2 Lj=>ST.qf (y:=none) h 9 O Lj Gi O O O O O λw h=>?_)));replace h:Hp _ _ (M4 pk N ⟨d,x.N6 ev.Q6 ev.O8,none⟩::_):=h.q 14 [1,4,0,5,6,7,8,9,10,11,12,13] O;replace h:=Hp.Wj h D;have e5:(q.map S2.pp).set (i:Int).toNat none=(q.set i ⟨d,x.N6 ev.Q6 ev.O8,none⟩).map S2.pp:=by rw[uL];rfl
  have e6:(q.map S2.pp).length=((q.set i ⟨d,x.N6 ev.Q6 ev.O8,none⟩).map S2.pp).length:=Zb3
  rw[<-Iw D ⟨d,x.N6 ev.Q6 ev.O8,none⟩ O,e5,e6]at h;exact⟨rfl,Hp.F1 (s:=⟨⟨A0,m,l⟩,R0,C0,(k.clear i),t,u,(q.set i ⟨d,x.N6 ev.Q6 ev.O8,none⟩),a,f,A,j⟩) (g:=⟨pk,pl,G,S,cd,Q,L,M,K,T,cs,sl⟩) O Zb6 Zb6 (h.g [2,1,3,4,5,6,7,8,9] O)⟩
end
theorem abn{P:Prop}(h:P:=by rintro _ w' ⟨rfl,h⟩;exact⟨_,rfl,Hp.F1 (s:=⟨⟨A0,F0,L0⟩,R0,C0,k,li,de,q,dc,xc,oc,rs⟩) (g:=⟨pk,pl,pd,ad,cd,ap,cp,ar,cr,B6,cs,sl⟩) O hq L8 (h.g [0,2,3,4,5] O)⟩):P:=h
theorem abm{P:Prop}(h:P:=by rintro _ w' ⟨rfl,h⟩;exact⟨rfl,Hp.F1 (s:=⟨⟨A0,F0,L0⟩,R0,C0,k,li,de,q,dc,xc,oc,rs⟩) (g:=⟨pk,pl,pd,ad,cd,ap,cp,ar,cr,B6,cs,sl⟩) O hq L8 (h.g [0,2,3,4,5] O)⟩):P:=h
theorem abl{P:Prop}(h:P:=by rintro _ w' ⟨rfl,h⟩;exact⟨rfl,Hp.F1 (s:=⟨⟨A0,F0,L0⟩,R0,C0,k,li,de,q,dc,xc,oc,rs⟩) (g:=⟨pk,pl,pd,ad,cd,ap,cp,ar,cr,B6,cs,sl⟩) O hq L8 h⟩):P:=h
theorem abk{P:Prop}(h:P:=by exact R2 func133 O (I2 h O λb1 w h=>U0 h 0 O O (mf (U0 h 0 O O (nl (hU _ _ (h.g [2] O)) λw h=>λ_=>Or.inr ⟨rfl,rfl,h.q 3 [2,0] O⟩))))):P:=h
theorem Inv.M6{P:zf}(d:Inv P h)(f:0<=n∧n<=h.D0.A0):∃l S0,s6 (h.U4 n) l S0:=by
 have hp:=d.D0;by_cases g:n=h.D0.A0
 ·have a:=d.O1;rw[<-hp,<-g]at a;cases b:h.O1 with
  |none=>rw[b]at a;obtain⟨S0,l,c,_⟩:=a<;>grind
  |some C=>rw[b]at a;obtain⟨⟨S0,c,_⟩,_⟩:=a<;>grind
 ·obtain⟨i,e⟩:∃i:Nat,n=(i:Int):=⟨n.toNat,m4⟩;subst e;have a:=d.E0 i m4;cases b:h.G5 (i:Int)with
  |none=>rw[b]at a;obtain⟨S0,l,c,_⟩:=a<;>grind
  |some p=>rw[b]at a;obtain⟨S0,c,_⟩:=(a.1 h.O0).ok;exact⟨_,S0,c.X9⟩
section
theorem ED(h:Hp c w (G3 b N h0::R))(a:0<=n∧n<=h0.D0.A0):Cs 37 #[Pt b,I n] w (λx w'=>∃v,x= .returned (.tuple #[v,.bool (h0.up n)])∧Hp c w' (G3 b N h0::R)):=by
 obtain⟨⟨⟨A0,F0,L0⟩,R0,C0,k,li,de,q,dc,xc,oc,rs⟩,⟨pk,pl,pd,ad,cd,ap,cp,ar,cr,B6,cs,sl⟩,rfl,hq,L8,h⟩:=h.C4;simp only at hq L8 h;replace h:Hp c w (bk b [I A0,I F0,I L0,I R0,I C0,Pt pk,Pt pl,Pt pd,.slice ad (q.map (·.d)++[dc]).length cd,.slice ap (q.map S2.pp).length cp,la (oc.map (·.1)),.slice ar rs.length cr,.slice B6 sl.length cs] 90::K1 pk k::x5 pl li::z6 pd de::so 99 am ad cd (q.map (·.d)++[dc])::so 61 Pg ap cp (q.map S2.pp)::so 42 I9 ar cr rs::so 215 jl B6 cs sl::rl (sh.mem N) sl::rl (M4 pk N) q::Lf pk dc xc oc::R):=h;have e:((q.map S2.pp).length:Int)=A0:=by rw[H7];exact hq
 replace a:0<=n∧n<=A0:=a;rw[HS.upE (s:=⟨⟨A0,F0,L0⟩,R0,C0,k,li,de,q,dc,xc,oc,rs⟩) hq];refine(acX (n:=n) (ps:=q.map S2.pp) (ch:=oc.map (·.1)) (h.g [0,5] O) m4).mono ?_;exact abn
theorem aeV(h:Hp c w (G3 b N h0::R))(a:0<=n∧n<=h0.D0.A0):Cr 181 #[Pt b,I n] w c (I n) (G3 b N h0::R):=by obtain⟨⟨⟨A0,F0,L0⟩,R0,C0,k,li,de,q,dc,xc,oc,rs⟩,⟨pk,pl,pd,ad,cd,ap,cp,ar,cr,B6,cs,sl⟩,rfl,hq,L8,h⟩:=h.C4;simp only at hq L8 h;replace h:Hp c w (bk b [I A0,I F0,I L0,I R0,I C0,Pt pk,Pt pl,Pt pd,.slice ad (q.map (·.d)++[dc]).length cd,.slice ap (q.map S2.pp).length cp,la (oc.map (·.1)),.slice ar rs.length cr,.slice B6 sl.length cs] 90::K1 pk k::x5 pl li::z6 pd de::so 99 am ad cd (q.map (·.d)++[dc])::so 61 Pg ap cp (q.map S2.pp)::so 42 I9 ar cr rs::so 215 jl B6 cs sl::rl (sh.mem N) sl::rl (M4 pk N) q::Lf pk dc xc oc::R):=h;refine(acC h a).mono ?_;exact abl
theorem aeW(h:Hp c w (G3 b N h0::R))(a:¬(0<=n∧n<=h0.D0.A0)):Cs 181 #[Pt b,I n] w (λx w'=>x= .panicked (Ir 11)∧Hp c w' (G3 b N h0::R)):=by obtain⟨⟨⟨A0,F0,L0⟩,R0,C0,k,li,de,q,dc,xc,oc,rs⟩,⟨pk,pl,pd,ad,cd,ap,cp,ar,cr,B6,cs,sl⟩,rfl,hq,L8,h⟩:=h.C4;simp only at hq L8 h;replace h:Hp c w (bk b [I A0,I F0,I L0,I R0,I C0,Pt pk,Pt pl,Pt pd,.slice ad (q.map (·.d)++[dc]).length cd,.slice ap (q.map S2.pp).length cp,la (oc.map (·.1)),.slice ar rs.length cr,.slice B6 sl.length cs] 90::K1 pk k::x5 pl li::z6 pd de::so 99 am ad cd (q.map (·.d)++[dc])::so 61 Pg ap cp (q.map S2.pp)::so 42 I9 ar cr rs::so 215 jl B6 cs sl::rl (sh.mem N) sl::rl (M4 pk N) q::Lf pk dc xc oc::R):=h;refine(aeU h a).mono ?_;exact abl
theorem akJ(h:Hp c w (G3 b N h0::R))(a:¬(0<=n∧n<=h0.D0.A0)):Cs 136 #[Pt b,I n] w (λx w'=>x= .panicked (Ir 11)∧Hp c w' (G3 b N h0::R)):=by obtain⟨⟨⟨A0,F0,L0⟩,R0,C0,k,li,de,q,dc,xc,oc,rs⟩,⟨pk,pl,pd,ad,cd,ap,cp,ar,cr,B6,cs,sl⟩,rfl,hq,L8,h⟩:=h.C4;simp only at hq L8 h;replace h:Hp c w (bk b [I A0,I F0,I L0,I R0,I C0,Pt pk,Pt pl,Pt pd,.slice ad (q.map (·.d)++[dc]).length cd,.slice ap (q.map S2.pp).length cp,la (oc.map (·.1)),.slice ar rs.length cr,.slice B6 sl.length cs] 90::K1 pk k::x5 pl li::z6 pd de::so 99 am ad cd (q.map (·.d)++[dc])::so 61 Pg ap cp (q.map S2.pp)::so 42 I9 ar cr rs::so 215 jl B6 cs sl::rl (sh.mem N) sl::rl (M4 pk N) q::Lf pk dc xc oc::R):=h;refine(upW (ps:=q.map S2.pp) (ch:=oc.map (·.1)) (h.g [0,5] O) a).mono ?_;exact abm
theorem akK(h:Hp c w (G3 b N h0::R))(e:0<=n∧n<=h0.D0.A0)(a:h0.up n=false):Cs 136 #[Pt b,I n] w (λx w'=>x= .panicked (Ir 22)∧Hp c w' (G3 b N h0::R)):=by
 obtain⟨⟨⟨A0,F0,L0⟩,R0,C0,k,li,de,q,dc,xc,oc,rs⟩,⟨pk,pl,pd,ad,cd,ap,cp,ar,cr,B6,cs,sl⟩,rfl,hq,L8,h⟩:=h.C4;simp only at hq L8 h;replace h:Hp c w (bk b [I A0,I F0,I L0,I R0,I C0,Pt pk,Pt pl,Pt pd,.slice ad (q.map (·.d)++[dc]).length cd,.slice ap (q.map S2.pp).length cp,la (oc.map (·.1)),.slice ar rs.length cr,.slice B6 sl.length cs] 90::K1 pk k::x5 pl li::z6 pd de::so 99 am ad cd (q.map (·.d)++[dc])::so 61 Pg ap cp (q.map S2.pp)::so 42 I9 ar cr rs::so 215 jl B6 cs sl::rl (sh.mem N) sl::rl (M4 pk N) q::Lf pk dc xc oc::R):=h;have f:((q.map S2.pp).length:Int)=A0:=by rw[H7];exact hq
 rw[HS.upE (s:=⟨⟨A0,F0,L0⟩,R0,C0,k,li,de,q,dc,xc,oc,rs⟩) hq]at a;replace a:(Bc A0 (oc.map (·.1)) (q.map S2.pp) n).2=false:=a;replace e:0<=n∧n<=A0:=e;refine(XN (ps:=q.map S2.pp) (ch:=oc.map (·.1)) (h.g [0,5] O) e f a).mono ?_;exact abm
theorem akI(h:Hp c w (G3 b N h0::R))(e:0<=n∧n<=h0.D0.A0)(a:h0.up n=true):Cs 136 #[Pt b,I n] w (λx w'=>∃v,x= .returned v∧Hp c w' (G3 b N h0::R)):=by
 obtain⟨⟨⟨A0,F0,L0⟩,R0,C0,k,li,de,q,dc,xc,oc,rs⟩,⟨pk,pl,pd,ad,cd,ap,cp,ar,cr,B6,cs,sl⟩,rfl,hq,L8,h⟩:=h.C4;simp only at hq L8 h;replace h:Hp c w (bk b [I A0,I F0,I L0,I R0,I C0,Pt pk,Pt pl,Pt pd,.slice ad (q.map (·.d)++[dc]).length cd,.slice ap (q.map S2.pp).length cp,la (oc.map (·.1)),.slice ar rs.length cr,.slice B6 sl.length cs] 90::K1 pk k::x5 pl li::z6 pd de::so 99 am ad cd (q.map (·.d)++[dc])::so 61 Pg ap cp (q.map S2.pp)::so 42 I9 ar cr rs::so 215 jl B6 cs sl::rl (sh.mem N) sl::rl (M4 pk N) q::Lf pk dc xc oc::R):=h;have f:((q.map S2.pp).length:Int)=A0:=by rw[H7];exact hq
 rw[HS.upE (s:=⟨⟨A0,F0,L0⟩,R0,C0,k,li,de,q,dc,xc,oc,rs⟩) hq]at a;replace a:(Bc A0 (oc.map (·.1)) (q.map S2.pp) n).2=true:=a;replace e:0<=n∧n<=A0:=e;refine(xA (ps:=q.map S2.pp) (ch:=oc.map (·.1)) (h.g [0,5] O) e f a).mono ?_;exact abn
end
def Hg(ev:Ev)(h:I0)(i:Nat):I0:=(List.range i).foldl (λh(n:Nat)=>if h.up (n:Int)then h.Gd (n:Int) ev else h) h
theorem iv(ev:Ev)(h:I0)(i:Nat):Hg ev h (i+1)=if(Hg ev h i).up (i:Int)then(Hg ev h i).Gd (i:Int) ev else Hg ev h i:=by unfold Hg;rw[JN,Qh];rfl
theorem Ly{ev:Ev}{h:I0}(a:Inv (G6 h) h):∀i:Nat,(i:Int)<=h.D0.A0+1->Inv (G6 (Hg ev h i)) (Hg ev h i)∧(Hg ev h i).D0=h.D0∧(Hg ev h i).s7.length=h.s7.length
 |0,_=>⟨a,rfl,rfl⟩
 |i+1,d=>by
  obtain⟨c,b,e⟩:=Ly a i m4;rw[iv];split
  ·refine⟨(c.Gd (by rw[b];omega) ev).1,?_,?_⟩
   ·grind[I0.Gd]
   grind[I0.Gd]
  simp[*]
section
variable{ev:Ev}
theorem oZ(h:Hp c w (bk pr (Zk ev t 0 0 X0) 42::G3 b N h0::R))(o:HB (G6 h0) N h0):Cs 133 #[Pt b,ev.v,Pt pr] w (pA c b N pr (Zk ev t) R (h0.N6 ev)):=by
 have S:=o.D0.A0;by_cases k:ev.W0=9
 ·by_cases f:0<=ev.N3∧ev.N3<=h0.D0.A0
  ·have w1:h0.Vg ev.N3=true:=by unfold I0.Vg;simp[f.1,f.2]
   cases e:h0.up ev.N3 with
   |false=>
    have i:h0.N6 ev=(ma 22,h0):=by unfold I0.N6;rw[S1 k,w1,V0 Zb3,S1 e]
    rw[i];have hU:=λ(w:World)(R:List HP)(h:Hp c w (G3 b N h0::R))=>akK h f e;exact abk
   |true=>
    have i:h0.N6 ev=(oA,h0.Gd ev.N3 ev):=by unfold I0.N6;rw[S1 k,w1,V0 Zb3,V0 (by rw[e];simp)]
    rw[i];obtain⟨l,S0,r⟩:=o.A6.M6 f;have hU:=λ(w:World)(R:List HP)(h:Hp c w (G3 b N h0::R))=>akI h f e;have A:=λ(w:World)(R:List HP)(h:Hp c w (G3 b N h0::R))=>eZ (ev:=ev) h f r.sj.M6 e;exact R2 func133 O (I2 h O λb1 w h=>U0 h 0 O O (mf (U0 h 0 O O (He (hU _ _ (h.g [2] O)) λz w h=>U0 h 1 O O (O4 h 1 O O (N1 (A _ _ h) λw h=> .inl ⟨rfl,h.q 3 [2,0] O⟩))))))
  ·have w1:h0.Vg ev.N3=false:=by unfold I0.Vg;simp;omega
   have i:h0.N6 ev=(ma 11,h0):=by unfold I0.N6;rw[S1 k,S1 w1]
   rw[i];have hU:=λ(w:World)(R:List HP)(h:Hp c w (G3 b N h0::R))=>akJ h f;exact abk
 ·have i:h0.N6 ev=(oA,Hg ev h0 h0.s7.length):=by unfold I0.N6;rw[V0 k];unfold m6 Hg;rw[kg]
  rw[i];have K:(h0.s7.length:Int)=h0.D0.A0+1:=o.A6.Be;refine R2 func133 O (I2 h O λb1 w h=>U0 h 0 O O (BR.eqN k ?_));obtain⟨s,g,hs,hsq,J,h⟩:=(h.g [2] rfl).C4;have Q:(s.q.map (·.d)++[s.dc]).length=h0.s7.length:=by rw[hs];simp[HS.J1]
  obtain⟨D,A⟩:∃D,(s.q.map (·.d)++[s.dc]).length=D:=⟨_,rfl⟩;refine U0 h 0 O O ?_;replace h:=Hp.F1 hs hsq J h;refine p5.A6 kn [0,4,25,26] (λm vs w'=>∃(j:Nat),vs=[Pt b,Pt b1,I (s.q.map (·.d)++[s.dc]).length,I j]∧j+m=h0.s7.length∧Hp c w' (G3 b N (Hg ev h0 j)::bk b1 [I ev.W0,I ev.Z3,I ev.N3,I ev.tx,I ev.t8,I ev.Q6,I ev.O8,gb ev.J0,.bool ev.up,.bool ev.uc,I ev.op.W0,I ev.op.tx,B8 ev.op.key.a,B8 ev.op.key.b,B8 ev.op.key.x,B8 ev.op.key.y,I ev.op.n] 47::bk pr (Zk ev t 0 0 X0) 42::R)) h0.s7.length ⟨0,rfl,m4,h⟩ ?_;rintro m _ w1 M ⟨j,rfl,L,h⟩;have u:=iv ev h0 j;refine BR.T5 (λf=>?_) λf=>?_
  ·obtain⟨E,C,hi3⟩:=Ly (ev:=ev) o.A6 j m4;obtain⟨H,G⟩:∃H,Hg ev h0 j=H:=⟨_,rfl⟩;rw[G]at u h E C hi3;have hjn:0<=(j:Int)∧(j:Int)<=H.D0.A0:=by rw[C];omega
   obtain⟨l,S0,r⟩:=E.M6 hjn;have p:=λ(w:World)(R:List HP)(h:Hp c w (G3 b N H::R))=>ED h hjn;cases e:H.up (j:Int)with
   |false=>
    rw[e]at p u;refine He (p _ _ h) λz w h=>m5 (i5 ⟨(m-1),?_,_,rfl,?_,Hp.subst h ?_⟩)
    ·omega
    ·grind[]
    ·grind[]
   |true=>
    have hDn:=λ(w:World)(R:List HP)(h:Hp c w (G3 b N H::R))=>eZ (ev:=ev) h hjn r.sj.M6 e;rw[e]at p u;refine He (p _ _ h) λz w h=>Q5 (O4 h 1 O O (N1 (hDn _ _ h) λw h=>i5 ⟨(m-1),?_,_,rfl,?_,Hp.subst h ?_⟩))
    ·omega
    ·grind[]
    ·grind[]
  ·have F:j=h0.s7.length:=m4
   subst F;exact .inl ⟨rfl,h.q 3 [2,0] O⟩
end
def Of(N3:Int)(h:I0)(n:Int):I0:=
 if N3=h.D0.A0 then match h.O1 with
  |none=>h
  |some c=>h.G7 ((h.cw c).V2 (n+1) (h.P2.entry (n+1)).1.J0 (h.P2.entry (n+1)).1.I1).2
 else match h.G5 N3 with
  |none=>h
  |some p=>{h with A0:=h.A0.set N3.toNat (some (p.V2 (n+1) (h.P2.entry (n+1)).1.J0 (h.P2.entry (n+1)).1.I1 (-1)).2)}
def xj(N3:Int)(h:I0)(i:Nat):I0:=(List.range i).foldl (λh(n:Nat)=>Of N3 h (n:Int)) h
theorem mn(N3:Int)(h:I0)(i:Nat):xj N3 h (i+1)=Of N3 (xj N3 h i) (i:Int):=by simp[xj,List.range_succ]
theorem EF(N3:Int)(h:I0)(n:Int):(Of N3 h n).P2=h.P2∧(Of N3 h n).D0=h.D0∧(Of N3 h n).O0.D0=h.O0.D0:=by
 unfold Of;split
 ·split
  ·simp
  ·refine⟨rfl,rfl,?_⟩;have:=(Xh (h.cw ‹D8›) (n+1) (h.P2.entry (n+1)).1.J0 (h.P2.entry (n+1)).1.I1).2.2;exact V4 (·.D0) this
 grind
theorem wu(N3:Int)(h:I0):∀i:Nat,(xj N3 h i).P2=h.P2∧(xj N3 h i).D0=h.D0∧(xj N3 h i).O0.D0=h.O0.D0
 |0=>⟨rfl,rfl,rfl⟩
 |i+1=>by obtain⟨c,b,a⟩:=wu N3 h i<;>grind[mn,EF]
theorem tG(h:I0)(n:Int):(h.L6 n).2.P2=h.P2∧(h.L6 n).2.D0=h.D0∧(h.L6 n).2.O0=h.O0:=by unfold I0.L6<;>grind
theorem lO{N3:Int}(a:h.up N3=true)(n:Int):(Of N3 h n).up N3=true:=by
 unfold I0.up at a;unfold Of;by_cases g:N3=h.D0.A0
 ·rw[S1 g];rw[S1 g]at a;cases b:h.O1 with
  |none=>simp_all
  |some C=>simp only;unfold I0.up;rw[S1 (by exact g)];rfl
 ·rw[V0 g];rw[V0 g]at a;cases b:h.G5 N3 with
  |none=>simp_all
  |some p=>simp only;unfold I0.up;rw[V0 (by exact g)];unfold I0.G5 at b⊢<;>grind
theorem EA{N3:Int}{h:I0}(a:h.up N3=true):∀i:Nat,(xj N3 h i).up N3=true
 |0=>a
 |i+1=>by rw[mn];exact lO (EA a i) _
theorem MO{me R0:Int}{x:U2}(h:d4.new me R0 x=none)(h0:Bj me R0 x=0):False:=by
 unfold d4.new at h;unfold Bj at h0;cases a:I' x with
 |none=>simp_all
 |some z=>
  obtain⟨b,S0⟩:=z;rw[a]at h h0;simp only at h h0;cases hs:E1.new R0 (P6 S0).N0 with
  |none=>grind[Nf]
  |some s=>rw[hs]at h h0;exact Ll _ _ h h0
theorem vS(c:0<=n∧n<=h.D0.A0)(d:(h.A0.length:Int)=h.D0.A0)(a:(h.L6 n).1=0):(h.L6 n).2.up n=true:=by
 unfold I0.L6 at a⊢;split
 ·rename_i g;rw[S1 g]at a;cases b:D8.new h.D0.A0 (h.U4 n)with
  |none=>simp_all
  |some C=>simp_all[I0.up]
 ·rename_i g;rw[V0 g]at a;cases b:d4.new n h.R0 (h.U4 n)with
  |none=>grind[MO]
  |some p=>simp only;unfold I0.up;rw[V0 (by exact g)];grind[I0.G5]
section
variable{ev:Ev}
theorem ahM(h:Hp c w (bk pr (Zk ev t 0 0 X0) 42::G3 b N h0::R))(hb:HB (G6 h0) N h0)(hl:ng c):Cs 134 #[Pt b,ev.v,Pt pr] w (pA c b N pr (Zk ev t) R (h0.xd ev)):=by
 have Gi:=hb.D0.A0;by_cases M:0<=ev.N3∧ev.N3<=h0.D0.A0
 case neg=>
  have w1:h0.Vg ev.N3=false:=by unfold I0.Vg;simp;omega
  have Z:h0.xd ev=(ma 11,h0):=by unfold I0.xd;rw[S1 w1]
  rw[Z];have hU:=λ(w:World)(R:List HP)(h:Hp c w (G3 b N h0::R))=>aeW h M;exact R2 func134 O (I2 h O λb1 w h=>U0 h 0 O O (nl (hU _ _ (h.g [2] O)) λw h=>λ_=>Or.inr ⟨rfl,rfl,h.q 3 [2,0] O⟩))
 case pos=>
  have w1:h0.Vg ev.N3=true:=by unfold I0.Vg;simp[M.1,M.2]
  have hU:=λ(w:World)(R:List HP)(h:Hp c w (G3 b N h0::R))=>aeV h M;have GV:=λ(w:World)(R:List HP)(h:Hp c w (G3 b N h0::R))=>ED h M;cases hu:h0.up ev.N3 with
  |true=>
   rw[hu]at GV;have Z:h0.xd ev=(ma 13,h0):=by unfold I0.xd;rw[w1,V0 Zb3,S1 hu]
   rw[Z];exact R2 func134 O (I2 h O λb1 w h=>U0 h 0 O O (N1 (hU _ _ (h.g [2] O)) λw h=>He (GV _ _ h) λv1 w h=>nl (Ai h O) λw h=>λ_=>Or.inr ⟨rfl,rfl,h.q 3 [2,0] O⟩))
  |false=>
   rw[hu]at GV;have Na:=hb.A6.M6 M;have hOp:=λ(w:World)(R:List HP)(h:Hp c w (G3 b N h0::R))=>afo h M Gi hb.Qa Na hu;obtain⟨k1,k2,k3⟩:=tG h0 ev.N3;obtain⟨⟨er,S⟩,Y⟩:∃V,h0.L6 ev.N3=V:=⟨_,rfl⟩;rw[Y]at hOp k1 k2 k3;simp only at hOp k1 k2 k3;have Z:h0.xd ev=(if¬er=0 then(ma er,h0)else(oA,xj ev.N3 S h0.P2.P0.length)):=by unfold I0.xd;rw[w1,V0 Zb3,V0 (by rw[hu];simp)];simp only[Y];rfl
   rw[Z];clear Z;by_cases g2:er=0
   case neg=>
    rw[S1 g2];have HV:S=h0:=by
     unfold I0.L6 at Y;split at Y
     ·grind
     ·grind
    subst HV;exact R2 func134 O (I2 h O λb1 w h=>U0 h 0 O O (N1 (hU _ _ (h.g [2] O)) λw h=>He (GV _ _ h) λv1 w h=>N1 (Ff h O) λw h=>U0 h 1 O O (N1 (hOp _ _ h) λw h=>nl (xp h g2) λw h=>λ_=>Or.inr ⟨rfl,rfl,h.q 3 [2,0] O⟩)))
   case pos=>
    rw[V0 (λk=>k g2)];subst g2;refine R2 func134 O (I2 h O λb1 w h=>U0 h 0 O O (N1 (hU _ _ (h.g [2] O)) λw h=>He (GV _ _ h) λv1 w h=>N1 (Ff h O) λw h=>U0 h 1 O O (N1 (hOp _ _ h) λw h=>N1 (Gf h O) λw h=>?_)));obtain⟨s,g,hs,hsq,alN,h⟩:=h.C4;have Wx:s.P2.P0.length=h0.P2.P0.length:=by rw[<-k1,hs];rfl
    refine U0 h 0 O O (N1 (afU (h.g [3] O)) λw h=>?_);replace h:=Hp.F1 hs hsq alN (h.g [1,2,3] O);have alK:S.up ev.N3=true:=by have:=vS M (by rw[hb.A6.Ae];rfl) (by rw[Y]);rw[Y]at this;exact this
    refine p5.A6 kn [0,4,32,33] (λm vs w'=>∃(j:Nat),vs=[Pt b,Pt b1,I s.P2.P0.length,I j]∧j+m=h0.P2.P0.length∧Hp c w' (G3 b N (xj ev.N3 S j)::bk b1 [I ev.W0,I ev.Z3,I ev.N3,I ev.tx,I ev.t8,I ev.Q6,I ev.O8,gb ev.J0,.bool ev.up,.bool ev.uc,I ev.op.W0,I ev.op.tx,B8 ev.op.key.a,B8 ev.op.key.b,B8 ev.op.key.x,B8 ev.op.key.y,I ev.op.n] 47::bk pr (Zk ev t 0 0 X0) 42::R)) h0.P2.P0.length ⟨0,rfl,m4,h⟩ ?_;rintro m _ w1 e0 ⟨j,rfl,hm,h⟩;have A7:=mn ev.N3 S j;obtain⟨j1,j2,j3⟩:=wu ev.N3 S j;have L:=EA alK j;refine BR.T5 (λg3=>?_) λg3=>?_
    ·obtain⟨H,hH⟩:∃H,xj ev.N3 S j=H:=⟨_,rfl⟩;rw[hH]at A7 h j1 j2 j3 L;obtain⟨⟨⟨A0,F0,L0⟩,R0,C0,k,D,r,q,f,G,F,u⟩,⟨pk,pl,pd,ad,cd,ap,cp,ar,cr,B6,cs,sl⟩,hHe,hq,L8,h2⟩:=h.C4;clear hH h;subst hHe;simp only at hq L8;have h:Hp c w1 (bk b [I A0,I F0,I L0,I R0,I C0,Pt pk,Pt pl,Pt pd,.slice ad (q.map (·.d)++[f]).length cd,.slice ap (q.map S2.pp).length cp,la (F.map (·.1)),.slice ar u.length cr,.slice B6 sl.length cs] 90::K1 pk k::x5 pl D::z6 pd r::so 99 am ad cd (q.map (·.d)++[f])::so 61 Pg ap cp (q.map S2.pp)::so 42 I9 ar cr u::so 215 jl B6 cs sl::rl (sh.mem N) sl::rl (M4 pk N) q::Lf pk f G F::bk b1 [I ev.W0,I ev.Z3,I ev.N3,I ev.tx,I ev.t8,I ev.Q6,I ev.O8,gb ev.J0,.bool ev.up,.bool ev.uc,I ev.op.W0,I ev.op.tx,B8 ev.op.key.a,B8 ev.op.key.b,B8 ev.op.key.x,B8 ev.op.key.y,I ev.op.n] 47::bk pr (Zk ev t 0 0 X0) 42::R):=h2;clear h2;have hde:r=h0.P2:=j1.trans k1;have kK:k.D0=h0.O0.D0:=j3.trans (V4 (·.D0) k3);have Tx:F8 k.D0.A0 k.D0.F0 k.D0.L0:=by rw[kK];exact hb.VS
     have fK:A0=h0.D0.A0:=V4 (·.A0) (j2.trans k2);have fH:r.Ok:=by rw[hde];exact hb.P2
     have YP:r.P0.length=h0.P2.P0.length:=by rw[hde]
     have FV:=fH.l;have Fe:=Et (d:=r) (tx:=(j:Int)+1) ⟨m4,m4⟩;have hmk:¬(r.entry ((j:Int)+1)).1.J0=0#16:=by refine hb.Dt _ ?_;rw[<-hde];exact Fe
     have tK:=λ(w:World)(R:List HP)(h:Hp c w (z6 pd r::R))=>nO (tx:=(j:Int)+1) h fH.l;rw[HS.upE (s:=⟨⟨A0,F0,L0⟩,R0,C0,k,D,r,q,f,G,F,u⟩) hq]at L;obtain⟨⟨e,ok⟩,hV⟩:∃V,r.entry ((j:Int)+1)=V:=⟨_,rfl⟩;have hV1:(HS.J1 ⟨⟨A0,F0,L0⟩,R0,C0,k,D,r,q,f,G,F,u⟩).P2.entry ((j:Int)+1)=(e,ok):=hV;rw[hV]at tK hmk;simp only at tK hmk;by_cases g4:ev.N3=A0
     ·replace L:(Bc A0 (F.map (·.1)) (q.map S2.pp) ev.N3).2=true:=L;unfold Bc at L;rw[S1 g4]at L;obtain _|z:=F
      case none=>cases L
      clear L;obtain⟨J,C⟩:=z;obtain⟨⟨er,⟨C',k',K⟩⟩,X⟩:∃V,CW.V2 ⟨C,k,G⟩ ((j:Int)+1) e.J0 e.I1=V:=⟨_,rfl⟩;obtain⟨FI,kk2,kk3⟩:=Xh ⟨C,k,G⟩ ((j:Int)+1) e.J0 e.I1;rw[X]at FI;simp only at FI;subst FI;have hCe:=λ(w:World)(R:List HP)(h:Hp c w (r6 pk f J C::K1 pk k::R))=>YH (x:=K) (tx:=(j:Int)+1) (J0:=e.J0) (bg:=e.I1) h hl hmk Tx;rw[X]at hCe;simp only at hCe;have e2:Of ev.N3 (HS.J1 ⟨⟨A0,F0,L0⟩,R0,C0,k,D,r,q,f,K,some (J,C),u⟩) (j:Int)=HS.J1 ⟨⟨A0,F0,L0⟩,R0,C0,k',D,r,q,f,K,some (J,C'),u⟩:=by
       have a1:Of ev.N3 (HS.J1 ⟨⟨A0,F0,L0⟩,R0,C0,k,D,r,q,f,K,some (J,C),u⟩) (j:Int)=(HS.J1 ⟨⟨A0,F0,L0⟩,R0,C0,k,D,r,q,f,K,some (J,C),u⟩).G7 (((HS.J1 ⟨⟨A0,F0,L0⟩,R0,C0,k,D,r,q,f,K,some (J,C),u⟩).cw C).V2 ((j:Int)+1) ((HS.J1 ⟨⟨A0,F0,L0⟩,R0,C0,k,D,r,q,f,K,some (J,C),u⟩).P2.entry ((j:Int)+1)).1.J0 ((HS.J1 ⟨⟨A0,F0,L0⟩,R0,C0,k,D,r,q,f,K,some (J,C),u⟩).P2.entry ((j:Int)+1)).1.I1).2:=by unfold Of;rw[S1 (by exact g4)];rfl
       rw[a1,hV1,HS.cwE (s:=⟨⟨A0,F0,L0⟩,R0,C0,k,D,r,q,f,K,some (J,C),u⟩) hq];simp only[X];rw[HS.ZF (s:=⟨⟨A0,F0,L0⟩,R0,C0,k,D,r,q,f,K,some (J,C),u⟩) hq J]
      rw[e2]at A7;refine U0 h 0 O O (i5 (N1 (tK _ _ (h.g [3] O)) λw h=>I2 h O λb2 w h=>J3 h 0 O O O λw h=>sv [0,2,3,4,5,1,6,7] ?_));replace h:=h.drew;refine U0 h 12 O O (U0 h 2 O O (mf (Y6 h [0,1,2,4,5,6,8,3,7,59,110] λh=>i5 (U3 2 O O (U3 0 O O (U0 h 0 O O ⟨h,?_⟩))))));replace h:Hp _ _ (M1 f K::r6 pk f J C::_):=Hp.R6 (h.g [11] O);refine N1 (hCe _ _ (h.g [1,5] O)) λw h=>i5 ?_;replace h:Hp _ _ (Lf pk f K (some (J,C'))::_):=Hp.C3 (A:=[M1 f K,r6 pk f J C']) (h.g [2] O);refine⟨m-1,m4,j+1,by push_cast;rfl,m4,?_⟩;rw[A7];exact Hp.F1 (s:=⟨⟨A0,F0,L0⟩,R0,C0,k',D,r,q,f,K,(some (J,C')),u⟩) (g:=⟨pk,pl,pd,ad,cd,ap,cp,ar,cr,B6,cs,sl⟩) O hq L8 (h.q 14 [4,1,5,3,6,7,8,9,10,11,0,12,13] O)
     ·replace M:0<=ev.N3∧ev.N3<=A0:=by rw[fK];exact M
      obtain⟨i,hi⟩:∃i:Nat,ev.N3=(i:Int):=⟨ev.N3.toNat,m4⟩;obtain⟨y,Q⟩:∃y,i3 q i=some y:=⟨q[i]'m4,by rw[Z0,d8]⟩;have Ar:=Zh (A0:=A0) (ch:=F.map (·.1)) Q m4;rw[<-hi]at Ar;replace L:(Bc A0 (F.map (·.1)) (q.map S2.pp) ev.N3).2=true:=L;rw[Ar]at L;obtain⟨d,x,o⟩:=y;obtain _|z:=o
      case none=>cases L
      clear L;obtain⟨pp,p⟩:=z;obtain⟨⟨er,T⟩,X⟩:∃V,p.V2 ((j:Int)+1) e.J0 e.I1 (-1)=V:=⟨_,rfl⟩;have hPe:=λ(w:World)(R:List HP)(h:Hp c w (B7 pk d N pp p::R))=>pG (tx:=(j:Int)+1) (J0:=e.J0) (bg:=e.I1) (C0:= -1) h;rw[X]at hPe;simp only at hPe;have e2:Of ev.N3 (HS.J1 ⟨⟨A0,F0,L0⟩,R0,C0,k,D,r,q,f,G,F,u⟩) (j:Int)=HS.J1 ⟨⟨A0,F0,L0⟩,R0,C0,k,D,r,(q.set i ⟨d,x,some (pp,T)⟩),f,G,F,u⟩:=by
       have a2:(HS.J1 ⟨⟨A0,F0,L0⟩,R0,C0,k,D,r,q,f,G,F,u⟩).G5 ev.N3=some p:=by rw[hi];exact HS.AM (s:=⟨⟨A0,F0,L0⟩,R0,C0,k,D,r,q,f,G,F,u⟩) Q
       have a1:Of ev.N3 (HS.J1 ⟨⟨A0,F0,L0⟩,R0,C0,k,D,r,q,f,G,F,u⟩) (j:Int)={HS.J1 ⟨⟨A0,F0,L0⟩,R0,C0,k,D,r,q,f,G,F,u⟩with A0:=(HS.J1 ⟨⟨A0,F0,L0⟩,R0,C0,k,D,r,q,f,G,F,u⟩).A0.set i (some (p.V2 ((j:Int)+1) ((HS.J1 ⟨⟨A0,F0,L0⟩,R0,C0,k,D,r,q,f,G,F,u⟩).P2.entry ((j:Int)+1)).1.J0 ((HS.J1 ⟨⟨A0,F0,L0⟩,R0,C0,k,D,r,q,f,G,F,u⟩).P2.entry ((j:Int)+1)).1.I1 (-1)).2)}:=by
        unfold Of;rw[V0 (by exact g4),a2];have e:ev.N3.toNat=i:=m4
        rw[e]
       rw[a1,hV1];simp only[X];rw[HS.HJ (s:=⟨⟨A0,F0,L0⟩,R0,C0,k,D,r,q,f,G,F,u⟩) Q pp]
      rw[e2]at A7;have cT:i3 (q.map S2.pp) ev.N3.toNat=some (some pp):=by
       have e:ev.N3.toNat=i:=m4
       rw[Z0]at Q⊢;rw[e,We,Q];rfl
      have hwl:ev.N3<(q.map S2.pp).length:=Zb5
      replace h:=Hp.rf (h.g [9] O) Q;replace h:Hp c w1 (M1 d x::B7 pk d N pp p::_):=Hp.R6 h;refine U0 h 3 O O (i5 (N1 (tK _ _ (h.g [6] O)) λw h=>I2 h O λb2 w h=>J3 h 0 O O O λw h=>sv [0,2,3,4,5,1,6,7] ?_));replace h:=h.drew;refine U0 h 14 O O (U0 h 5 O O (Wa (Y6 h [0,1,2,4,8,9,10,12,3,5,6,7,11,63,114] λh=>i5 (U3 5 O O (U3 14 O O (jd h 9 O λb3 o1 U9=>LD.Km (E:=Pg) (λ_ h=>h) 9 O Zb9 Zb9 O (U3 0 O O (U0 h 0 O O ⟨h,?_⟩))))))));refine N1 (hPe _ _ (h.g [3] O)) λw h=>i5 ?_;replace h:Hp _ _ (M4 pk N ⟨d,x,some (pp,T)⟩::_):=Hp.C3 (A:=[M1 d x,B7 pk d N pp T]) (h.g [3,0,4] O);replace h:=Hp.Wj h Q;rw[<-Iw Q ⟨d,x,some (pp,T)⟩ O,<-Hw Q ⟨d,x,some (pp,T)⟩ O]at h;refine⟨m-1,m4,j+1,by push_cast;rfl,m4,?_⟩;rw[A7];exact Hp.F1 (s:=⟨⟨A0,F0,L0⟩,R0,C0,k,D,r,(q.set i ⟨d,x,some (pp,T)⟩),f,G,F,u⟩) (g:=⟨pk,pl,pd,ad,cd,ap,cp,ar,cr,B6,cs,sl⟩) O Zb6 Zb6 (h.q 14 [3,4,5,2,6,7,8,9,10,0,11,12,13] O)
    ·have hj:j=h0.P2.P0.length:=m4
     subst hj;exact .inl ⟨rfl,h.q 3 [2,0] O⟩
end
end Go.Proofs.YtaaihojmcfaejaaGreatDoor
