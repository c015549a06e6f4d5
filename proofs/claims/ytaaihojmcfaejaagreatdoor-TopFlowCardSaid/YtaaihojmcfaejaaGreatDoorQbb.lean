/- Lemmas for the tops: the walk of the house and its laws. No condition is added. -/
import Derived.Recover
import Derived.Tactics
import Derived.Tactics2
import Derived.Test.YtaaihojmcfaejaaGreatDoorQba
import Derived.Test.YtaaihojmcfaejaaGreatDoorQah
import Derived.Test.YtaaihojmcfaejaaGreatDoorQaf
set_option linter.all false
namespace Go.Proofs.YtaaihojmcfaejaaGreatDoor
open Go Go.RowKit Tryz
variable{h h0:I0}{A0 C0 t tx:Int}{k:J2}{z:J2×O6}{R:List HP}{N b n pr:Nat}{c w:World}
theorem abj{P:Prop}(h:P:=by rw[hys]at h;exact⟨m-1,by omega,j+1,by push_cast;rfl,by omega,h.g [1,2,3,4,5,6,7,8,9,10] O⟩):P:=h
def Zl(tx:Int)(J0:BitVec 16)(C0:Int)(s:S2):S2:=⟨s.d,s.x,s.o.map λz=>(z.1,(z.2.V2 tx J0 C0 C0).2)⟩
theorem wX(tx:Int)(J0:BitVec 16)(C0:Int)(s:S2):(Zl tx J0 C0 s).pp=s.pp:=by unfold Zl S2.pp;cases s.o<;>rfl
section
variable{α β:Type}{f:α->α}{q:List α}{j:Nat}{y:α}
theorem adn(h:i3 q j=some y):i3 ((q.take j).map f++q.drop j) j=some y:=by rw[Z0]at h⊢;obtain⟨b,a⟩:=Cp.1 h;rw[Im Zb5];simp only[List.length_map,List.length_take];rw[Ue m4,cu,List.getElem?_drop];exact h
theorem adm(h:i3 q j=some y):((q.take j).map f++q.drop j).set j (f y)=(q.take (j+1)).map f++q.drop (j+1):=by have a:=By h;rw[Z0]at h;obtain⟨c,b⟩:=Cp.1 h;rw[Cz _ _ Zb5,H7,Ga,Ue m4,cu,a,List.set_cons_zero,O7 (by rw[Z0];exact h),ic,N'];rfl
end
theorem SK{d:E9}{cl:Int}{m:BitVec 16}(h:(d.I1 cl m C0).2.1=0):¬m=0#16:=by intro e;subst e;unfold E9.I1 at h;simp at h;split at h<;>simp at h
theorem RK{d:E9}{cl:Int}{m:BitVec 16}(h:¬(d.I1 cl m C0).2.1=0):(d.I1 cl m C0).2.2=d:=by
 unfold E9.I1 at h⊢;split
 ·rfl
 ·split
  ·rfl
  ·split
   ·rfl
   ·split
    ·rfl
    ·rename_i e c b a;rw[V0 e,V0 c,V0 b,V0 a]at h;exact absurd O h
section
variable{ev:Ev}
theorem ahV{P:zf}(h:Hp c w (bk pr (Zk ev t 0 0 X0) 42::G3 b N h0::R))(hb:HB P N h0)(hl:ng c):Cs 123 #[Pt b,ev.v,Pt pr] w (pA c b N pr (Zk ev t) R (h0.I1 ev)):=by
 obtain⟨⟨⟨A0,F0,L0⟩,R0,C0,k,r,D,q,e,u,l,i⟩,⟨pk,pl,J,X,cd,M,L,T,S,Y,cs,G⟩,rfl,H,L8,h⟩:=(h.g [1] rfl).C4;simp only at H L8 h;replace h:Hp c w (bk pr [I ev.W0,I t,I ev.Z3,I ev.N3,I 0,I ev.op.W0,I ev.op.tx,B8 ev.op.key.a,B8 ev.op.key.b,B8 ev.op.key.x,B8 ev.op.key.y,I ev.op.n,I 0,.bool false,I 0] 42::bk b [I A0,I F0,I L0,I R0,I C0,Pt pk,Pt pl,Pt J,.slice X (q.map (·.d)++[e]).length cd,.slice M (q.map S2.pp).length L,la (l.map (·.1)),.slice T i.length S,.slice Y G.length cs] 90::K1 pk k::x5 pl r::z6 J D::so 99 am X cd (q.map (·.d)++[e])::so 61 Pg M L (q.map S2.pp)::so 42 I9 T S i::so 215 jl Y cs G::rl (sh.mem N) G::rl (M4 pk N) q::Lf pk e u l::R):=h.g [11] O;have fH:D.Ok:=hb.P2;have Tx:F8 k.D0.A0 k.D0.F0 k.D0.L0:=hb.VS;have Gi:=hb.D0.A0;replace Gi:1<=A0∧A0<=6:=Gi;have bi:((q.map S2.pp).length:Int)=A0:=by rw[H7];exact H
 obtain⟨⟨tx,er,E⟩,hV⟩:∃V,D.I1 ev.Z3 ev.J0 C0=V:=⟨_,rfl⟩;have hBg:=λ(w:World)(R:List HP)(h:Hp c w (z6 J D::R))=>ahz (cl:=ev.Z3) (m:=ev.J0) (C0:=C0) h fH;rw[hV]at hBg;simp only at hBg;have a1:(HS.J1 ⟨⟨A0,F0,L0⟩,R0,C0,k,r,D,q,e,u,l,i⟩).P2.I1 ev.Z3 ev.J0 (HS.J1 ⟨⟨A0,F0,L0⟩,R0,C0,k,r,D,q,e,u,l,i⟩).C0=(tx,er,E):=hV;by_cases g0:er=0
 case neg=>
  have e1:I0.I1 (HS.J1 ⟨⟨A0,F0,L0⟩,R0,C0,k,r,D,q,e,u,l,i⟩) ev=(ma er,HS.J1 ⟨⟨A0,F0,L0⟩,R0,C0,k,r,D,q,e,u,l,i⟩):=by unfold I0.I1;rw[a1];exact S1 g0
  have hde:E=D:=by have:=RK (d:=D) (cl:=ev.Z3) (C0:=C0) (m:=ev.J0) (by rw[hV];exact g0);rw[hV]at this;exact this
  subst hde;rw[e1];exact R2 func123 O (I2 h O λb1 w h=>Y6 h [0,1,2,4,6,8,9,10,3,5,7,61,112,13,14,15,16,17] λh=>U3 2 O O (U3 0 O O (U3 0 O O (U0 h 2 O O ⟨h,N1 (hBg _ _ (h.g [5] O)) λw h=>nl (xp h g0) λw h=>λ_=>Or.inr ⟨rfl,rfl,(Hp.F1 (s:=⟨⟨A0,F0,L0⟩,R0,C0,k,r,E,q,e,u,l,i⟩) (g:=⟨pk,pl,J,X,cd,M,L,T,S,Y,cs,G⟩) O H L8 (h.q 13 [3,4,5,0,6,7,8,9,10,11,12,2] O)).g [1] O⟩⟩))))
 case pos=>
  subst g0;have hmk:¬ev.J0=0#16:=SK (d:=D) (cl:=ev.Z3) (C0:=C0) (by rw[hV]);have e1:I0.I1 (HS.J1 ⟨⟨A0,F0,L0⟩,R0,C0,k,r,D,q,e,u,l,i⟩) ev=(⟨0,tx,X0⟩,match l with
    |none=>HS.J1 ⟨⟨A0,F0,L0⟩,R0,C0,k,r,E,(q.map (Zl tx ev.J0 C0)),e,u,l,i⟩
    |some z=>(HS.J1 ⟨⟨A0,F0,L0⟩,R0,C0,k,r,E,(q.map (Zl tx ev.J0 C0)),e,u,l,i⟩).G7 (((HS.J1 ⟨⟨A0,F0,L0⟩,R0,C0,k,r,E,(q.map (Zl tx ev.J0 C0)),e,u,l,i⟩).cw z.2).V2 tx ev.J0 C0).2):=by
   have e2:{HS.J1 ⟨⟨A0,F0,L0⟩,R0,C0,k,r,D,q,e,u,l,i⟩with P2:=E,A0:=(HS.J1 ⟨⟨A0,F0,L0⟩,R0,C0,k,r,D,q,e,u,l,i⟩).A0.map λ(p:Option d4)=>p.map λ(p:d4)=>(p.V2 tx ev.J0 C0 C0).2}=HS.J1 ⟨⟨A0,F0,L0⟩,R0,C0,k,r,E,(q.map (Zl tx ev.J0 C0)),e,u,l,i⟩:=by
    unfold HS.J1;simp only[List.map_map];have h1:((λ(p:Option d4)=>p.map λ(p:d4)=>(p.V2 tx ev.J0 C0 C0).2)∘S2.E0)=S2.E0∘Zl tx ev.J0 C0:=by funext s;unfold Zl S2.E0;simp only[Function.comp];cases s.o<;>rfl
    have h2:((λ(s:S2)=>s.x)∘Zl tx ev.J0 C0)=λ(s:S2)=>s.x:=rfl;rw[h1,h2]
   have a5:I0.I1 (HS.J1 ⟨⟨A0,F0,L0⟩,R0,C0,k,r,D,q,e,u,l,i⟩) ev=(⟨0,tx,X0⟩,match l.map (·.2)with
     |none=>{HS.J1 ⟨⟨A0,F0,L0⟩,R0,C0,k,r,D,q,e,u,l,i⟩with P2:=E,A0:=(HS.J1 ⟨⟨A0,F0,L0⟩,R0,C0,k,r,D,q,e,u,l,i⟩).A0.map λ(p:Option d4)=>p.map λ(p:d4)=>(p.V2 tx ev.J0 C0 C0).2}
     |some C=>I0.G7 {HS.J1 ⟨⟨A0,F0,L0⟩,R0,C0,k,r,D,q,e,u,l,i⟩with P2:=E,A0:=(HS.J1 ⟨⟨A0,F0,L0⟩,R0,C0,k,r,D,q,e,u,l,i⟩).A0.map λ(p:Option d4)=>p.map λ(p:d4)=>(p.V2 tx ev.J0 C0 C0).2} ((I0.cw {HS.J1 ⟨⟨A0,F0,L0⟩,R0,C0,k,r,D,q,e,u,l,i⟩with P2:=E,A0:=(HS.J1 ⟨⟨A0,F0,L0⟩,R0,C0,k,r,D,q,e,u,l,i⟩).A0.map λ(p:Option d4)=>p.map λ(p:d4)=>(p.V2 tx ev.J0 C0 C0).2} C).V2 tx ev.J0 C0).2):=by
    unfold I0.I1;rw[a1];exact V0 (λk=>k O)
   rw[a5,e2];cases l<;>rfl
  rw[e1];clear e1;refine R2 func123 O (I2 h O λb1 w h=>Y6 h [0,1,2,4,6,8,9,10,3,5,7,61,112,13,14,15,16,17] λh=>U3 2 O O (U3 0 O O (U3 0 O O (U0 h 2 O O ⟨h,N1 (hBg _ _ (h.g [5] O)) λw h=>N1 (Gf h O) λw h=>J3 h 2 O O O λw h=>U0 h 3 O O ?_⟩))));have cF:(q.map S2.pp).length=q.length:=H7 ..;refine p5.A6 kn [0,2,4,6,35,36,37] (λm vs w'=>∃(j:Nat),vs=[Pt b,Pt pr,Pt b1,I tx,.slice M (q.map S2.pp).length L,I (q.map S2.pp).length,I j]∧j+m=q.length∧Hp c w' (bk pr [I ev.W0,I t,I ev.Z3,I ev.N3,I tx,I ev.op.W0,I ev.op.tx,B8 ev.op.key.a,B8 ev.op.key.b,B8 ev.op.key.x,B8 ev.op.key.y,I ev.op.n,I 0,.bool false,I 0] 42::bk b [I A0,I F0,I L0,I R0,I C0,Pt pk,Pt pl,Pt J,.slice X (q.map (·.d)++[e]).length cd,.slice M (q.map S2.pp).length L,la (l.map (·.1)),.slice T i.length S,.slice Y G.length cs] 90::K1 pk k::x5 pl r::z6 J E::so 99 am X cd (q.map (·.d)++[e])::so 61 Pg M L (q.map S2.pp)::so 42 I9 T S i::so 215 jl Y cs G::rl (sh.mem N) G::rl (M4 pk N) ((q.take j).map (Zl tx ev.J0 C0)++q.drop j)::Lf pk e u l::bk b1 [I ev.W0,I ev.Z3,I ev.N3,I ev.tx,I ev.t8,I ev.Q6,I ev.O8,gb ev.J0,.bool ev.up,.bool ev.uc,I ev.op.W0,I ev.op.tx,B8 ev.op.key.a,B8 ev.op.key.b,B8 ev.op.key.x,B8 ev.op.key.y,I ev.op.n] 47::R)) q.length ⟨0,rfl,m4,h.g [2,3,4,5,0,6,7,8,9,10,11,12] O⟩ ?_;rintro m _ w1 e0 ⟨j,rfl,hm,h⟩;refine BR.T5 (λg1=>?_) λg1=>?_
  ·obtain⟨y,hy⟩:∃y,i3 q j=some y:=⟨q[j]'m4,by rw[Z0,d8]⟩;have hyq:=adn (f:=Zl tx ev.J0 C0) hy;have hys:=adm (f:=Zl tx ev.J0 C0) hy;have cT:i3 (q.map S2.pp) (j:Int).toNat=some y.pp:=by rw[Z0]at hy⊢;rw[kg,We,hy];rfl
   obtain⟨d,x,o⟩:=y;replace h:=Hp.rf (h.g [10] O) hyq;cases o with
   |none=>replace cT:i3 (q.map S2.pp) (j:Int).toNat=some none:=cT;refine jd h 8 O λb3 o1 U9=>LD.qf h 8 O Zb9 Zb9 O ?_;refine tg.un O (m5 (i5 ?_));replace h:=Hp.Wj (y:=Zl tx ev.J0 C0 ⟨d,x,none⟩) h hyq;exact abj
   |some z=>
    obtain⟨pp,p⟩:=z;replace cT:i3 (q.map S2.pp) (j:Int).toNat=some (some pp):=cT;replace h:Hp c w1 (M1 d x::B7 pk d N pp p::_):=Hp.R6 h;obtain⟨⟨er,p'⟩,Z⟩:∃V,p.V2 tx ev.J0 C0 C0=V:=⟨_,rfl⟩;have hPe:=λ(w:World)(R:List HP)(h:Hp c w (B7 pk d N pp p::R))=>pG (tx:=tx) (J0:=ev.J0) (bg:=C0) (C0:=C0) h;rw[Z]at hPe;simp only at hPe;refine jd h 9 O λb3 o1 U9=>LD.qf h 9 O Zb9 Zb9 O ?_;refine tg.un O (Q5 (Y6 h [0,1,2,4,5,6,8,9,10,3,7,61,112] λh=>U3 14 O O (U3 4 O O (U0 h 4 O O ⟨h,N1 (hPe _ _ (h.g [1] O)) λw h=>i5 ?_⟩))));have WG:Zl tx ev.J0 C0 ⟨d,x,some (pp,p)⟩=⟨d,x,some (pp,p')⟩:=by unfold Zl;simp[Z]
    rw[WG]at hys;replace h:Hp _ _ (M4 pk N ⟨d,x,some (pp,p')⟩::_):=Hp.C3 (A:=[M1 d x,B7 pk d N pp p']) (h.g [1] O);replace h:=Hp.Wj (y:=⟨d,x,some (pp,p')⟩) h hyq;exact abj
  ·have hj:j=q.length:=m4
   have hqq:(q.take j).map (Zl tx ev.J0 C0)++q.drop j=q.map (Zl tx ev.J0 C0):=by rw[hj];simp
   rw[hqq]at h;obtain⟨F,hq'⟩:∃F,q.map (Zl tx ev.J0 C0)=F:=⟨_,rfl⟩;have e4:F.map (·.d)=q.map (·.d):=by rw[<-hq',Ph];rfl
   have e5:F.map S2.pp=q.map S2.pp:=by rw[<-hq',Ph];have:S2.pp∘Zl tx ev.J0 C0=S2.pp:=funext λs=>wX ..;rw[this]
   have e6:F.length=q.length:=by rw[<-hq'];simp
   rw[hq']at h⊢;replace H:(F.length:Int)=A0:=by rw[e6];exact H
   replace L8:G.length=F.length:=by rw[e6];exact L8
   rw[<-e4,<-e5]at h;cases l with
   |none=>exact U0 h 1 O O (tg.un O (m5 (.inl ⟨rfl,(Hp.F1 (s:=⟨⟨A0,F0,L0⟩,R0,C0,k,r,E,F,e,u,none,i⟩) (g:=⟨pk,pl,J,X,cd,M,L,T,S,Y,cs,G⟩) O H L8 (h.q 13 [1,2,3,4,5,6,7,8,9,10,11,0] O)).g [1] O⟩)))
   |some z=>obtain⟨K,C⟩:=z;obtain⟨⟨er,⟨C',k',Q⟩⟩,Z⟩:∃V,CW.V2 ⟨C,k,u⟩ tx ev.J0 C0=V:=⟨_,rfl⟩;obtain⟨FI,kk2,kk3⟩:=Xh ⟨C,k,u⟩ tx ev.J0 C0;rw[Z]at FI;simp only at FI;subst FI;have hCe:=λ(w:World)(R:List HP)(h:Hp c w (r6 pk e K C::K1 pk k::R))=>YH (x:=Q) (tx:=tx) (J0:=ev.J0) (bg:=C0) h hl hmk Tx;rw[Z]at hCe;simp only at hCe⊢;rw[HS.cwE (s:=⟨⟨A0,F0,L0⟩,R0,C0,k,r,E,F,e,Q,some (K,C),i⟩) H];simp only[Z];rw[HS.ZF (s:=⟨⟨A0,F0,L0⟩,R0,C0,k,r,E,F,e,Q,some (K,C),i⟩) H K];refine U0 h 1 O O (tg.un O (Q5 (Y6 h [0,1,2,4,5,7,8,9,3,6,60,111] λh=>U3 1 O O (U3 12 O O (U0 h 1 O O ⟨h,?_⟩)))));replace h:Hp _ _ (M1 e Q::r6 pk e K C::_):=Hp.R6 (h.g [11] O);refine N1 (hCe _ _ (h.g [1,4] O)) λw h=>?_;replace h:Hp _ _ (Lf pk e Q (some (K,C'))::_):=Hp.C3 (A:=[M1 e Q,r6 pk e K C']) (h.g [2] O);exact .inl ⟨rfl,(Hp.F1 (s:=⟨⟨A0,F0,L0⟩,R0,C0,k',r,E,F,e,Q,(some (K,C')),i⟩) (g:=⟨pk,pl,J,X,cd,M,L,T,S,Y,cs,G⟩) O H L8 (h.q 13 [3,1,4,5,6,7,8,9,10,11,0,2] O)).g [1] O⟩
end
theorem abi{P:Prop}(h:P:=by unfold Op.equal;rw[show Op.maxDepth=(Op.maxDepth-1)+1 from rfl,Op.equalIn];simp[run_underlying (kn.desc _ _ ht)]):P:=h
section
variable{P:Program}{T:Wm}{X:Nat->Bool}{C:World->Prop}
theorem RD.ta{t:TypeId}{v:Value}{i:TI}{x:TypeId}{K:Value->Prop}(c:N8 P T X)(b:T t=some i)(a:DM i.desc=true)(k:K v):RD P C (Instr.typeAssert (.iface t v) x t false) K:=by
 refine⟨v,λw _=>?_,k⟩;simp only[Instr.typeAssert,Sem.run_bind,J' c b,Result.andThen_ok]
 revert a
 cases i.desc<;>intro a<;>first|(simp;done)|cases a
end
section
variable{P:Program}{T:Wm}{X:Nat->Bool}
theorem lQ(j:N8 P T X){fn:Func}{c:Code}{a:Act}{e:td}{Lr:Frame}{cs:List Frame}{g:FrameMode}{R:Ending->FrameMode->World->Prop}(hs:ol fn.ntmps a e)(f:a.defers=[])(h:vc P T X fn.ntmps c e w (jN T fn.results.toList λe w'=>R e g w')):c.wpS P (bodyPostS P fn Lr cs R) a ({Lr with mode:=g}::cs) w:=by
 refine wpS_of_wp (wp_mono (gn j c _ w _ _ hs f h) ?_);have k:∀(a:Act)(w':World)(e:td),a.defers=[]->ol fn.ntmps a e->(xw T (λo=>o=w') e fn.results.toList λvs=>R (.returned (vm vs)) g w')->a.defers=[]∧∃u'',({Lr with mode:=g}::cs:List Frame)={Lr with mode:=u''}::cs∧∃v,(results fn a.tmps).run P w'= .ok v w'∧R (.returned v) u'' w':=by intro a w' e f hs b;obtain⟨vs,p,m⟩:=ul j hs _ _ b;exact⟨f,g,rfl,vm vs,Hl p,m⟩
 intro n a w' d;cases n with
 |normal=>obtain⟨f,e,hs,b⟩:=d;exact k a w' e f hs b
 |ret=>obtain⟨f,e,hs,b⟩:=d;exact k a w' e f hs b
 |exit i=>obtain⟨_,_,_,b⟩:=d;exact b.elim
 |goto l=>obtain⟨_,_,_,b⟩:=d;exact b.elim
 |panic c=>exact⟨d.1,g,rfl,d.2 (λ_=>undef)⟩
 |outgrown=>exact d.elim
end
section
variable{C:World->Prop}{t u:TypeId}{ms:Array (String×TypeId)}{i:TypeInfo}{v:Value}{K:Value->Prop}
theorem aex(ht:ty t=some ⟨.interface ms,i⟩)(w:World):(Op.equal t .nilIface .nilIface).run prog w= .ok true w:=by exact abi
theorem aey(ht:ty t=some ⟨.interface ms,i⟩)(w:World):(Op.equal t (.iface u v) .nilIface).run prog w= .ok false w:=by exact abi
theorem RD.neN(a:ty t=some ⟨.interface ms,i⟩)(k:K (.bool false)):RD prog C (Bind.bind (Sem.pure ()) λ_=>binOp .neq t .nilIface .nilIface) K:=by refine⟨.bool false,λw _=>?_,k⟩;have h:=aex a w;have e:(Bind.bind (Sem.pure ()) λ_=>binOp .neq t .nilIface .nilIface:Sem Value)=binOp .neq t .nilIface .nilIface:=rfl;grind[binOp,Sem.run_bind,Result.andThen_ok,Sem.run_pure]
theorem RD.neI(a:ty t=some ⟨.interface ms,i⟩)(k:K (.bool true)):RD prog C (Bind.bind (Sem.pure ()) λ_=>binOp .neq t (.iface u v) .nilIface) K:=by refine⟨.bool true,λw _=>?_,k⟩;have h:=aey (u:=u) (v:=v) a w;have e:(Bind.bind (Sem.pure ()) λ_=>binOp .neq t (.iface u v) .nilIface:Sem Value)=binOp .neq t (.iface u v) .nilIface:=rfl;grind[binOp,Sem.run_bind,Result.andThen_ok,Sem.run_pure]
end
theorem PA(b5:Nat)(v:Value):ol Tryz.f82.ntmps {tmps:= #[Pt b5]++((Array.replicate 10 undef).setIfInBounds 1 v).setIfInBounds 0 v,defers:=[]} (Tm (Tm (lA [Pt b5]) 2 v) 1 v):=by have h:=((cW (fn:=Tryz.f82) (args:=[Pt b5]) (zv O)).put (d:=some 2) Zb3 v).put (d:=some 1) Zb3 v;exact h
theorem NK(b5:Nat)(w:World):CallsD prog 82 #[Pt b5] .returning w λe a w'=>e= .returned (.tuple #[])∧a= .returning∧w'=w:=by
 refine callsD_of_wpS func82 O λLr cs b=>?_;apply wpS_seq;apply wpS_region;simp[wpOpsS,go_sem,recoverD,b,Exit.thenS];have f:Lr={Lr with mode:= .returning}:=by rw[<-b]
 have key:∀(a:FrameMode)(c:Code)(Q:Ending->FrameMode->World->Prop),vc prog ty Ck Tryz.f82.ntmps c (Tm (Tm (lA [Pt b5]) 2 .nilIface) 1 .nilIface) w (jN ty Tryz.f82.results.toList λe w'=>Q e a w')->c.wpS prog (bodyPostS prog Tryz.f82 Lr cs Q) {tmps:= #[Pt b5]++((Array.replicate 10 undef).setIfInBounds 1 .nilIface).setIfInBounds 0 .nilIface,defers:=[]} ({Lr with mode:=a}::cs) w:=λa c Q d=>lQ (Lr:=Lr) kn (PA b5 _) O d;have key:=λc Q=>key .returning c Q;rw[<-f]at key;refine key _ _ (RD.neN O (m5 ⟨rfl,?_,?_⟩))
 ·rfl
 ·rfl
theorem dE{b5:Nat}{ev:Ev}{e:Int}(h:Hp c w (bk b5 [Pt pr] 111::bk pr [I ev.W0,I t,I ev.Z3,I ev.N3,I tx,I ev.op.W0,I ev.op.tx,B8 ev.op.key.a,B8 ev.op.key.b,B8 ev.op.key.x,B8 ev.op.key.y,I ev.op.n,I 0,.bool false,I 0] 42::R)):CallsD prog 82 #[Pt b5] (.panicking (Ir e)) w λx f w'=>x= .returned (.tuple #[])∧f= .panicking [{v:= .iface 207 (.agg #[I e]),recovered:=true}]∧Hp c w' (bk b5 [Pt pr] 111::bk pr [I ev.W0,I t,I ev.Z3,I ev.N3,I tx,I ev.op.W0,I ev.op.tx,B8 ev.op.key.a,B8 ev.op.key.b,B8 ev.op.key.x,B8 ev.op.key.y,I ev.op.n,I e,.bool false,I 0] 42::R):=by refine callsD_of_wpS func82 O λLr cs d=>?_;unfold Ir at d;apply wpS_seq;apply wpS_region;simp[wpOpsS,go_sem,recoverD,d,Exit.thenS];refine lQ (Lr:=Lr) kn (PA b5 _) O (RD.neI O (Q5 (Y6 h [1,0,52,3,4,5,106] λh=>U3 0 O O (RD.ta kn O O ⟨h,J3 h 1 O O O λw h=>⟨rfl,?_,h⟩⟩))));rfl
section
variable{ev:Ev}
theorem aev(h:Hp c w (bk pr (Zk ev t 0 0 X0) 42::G3 b N h0::R))(a:HB (G6 h0) N h0)(p:ng c):Cs (evF ev.W0) #[Pt b,ev.v,Pt pr] w (pA c b (N+1) pr (Zk ev t) R (h0.di ev)):=by
 have up:∀{x:QI×I0}{e:Ending}{w':World},pA c b N pr (Zk ev t) R x e w'->pA c b (N+1) pr (Zk ev t) R x e w':=λh=>pA.up (j' N) h;unfold evF I0.di;by_cases o:ev.W0=1
 ·rw[S1 o,S1 o];exact(ahV h a p).mono λ_ _=>up
 rw[V0 o,V0 o];by_cases n:ev.W0=2
 ·rw[S1 n,S1 n];exact(ahU h a).mono λ_ _=>up
 rw[V0 n,V0 n];by_cases m:ev.W0=3
 ·rw[S1 m,S1 m];exact(ahT h a).mono λ_ _=>up
 rw[V0 m,V0 m];by_cases l:ev.W0=4
 ·rw[S1 l,S1 l];exact(ahS h a p).mono λ_ _=>up
 rw[V0 l,V0 l];by_cases j:ev.W0=5
 ·rw[S1 j,S1 j];exact ahR h a
 rw[V0 j,V0 j];by_cases i:ev.W0=6
 ·rw[S1 i,S1 i];exact(ahQ h a.A6.C0).mono λ_ _=>up
 rw[V0 i,V0 i];by_cases g:ev.W0=7
 ·rw[S1 g,S1 g];exact(ahP h a).mono λ_ _=>up
 rw[V0 g,V0 g];by_cases f:ev.W0=8
 ·rw[S1 f,S1 f];exact(ahO h a).mono λ_ _=>up
 rw[V0 f,V0 f];by_cases d:ev.W0=9
 ·rw[S1 d,S1 (.inl d)];exact(oZ h a).mono λ_ _=>up
 rw[V0 d];by_cases g10:ev.W0=10
 ·rw[S1 g10,S1 (.inr g10)];exact(oZ h a).mono λ_ _=>up
 rw[V0 g10,V0 (show¬(ev.W0=9∨ev.W0=10)from λk=>k.elim d g10)];by_cases g11:ev.W0=11
 ·rw[S1 g11,S1 g11];exact(ahM h a p).mono λ_ _=>up
 rw[V0 g11,V0 g11];by_cases g12:ev.W0=12
 ·rw[S1 g12,S1 g12];exact(ahL h a).mono λ_ _=>up
 rw[V0 g12,V0 g12];exact(ahK h).mono λ_ _=>up
theorem akc(W0:Int):Ck (evF W0)=true:=by
 unfold evF
 repeat' split
 all_goals rfl
theorem kQ{P:Program}{id f d s:Nat}{ty1 ty2:TypeId}{e c:String}{af1 af2:Array Edge}{Q:Exit->Act->World->Prop}{a:Act}{v:Value}(g:d<a.tmps.size)(b:a.eval (.tmp s)=v)(k:Q .normal {tmps:=a.tmps.setIfInBounds d (.func (.func f) #[] #[v]),defers:={target:= .fn (.func f) #[v],args:= #[]}::a.defers} w):
  (Code.region id #[⟨some d,.makeFunc (.func f) #[] #[.tmp s],ty1,e,af1,none⟩,⟨none,.defer ⟨.value (.tmp d),#[],#[]⟩,ty2,c,af2,none⟩] false).wp P Q a w:=by
 apply wp_region;have h:a.tmps[s]?.getD undef=v:=by have:a.eval (.tmp s)=a.tmps.getD s undef:=rfl;rw[this,NE]at b;exact b
 simp[wpOps,go_sem];simp_all[Oper.upon,Act.put]
theorem ald(h:Hp c w (bk pr (Zk ev t 0 0 X0) 42::G3 b N h0::R))(K:HB (G6 h0) N h0)(H:ng c):Cr 50 #[Pt b,ev.v,Pt pr] w c (.tuple #[]) (bk pr (Zk ev t (h0.di ev).1.tx (h0.di ev).1.Ge (h0.di ev).1.val) 42::G3 b (N+1) (h0.di ev).2::R):=by
 refine calls_of_wp_defers func50 O ?_;apply wp_seq;let S:Hh:=λk e w'=>match k with
  | .normal=>∃m b5,e=Tm (Tm (lA [Pt b,ev.v,Pt pr]) 4 (Pt m)) 5 (Pt b5)∧Hp c w' (bk b5 [Pt pr] 111::bk m (Ev.f ev) 47::bk pr (Zk ev t 0 0 X0) 42::G3 b N h0::R)
  |_=>False
 refine wp_mono (gn kn _ (lA [Pt b,ev.v,Pt pr]) w S _ (cW (fn:=Tryz.f50) (zv O)) O ?_) ?_
 ·exact I2 h O λm w h=>I2 h O λb5 w h=>⟨m,b5,rfl,h⟩
 intro k a w' o;cases k with
 |normal=>
  obtain⟨J,e,hs,m,b5,rfl,h⟩:=o;apply wp_seq;have X:a.tmps.size=14:=hs.1;have L:a.eval (.tmp 5)=Pt b5:=by rw[hs.eval];rfl
  have hd0:a.defers=[]:=J;refine kQ (d:=6) (s:=5) m4 L ?_;rw[hd0];have V:ol Tryz.f50.ntmps {tmps:=a.tmps.setIfInBounds 6 (.func (.func 82) #[] #[Pt b5]),defers:=[{target:= .fn (.func 82) #[Pt b5],args:= #[]}]} (Tm (Tm (Tm (lA [Pt b,ev.v,Pt pr]) 4 (Pt m)) 5 (Pt b5)) 6 (.func (.func 82) #[] #[Pt b5])):=by have E:=hs.put (d:=some 6) Zb3 (.func (.func 82) #[] #[Pt b5]);exact⟨E.1,E.2⟩
  have hEv:=λ(w:World)(R:List HP)(h:Hp c w (bk pr (Zk ev t 0 0 X0) 42::G3 b N h0::R))=>aev h K H;let Q:Hh:=λk e w'=>match k with
   | .normal=>Hp c w' (bk b5 [Pt pr] 111::bk pr (Zk ev t (h0.di ev).1.tx (h0.di ev).1.Ge (h0.di ev).1.val) 42::G3 b (N+1) (h0.di ev).2::R)
   | .panic ch=>ch=Ir (h0.di ev).1.Ge∧(h0.di ev).1.val=X0∧Hp c w' (bk b5 [Pt pr] 111::bk pr (Zk ev t (h0.di ev).1.tx 0 X0) 42::G3 b (N+1) (h0.di ev).2::R)
   |_=>False
  refine wp_mono (gn kn _ _ _ Q _ V O ?_) ?_
  ·replace h:Hp c w' (bk b5 [Pt pr] 111::bk m [I ev.W0,I ev.Z3,I ev.N3,I ev.tx,I ev.t8,I ev.Q6,I ev.O8,gb ev.J0,.bool ev.up,.bool ev.uc,I ev.op.W0,I ev.op.tx,B8 ev.op.key.a,B8 ev.op.key.b,B8 ev.op.key.x,B8 ev.op.key.y,I ev.op.n] 47::bk pr (Zk ev t 0 0 X0) 42::G3 b N h0::R):=h;refine Y6 h [0,3,1,4,5,52,106] λh=>U3 1 O O (xg 1 O O (U3 0 O O (N1 (akQ h) λw h=>⟨h,od.by (akc _) (hEv _ _ (h.g [2,3] O)) ?_⟩)));rintro _ w (⟨rfl,h⟩|⟨rfl,u,h⟩)
   ·exact h.q 4 [2,0,1] O
   ·exact λ_=>⟨rfl,u,h.q 4 [2,0,1] O⟩
  have D:∀w:World,(invoke (.fn (.func 82) #[Pt b5]) #[]).run prog w= .ok (.enter 82 #[Pt b5]) w:=λw=>by simp[invoke]
  have F:∀(C:Array Value)(w:World),(results Tryz.f50 C).run prog w= .ok (.tuple #[]) w:=λC w=>Hl (vs:=[]) O;intro k a2 r p;cases k with
  |normal=>obtain⟨A,Y,hs3,z⟩:=p;show Leaves _ _ _ _ a2.defers .returning r;rw[A];refine leaves_cons (f:=82) (args:= #[Pt b5]) Zb3 (D _) ((NK b5 r).mono ?_);rintro e G T ⟨rfl,rfl,rfl⟩;exact⟨_,F _ _,rfl,z.q 3 [1,2] O⟩
  |panic ch=>obtain⟨A,j⟩:=p;obtain⟨rfl,u,z⟩:=j (λ_=>undef);show Leaves _ _ _ _ a2.defers (.panicking _) r;rw[A];refine leaves_cons (f:=82) (args:= #[Pt b5]) Zb3 (D _) ((dE (ev:=ev) (t:=t) (tx:=(h0.di ev).1.tx) (e:=(h0.di ev).1.Ge) z).mono ?_);rintro e G T ⟨rfl,rfl,M⟩;rw[u];exact⟨_,F _ _,rfl,M.q 3 [1,2] O⟩
  |ret=>obtain⟨_,_,_,j⟩:=p;exact j.elim
  |exit i=>obtain⟨_,_,_,j⟩:=p;exact j.elim
  |goto l=>obtain⟨_,_,_,j⟩:=p;exact j.elim
  |outgrown=>exact p.elim
 |ret=>obtain⟨_,_,_,j⟩:=o;exact j.elim
 |exit i=>obtain⟨_,_,_,j⟩:=o;exact j.elim
 |goto l=>obtain⟨_,_,_,j⟩:=o;exact j.elim
 |panic c=>exact(o.2 (λ_=>undef)).elim
 |outgrown=>exact o.elim
end
abbrev Wk.v(r:Wk):Value:= .agg #[I r.W0,I r.zb,I r.Z3,I r.N3,I r.tx,I r.op.W0,I r.op.tx,B8 r.op.key.a,B8 r.op.key.b,B8 r.op.key.x,B8 r.op.key.y,I r.op.n,I r.Ge,.bool r.val.K3,I r.val.n]
section
variable{x9:Wk}{n:Int}
set_option maxHeartbeats 2000000 in
theorem alc(h:Hp c w (G3 b N h0::R))(hn:0<=n)(hN:N<=1000000)(hk:h0.O0.Ok)(Na:n<h0.D0.A0->∃l S0,s6 (h0.U4 n) l S0):Cr 51 #[Pt b,I n,x9.v] w c (.tuple #[]) (G3 b (N+1) h0::R):=by
 obtain⟨⟨⟨A0,K,J⟩,R0,C0,k,D,H,q,m,C,t,r⟩,⟨pk,pl,L,V,cd,T,Q,S,M,Y,cs,sl⟩,rfl,Z,L8,h⟩:=h.C4;simp only at Z L8 h;replace h:Hp c w (bk b [I A0,I K,I J,I R0,I C0,Pt pk,Pt pl,Pt L,.slice V (q.map (·.d)++[m]).length cd,.slice T (q.map S2.pp).length Q,la (t.map (·.1)),.slice S r.length M,.slice Y sl.length cs] 90::K1 pk k::x5 pl D::z6 L H::so 99 am V cd (q.map (·.d)++[m])::so 61 Pg T Q (q.map S2.pp)::so 42 I9 S M r::so 215 jl Y cs sl::rl (sh.mem N) sl::rl (M4 pk N) q::Lf pk m C t::R):=h;have bi:((q.map S2.pp).length:Int)=A0:=by rw[H7];exact Z
 have kK:k.Ok:=hk;have cF:(q.map S2.pp).length=q.length:=H7 ..;have fE:∀{w:World},Hp c w (bk b [I A0,I K,I J,I R0,I C0,Pt pk,Pt pl,Pt L,.slice V (q.map (·.d)++[m]).length cd,.slice T (q.map S2.pp).length Q,la (t.map (·.1)),.slice S r.length M,.slice Y sl.length cs] 90::K1 pk k::x5 pl D::z6 L H::so 99 am V cd (q.map (·.d)++[m])::so 61 Pg T Q (q.map S2.pp)::so 42 I9 S M r::so 215 jl Y cs sl::rl (sh.mem N) sl::rl (M4 pk N) q::Lf pk m C t::R)->Hp c w (G3 b (N+1) (HS.J1 ⟨⟨A0,K,J⟩,R0,C0,k,D,H,q,m,C,t,r⟩)::R):=λ{w}h=>Hp.se (j' N) (Hp.F1 (s:=⟨⟨A0,K,J⟩,R0,C0,k,D,H,q,m,C,t,r⟩) (g:=⟨pk,pl,L,V,cd,T,Q,S,M,Y,cs,sl⟩) O Z L8 h);by_cases g0:n<A0
 case neg=>
  have g1:¬n<(q.map S2.pp).length:=m4
  exact R2 func51 O (I2 h O λb1 w h=>U0 h 1 O O (Te (m5 ⟨rfl,fE (h.q 12 [1,2,3,4,5,6,7,8,9,10,11] O)⟩)))
 case pos=>
  obtain⟨i,hi⟩:∃i:Nat,n=(i:Int):=⟨n.toNat,m4⟩;subst hi;obtain⟨y,G⟩:∃y,i3 q i=some y:=⟨q[i]'m4,by rw[Z0,d8]⟩;have UW:(HS.J1 ⟨⟨A0,K,J⟩,R0,C0,k,D,H,q,m,C,t,r⟩).U4 i=y.x:=HS.Yu (s:=⟨⟨A0,K,J⟩,R0,C0,k,D,H,q,m,C,t,r⟩) G;obtain⟨l,S0,hlg⟩:=Na g0;rw[UW]at hlg;have hxo:=hlg.sj.M6;have mK:i<q.length:=m4
  have hdd:i3 (q.map (·.d)++[m]) (i:Int).toNat=some y.d:=by rw[Z0]at G⊢;rw[kg,Hm (by simpa using mK),We,G];rfl
  have cT:i3 (q.map S2.pp) (i:Int).toNat=some y.pp:=by rw[Z0]at G⊢;rw[kg,We,G];rfl
  have hwl:(i:Int)<(q.map S2.pp).length:=m4
  obtain⟨d,x,o⟩:=y;cases o with
  |none=>replace cT:i3 (q.map S2.pp) (i:Int).toNat=some none:=cT;refine R2 func51 O (I2 h O λb1 w h=>U0 h 1 O O (Zt (U0 h 1 O O (jd h 6 O λb3 o1 U9=>LD.qf h 6 O Zb9 Zb9 O ?_))));exact tg.un O (m5 ⟨rfl,fE (h.q 12 [1,2,3,4,5,6,7,8,9,10,11] O)⟩)
  |some z=>
   obtain⟨pp,p⟩:=z;replace cT:i3 (q.map S2.pp) (i:Int).toNat=some (some pp):=cT;obtain⟨s1,F⟩:∃s1,i3 sl i=some s1:=⟨sl[i]'m4,by rw[Z0,d8]⟩;obtain⟨sa,sc,a⟩:=s1;have anR:(i:Int)<sl.length:=m4
   have hBx:=λ(w:World)(R:List HP)(h:Hp c w (K1 pk k::R))=>GR (p:=(i:Int)) (up:=false) h kK;have hIm:=λ(w:World)(R:List HP)(h:Hp c w (M1 d x::R))=>acS h hxo;replace h:=Hp.rf (h.g [9] O) G;replace h:Hp c w (M1 d x::B7 pk d N pp p::_):=Hp.R6 h;refine R2 func51 O (I2 h O λb1 w h=>U0 h 4 O O (Zt (U0 h 4 O O (jd h 9 O λb3 o1 U9=>LD.qf h 9 O Zb9 Zb9 O ?_))));refine tg.un O (Q5 (Bs h (qs [0,2,4,6,8,9,10,12,14,15,16,18,1,3,5,7,11,17,19,20] (.w2 13 (.w2 21 (qs [22] (ws [23] (vs [24] .done))) 23 (ws [21] (qs [22] (vs [24] .done)))) 23 (ws [13,21] (qs [22] (vs [24] .done))))) λh=>U3 0 O O (U3 0 O O (U3 0 O O (xg 0 O O (U3 4 O O (U3 4 O O (Jc.sl h 8 O Zb5 λb2 o2 Lj=>LD.Km (E:=am) (λ_ h=>h) 8 O Zb9 Zb9 O ⟨?_,?_⟩))))))))
   ·refine ga (hBx _ _ (h.g [5] O)) λa2 c2 w h=>⟨h.q 15 [2,3,4,5,6,1,7,8,9,10,11,12,13,14] O,⟨?_,?_⟩⟩
    ·refine ga (hIm _ _ (h.g [3] O)) λa3 c3 w h=>⟨h.q 16 [4,1,5,6,7,3,8,9,10,11,12,13,14,15] O,I2 h O λb4 w h=>⟨h.q 17 [5,2,6,7,8,4,9,10,11,12,13,14,15,16] O,J3 h 0 O O O λw h=>NX h 17 [8,14] O [0,1,2,4,5,6,7,9,3,8,10,11,62,63,64,15,116] λh=>U3 0 O O (U3 0 O O (jd h 14 O λb5 o3 lh=>LD.Km (E:=jl) (λ_ h=>h) 1 O Zb9 Zb9 O (O4 h 0 O O ⟨h.q 17 [8,14] O,?_⟩)))⟩⟩;refine I2 h O λb6 w h=>⟨h.q 18 [9,15] O,?_⟩;replace h:=Hp.rf (h.g [16] O) F;replace h:Hp _ _ (so 214 cN sa sc a::d6 (a.length<=N)::_):=Hp.R6 h;obtain⟨hsN,h⟩:=(h.g [1] rfl).uf;refine A4.Yb (E:=cN) (u:=(⟨x9.zb,x9.W0,x9.Ge,x9.val.K3,x9.val.n,a2,(k.C8 (i:Int) false).length,c2,a3,(x.P1.flatMap (·.1)).length,c3⟩:SG)) (Ca.of (w9:=88) kn O O O O O O) h 0 O O 2 O O O m4 (λ_ _=>rfl) λa4 e w h=>⟨h.q 19 [11,17] O,jd h 17 O λb7 o7 ha7=>ST.qf (E:=jl) (y:=(⟨a4,e,a++[(⟨x9.zb,x9.W0,x9.Ge,x9.val.K3,x9.val.n,a2,(k.C8 (i:Int) false).length,c2,a3,(x.P1.flatMap (·.1)).length,c3⟩:SG)]⟩:sh)) h 17 O ha7 F O O O O O λw h=>?_⟩;replace h:=Hp.T' (p:=(a++[(⟨x9.zb,x9.W0,x9.Ge,x9.val.K3,x9.val.n,a2,(k.C8 (i:Int) false).length,c2,a3,(x.P1.flatMap (·.1)).length,c3⟩:SG)]).length<=N+1) Zb5 h;replace h:=Hp.ae (f':=sh.mem (N+1)) (λ_ _ _ h=>Hp.GC (j' N) h) _ (h.g [2] O);replace h:Hp _ _ (sh.mem (N+1) ⟨a4,e,a++[(⟨x9.zb,x9.W0,x9.Ge,x9.val.K3,x9.val.n,a2,(k.C8 (i:Int) false).length,c2,a3,(x.P1.flatMap (·.1)).length,c3⟩:SG)]⟩::_):=Hp.C3 (A:=[so 214 cN a4 e (a++[(⟨x9.zb,x9.W0,x9.Ge,x9.val.K3,x9.val.n,a2,(k.C8 (i:Int) false).length,c2,a3,(x.P1.flatMap (·.1)).length,c3⟩:SG)]),d6 ((a++[(⟨x9.zb,x9.W0,x9.Ge,x9.val.K3,x9.val.n,a2,(k.C8 (i:Int) false).length,c2,a3,(x.P1.flatMap (·.1)).length,c3⟩:SG)]).length<=N+1)]) (h.g [2,1] O);replace h:=Hp.Wj h F;replace h:Hp _ _ (M4 pk N ⟨d,x,some (pp,p)⟩::_):=Hp.C3 (A:=[M1 d x,B7 pk d N pp p]) (h.g [4,8,9] O);replace h:=Hp.ij (f:=M4 pk N) h G;replace h:=Hp.ae (f':=M4 pk (N+1)) (λ_ _ _ h=>Hp.Sj (j' N) h) _ h;have e9:sl.length=(sl.set i ⟨a4,e,a++[(⟨x9.zb,x9.W0,x9.Ge,x9.val.K3,x9.val.n,a2,(k.C8 (i:Int) false).length,c2,a3,(x.P1.flatMap (·.1)).length,c3⟩:SG)]⟩).length:=(Uk ..).symm;rw[e9]at h;exact⟨rfl,Hp.F1 (s:=⟨⟨A0,K,J⟩,R0,C0,k,D,H,q,m,C,t,r⟩) (g:=⟨pk,pl,L,V,cd,T,Q,S,M,Y,cs,(sl.set i ⟨a4,e,a++[(⟨x9.zb,x9.W0,x9.Ge,x9.val.K3,x9.val.n,a2,(k.C8 (i:Int) false).length,c2,a3,(x.P1.flatMap (·.1)).length,c3⟩:SG)]⟩)⟩) O Z (by simp only[List.length_set];exact L8) (h.q 16 [8,6,9,10,11,12,13,14,1,0,15] O)⟩
    ·refine I2 h O λb4 w h=>⟨h.q 16 [3,4,5,6,7,2,8,9,10,11,12,13,14,15] O,ga (acS (h.g [4] O) Zb9) λa1 j w h=>⟨h.q 17 [5,1,6,7,8,4,9,10,11,12,13,14,15,16] O,J3 h 2 O O O λw h=>NX h 17 [8,14] O [0,1,2,4,5,6,7,9,3,8,10,11,62,63,64,15,116] λh=>U3 0 O O (U3 0 O O (jd h 14 O λb5 o3 lh=>LD.Km (E:=jl) (λ_ h=>h) 1 O Zb9 Zb9 O (O4 h 2 O O ⟨h.q 17 [8,14] O,?_⟩)))⟩⟩;refine I2 h O λb6 w h=>⟨h.q 18 [9,15] O,?_⟩;replace h:=Hp.rf (h.g [16] O) F;replace h:Hp _ _ (so 214 cN sa sc a::d6 (a.length<=N)::_):=Hp.R6 h;obtain⟨hsN,h⟩:=(h.g [1] rfl).uf;refine A4.Yb (E:=cN) (u:=(⟨x9.zb,x9.W0,x9.Ge,x9.val.K3,x9.val.n,a2,(k.C8 (i:Int) false).length,c2,a1,(x.P1.flatMap (·.1)).length,j⟩:SG)) (Ca.of (w9:=88) kn O O O O O O) h 0 O O 2 O O O m4 (λ_ _=>rfl) λa4 e w h=>⟨h.q 19 [11,17] O,jd h 17 O λb7 o7 ha7=>ST.qf (E:=jl) (y:=(⟨a4,e,a++[(⟨x9.zb,x9.W0,x9.Ge,x9.val.K3,x9.val.n,a2,(k.C8 (i:Int) false).length,c2,a1,(x.P1.flatMap (·.1)).length,j⟩:SG)]⟩:sh)) h 17 O ha7 F O O O O O λw h=>?_⟩;replace h:=Hp.T' (p:=(a++[(⟨x9.zb,x9.W0,x9.Ge,x9.val.K3,x9.val.n,a2,(k.C8 (i:Int) false).length,c2,a1,(x.P1.flatMap (·.1)).length,j⟩:SG)]).length<=N+1) Zb5 h;replace h:=Hp.ae (f':=sh.mem (N+1)) (λ_ _ _ h=>Hp.GC (j' N) h) _ (h.g [2] O);replace h:Hp _ _ (sh.mem (N+1) ⟨a4,e,a++[(⟨x9.zb,x9.W0,x9.Ge,x9.val.K3,x9.val.n,a2,(k.C8 (i:Int) false).length,c2,a1,(x.P1.flatMap (·.1)).length,j⟩:SG)]⟩::_):=Hp.C3 (A:=[so 214 cN a4 e (a++[(⟨x9.zb,x9.W0,x9.Ge,x9.val.K3,x9.val.n,a2,(k.C8 (i:Int) false).length,c2,a1,(x.P1.flatMap (·.1)).length,j⟩:SG)]),d6 ((a++[(⟨x9.zb,x9.W0,x9.Ge,x9.val.K3,x9.val.n,a2,(k.C8 (i:Int) false).length,c2,a1,(x.P1.flatMap (·.1)).length,j⟩:SG)]).length<=N+1)]) (h.g [2,1] O);replace h:=Hp.Wj h F;replace h:Hp _ _ (M4 pk N ⟨d,x,some (pp,p)⟩::_):=Hp.C3 (A:=[M1 d x,B7 pk d N pp p]) (h.g [3,8,9] O);replace h:=Hp.ij (f:=M4 pk N) h G;replace h:=Hp.ae (f':=M4 pk (N+1)) (λ_ _ _ h=>Hp.Sj (j' N) h) _ h;have e9:sl.length=(sl.set i ⟨a4,e,a++[(⟨x9.zb,x9.W0,x9.Ge,x9.val.K3,x9.val.n,a2,(k.C8 (i:Int) false).length,c2,a1,(x.P1.flatMap (·.1)).length,j⟩:SG)]⟩).length:=(Uk ..).symm;rw[e9]at h;exact⟨rfl,Hp.F1 (s:=⟨⟨A0,K,J⟩,R0,C0,k,D,H,q,m,C,t,r⟩) (g:=⟨pk,pl,L,V,cd,T,Q,S,M,Y,cs,(sl.set i ⟨a4,e,a++[(⟨x9.zb,x9.W0,x9.Ge,x9.val.K3,x9.val.n,a2,(k.C8 (i:Int) false).length,c2,a1,(x.P1.flatMap (·.1)).length,j⟩:SG)]⟩)⟩) O Z (by simp only[List.length_set];exact L8) (h.q 16 [8,6,9,10,11,12,13,14,1,0,15] O)⟩
   ·refine I2 h O λb4 w h=>⟨h.q 15 [1,2,3,4,5,6,7,8,9,10,11,12,13,14] O,ga (GR (h.g [6] O) Zb9) λa1 j w h=>⟨h.q 16 [3,4,5,6,7,1,8,9,10,11,12,13,14,15] O,ga (acS (h.g [4] O) Zb9) λa2 X w h=>⟨h.q 17 [5,1,6,7,8,3,9,10,11,12,13,14,15,16] O,J3 h 4 O O O λw h=>NX h 17 [8,14] O [0,1,2,4,5,6,7,9,3,8,10,11,62,63,64,15,116] λh=>U3 0 O O (U3 0 O O (jd h 14 O λb5 o3 lh=>LD.Km (E:=jl) (λ_ h=>h) 1 O Zb9 Zb9 O ?_))⟩⟩⟩;refine O4 h 4 O O ⟨h.q 17 [8,14] O,I2 h O λb6 w h=>⟨h.q 18 [9,15] O,?_⟩⟩;replace h:=Hp.rf (h.g [16] O) F;replace h:Hp _ _ (so 214 cN sa sc a::d6 (a.length<=N)::_):=Hp.R6 h;obtain⟨hsN,h⟩:=(h.g [1] rfl).uf;refine A4.Yb (E:=cN) (u:=(⟨x9.zb,x9.W0,x9.Ge,x9.val.K3,x9.val.n,a1,(k.C8 (i:Int) false).length,j,a2,(x.P1.flatMap (·.1)).length,X⟩:SG)) (Ca.of (w9:=88) kn O O O O O O) h 0 O O 2 O O O m4 (λ_ _=>rfl) λa4 e w h=>⟨h.q 19 [11,17] O,jd h 17 O λb7 o7 ha7=>ST.qf (E:=jl) (y:=(⟨a4,e,a++[(⟨x9.zb,x9.W0,x9.Ge,x9.val.K3,x9.val.n,a1,(k.C8 (i:Int) false).length,j,a2,(x.P1.flatMap (·.1)).length,X⟩:SG)]⟩:sh)) h 17 O ha7 F O O O O O λw h=>?_⟩;replace h:=Hp.T' (p:=(a++[(⟨x9.zb,x9.W0,x9.Ge,x9.val.K3,x9.val.n,a1,(k.C8 (i:Int) false).length,j,a2,(x.P1.flatMap (·.1)).length,X⟩:SG)]).length<=N+1) Zb5 h;replace h:=Hp.ae (f':=sh.mem (N+1)) (λ_ _ _ h=>Hp.GC (j' N) h) _ (h.g [2] O);replace h:Hp _ _ (sh.mem (N+1) ⟨a4,e,a++[(⟨x9.zb,x9.W0,x9.Ge,x9.val.K3,x9.val.n,a1,(k.C8 (i:Int) false).length,j,a2,(x.P1.flatMap (·.1)).length,X⟩:SG)]⟩::_):=Hp.C3 (A:=[so 214 cN a4 e (a++[(⟨x9.zb,x9.W0,x9.Ge,x9.val.K3,x9.val.n,a1,(k.C8 (i:Int) false).length,j,a2,(x.P1.flatMap (·.1)).length,X⟩:SG)]),d6 ((a++[(⟨x9.zb,x9.W0,x9.Ge,x9.val.K3,x9.val.n,a1,(k.C8 (i:Int) false).length,j,a2,(x.P1.flatMap (·.1)).length,X⟩:SG)]).length<=N+1)]) (h.g [2,1] O);replace h:=Hp.Wj h F;replace h:Hp _ _ (M4 pk N ⟨d,x,some (pp,p)⟩::_):=Hp.C3 (A:=[M1 d x,B7 pk d N pp p]) (h.g [3,8,9] O);replace h:=Hp.ij (f:=M4 pk N) h G;replace h:=Hp.ae (f':=M4 pk (N+1)) (λ_ _ _ h=>Hp.Sj (j' N) h) _ h;have e9:sl.length=(sl.set i ⟨a4,e,a++[(⟨x9.zb,x9.W0,x9.Ge,x9.val.K3,x9.val.n,a1,(k.C8 (i:Int) false).length,j,a2,(x.P1.flatMap (·.1)).length,X⟩:SG)]⟩).length:=(Uk ..).symm;rw[e9]at h;exact⟨rfl,Hp.F1 (s:=⟨⟨A0,K,J⟩,R0,C0,k,D,H,q,m,C,t,r⟩) (g:=⟨pk,pl,L,V,cd,T,Q,S,M,Y,cs,(sl.set i ⟨a4,e,a++[(⟨x9.zb,x9.W0,x9.Ge,x9.val.K3,x9.val.n,a1,(k.C8 (i:Int) false).length,j,a2,(x.P1.flatMap (·.1)).length,X⟩:SG)]⟩)⟩) O Z (by simp only[List.length_set];exact L8) (h.q 16 [8,5,9,10,11,12,13,14,1,0,15] O)⟩
end
theorem abh{P:Prop}(h:P:=by replace h:=Hp.F1 (s:=⟨⟨A0,F0,L0⟩,R0,C0,k,li,de,q,dc,xc,oc,fW⟩) (g:=⟨pk,pl,pd,ad,cd,ap,cp,a1,V1,B6,cs,sl⟩) O hq Yz (h.g [1,2,3,4,5,6,7,8,9,10,11] O);refine N1 (aet _ xB.1 _ _ h) λw h=>O4 h 2 O O (J3 h 3 O O O λw h=>O4 h 3 O O ?_);subst dK;exact⟨rfl,h.q 5 [0] O⟩):P:=h
section
variable{ev:Ev}
theorem HB.alC{P:zf}(a:HB P N h0):0<=h0.C0:=a.A6.C0
set_option maxHeartbeats 4000000 in
theorem alr(h:Hp c w (G3 b N h0::R))(z:HB (G6 h0) N h0)(EB:∀m,m=(h0.di ev).2->m.O0.Ok∧m.D0=h0.D0∧(∀n:Int,0<=n->n<=m.D0.A0->∃l S0,s6 (m.U4 n) l S0)∧m.M3=h0.M3)(hr:h0.M3.length<=N)(G:(h0.di ev).1.tx=0∨ev.W0≠2∨0<=ev.N3)(Z:ev.W0=11->(h0.di ev).1.Ge=0->0<=ev.N3)(hl:ng c)(hN2:N<=900000):Cr 13 #[Pt b,ev.v] w c (h0.da ev).1.v (G3 b (N+2) (h0.da ev).2::R):=by
 have iK:=z.alC;have hN:=z.n;have Gi:=z.D0.A0;obtain⟨t,J⟩:∃t,h0.C0=t:=⟨_,rfl⟩;have hDn:=λ(w:World)(pr:Nat)(R:List HP)(h:Hp c w (bk pr (Zk ev t 0 0 X0) 42::G3 b N h0::R))=>ald h z hl;obtain⟨⟨⟨j,tx,f⟩,H⟩,C⟩:∃V,h0.di ev=V:=⟨_,rfl⟩;rw[C]at hDn G Z;simp only at hDn G Z;obtain⟨q1,q2,q3,q4⟩:=EB H (by rw[C]);have S:h0.da ev=(⟨ev.W0,t,ev.Z3,ev.N3,tx,ev.op,j,f⟩,{H with M3:=H.M3++[⟨ev.W0,t,ev.Z3,ev.N3,tx,ev.op,j,f⟩]}):=by unfold I0.da;rw[C,J]
 rw[S];clear S;refine R2 func13 O (I2 h O λb1 w h=>I2 h O λb2 w h=>?_);obtain⟨s,g,hs,hsq,L8,h⟩:=(h.g [2] rfl).C4;have NW:s.C0=t:=by rw[<-J,hs];rfl
 refine Y6 h [0,2,3,4,6,8,10,1,5,7,9,11,12,63,114] λh=>U3 12 O O (U3 0 O O (U3 12 O O (U3 12 O O (xg 12 O O (I2 h O λX w h=>⟨h.q 14 [1,2,3,4,5,6,7,8,9,10,11,12,13] O,J3 h 0 O O O λw h=>O4 h 13 O O ?_⟩)))));replace h:=Hp.F1 hs hsq L8 (h.g [1,2,3,4,5,6,7,8,9,10,11] O);replace h:Hp _ _ (bk X (Zk ev s.C0 0 0 X0) 42::_):=h.g [1] O;rw[NW]at h;refine N1 (hDn _ _ _ h) λw h=>?_;obtain⟨⟨⟨A0,F0,L0⟩,R0,C0,k,li,de,q,dc,xc,oc,i⟩,⟨pk,pl,pd,ad,cd,ap,cp,Y,T,B6,cs,sl⟩,hHe,hq,Yz,L⟩:=(h.g [1] rfl).C4;clear hDn h;subst hHe;have h:Hp _ _ (bk b [I A0,I F0,I L0,I R0,I C0,Pt pk,Pt pl,Pt pd,.slice ad (q.map (·.d)++[dc]).length cd,.slice ap (q.map S2.pp).length cp,la (oc.map (·.1)),.slice Y i.length T,.slice B6 sl.length cs] 90::K1 pk k::x5 pl li::z6 pd de::so 99 am ad cd (q.map (·.d)++[dc])::so 61 Pg ap cp (q.map S2.pp)::so 42 I9 Y T i::so 215 jl B6 cs sl::rl (sh.mem (N+1)) sl::rl (M4 pk (N+1)) q::Lf pk dc xc oc::bk X [I ev.W0,I t,I ev.Z3,I ev.N3,I tx,I ev.op.W0,I ev.op.tx,B8 ev.op.key.a,B8 ev.op.key.b,B8 ev.op.key.x,B8 ev.op.key.y,I ev.op.n,I j,.bool f.K3,I f.n] 42::_):=L;clear L;simp only at hq Yz;have vB:i.length<=N:=by have:i=h0.M3:=q4;rw[this];exact hr
 refine Y6 h [0,1,2,3,4,55,56,107,8,9,110] λh=>U3 0 O O (O4 h 11 O O ⟨h,I2 h O λb4 w h=>⟨h.q 15 [1,2,3,4,5,6,7,8,9,10,11,12,13,14] O,A4.Yb (u:=(⟨ev.W0,t,ev.Z3,ev.N3,tx,ev.op,j,f⟩:Wk)) (Ca.of (w9:=96) kn O O O O O O) h 7 O O 0 O O O m4 (λ_ _=>rfl) λa1 V1 w h=>?_⟩⟩);obtain⟨fW,dK⟩:∃fW,i++[(⟨ev.W0,t,ev.Z3,ev.N3,tx,ev.op,j,f⟩:Wk)]=fW:=⟨_,rfl⟩;have Q:{HS.J1 ⟨⟨A0,F0,L0⟩,R0,C0,k,li,de,q,dc,xc,oc,i⟩with M3:=(HS.J1 ⟨⟨A0,F0,L0⟩,R0,C0,k,li,de,q,dc,xc,oc,i⟩).M3++[⟨ev.W0,t,ev.Z3,ev.N3,tx,ev.op,j,f⟩]}=HS.J1 ⟨⟨A0,F0,L0⟩,R0,C0,k,li,de,q,dc,xc,oc,fW⟩:=by rw[<-dK];rfl
 rw[Q];clear Q;rw[dK]at h⊢;refine ST.lit h 1 O O O O (l':=[I A0,I F0,I L0,I R0,I C0,Pt pk,Pt pl,Pt pd,.slice ad (q.map (·.d)++[dc]).length cd,.slice ap (q.map S2.pp).length cp,la (oc.map (·.1)),.slice a1 fW.length V1,.slice B6 sl.length cs]) O O λw h=>?_;have aet:=λ(n:Int)(K:0<=n)(w:World)(R:List HP)(h:Hp c w (G3 b (N+1) (HS.J1 ⟨⟨A0,F0,L0⟩,R0,C0,k,li,de,q,dc,xc,oc,fW⟩)::R))=>alc (x9:=⟨ev.W0,t,ev.Z3,ev.N3,tx,ev.op,j,f⟩) h K m4 q1 (λqd=>q3 n K (Int.le_of_lt qd));have E:∀{w:World},Hp c w (G3 b (N+1) (HS.J1 ⟨⟨A0,F0,L0⟩,R0,C0,k,li,de,q,dc,xc,oc,fW⟩)::R)->Hp c w (G3 b (N+2) (HS.J1 ⟨⟨A0,F0,L0⟩,R0,C0,k,li,de,q,dc,xc,oc,fW⟩)::R):=λ{w}h=>Hp.se (j' (N+1)) h;by_cases A:ev.W0=5∨ev.W0=12
 ·have iT:A0=h0.D0.A0:=V4 (·.A0) q2;have xB:=Zg (p:=⟨A0,F0,L0⟩) (t:=t) Zb1 m4;replace xB:0<=ce A0 t∧ce A0 t<=A0:=xB;have MI:=λ(w:World)(R:List HP)(h:Hp c w R)=>HF (p:=A0) (wd:=F0) (d:=L0) (t:=t) h m4;rcases A with o|o
  ·refine U0 h 14 O O (BR.QT o (BR.QT o (Y6 h [0,1,2,3,5,4,6,8,57,109] λh=>xg 1 O O (U3 12 O O (xg 12 O O (N1 (MI _ _ h) λw h=>⟨h,?_⟩))))));exact abh
  ·have F:¬ev.W0=5:=m4
   refine U0 h 14 O O (BR.eqN F (U0 h 14 O O (BR.QT o (Y6 h [0,1,2,3,5,4,6,8,57,109] λh=>xg 1 O O (U3 12 O O (xg 12 O O (N1 (MI _ _ h) λw h=>⟨h,?_⟩)))))));exact abh
 ·have o:¬ev.W0=5:=λe=>A (.inl e);have F:¬ev.W0=12:=λe=>A (.inr e);replace h:=Hp.F1 (s:=⟨⟨A0,F0,L0⟩,R0,C0,k,li,de,q,dc,xc,oc,fW⟩) (g:=⟨pk,pl,pd,ad,cd,ap,cp,a1,V1,B6,cs,sl⟩) O hq Yz (h.g [1,2,3,4,5,6,7,8,9,10,11] O);refine U0 h 4 O O (Wa (U0 h 4 O O (Wa (U0 h 4 O O (BR.eq (λD=>?_) λD=>?_)))))
  ·refine U0 h 2 O O (BR.ne (λr=>?_) λr=>?_)
   ·refine xq (U0 h 4 O O (O4 h 2 O O (N1 (aet ev.N3 m4 _ _ h) λw h=>O4 h 2 O O (J3 h 3 O O O λw h=>O4 h 3 O O ?_))));simp only[D,r,if_true,if_false,ite_true,ite_false,or_self,or_true,true_or,or_false,false_or,and_self,and_true,true_and,and_false,false_and,not_true_eq_false,not_false_eq_true,Bool.not_true,Bool.not_false,Bool.false_eq_true,reduceCtorEq,↓reduceIte]at dK;subst dK;exact⟨rfl,h.q 5 [0] O⟩
   ·exact U0 h 4 O O (Wa (m5 (O4 h 2 O O (J3 h 3 O O O λw h=>O4 h 3 O O ⟨rfl,E (h.q 5 [0] O)⟩))))
  ·refine m5 (U0 h 4 O O (BR.eq (λr=>?_) λr=>?_))
   ·refine U0 h 2 O O (BR.eq (λM=>?_) λM=>?_)
    ·refine U0 h 4 O O (O4 h 2 O O (N1 (aet ev.N3 m4 _ _ h) λw h=>O4 h 2 O O (J3 h 3 O O O λw h=>O4 h 3 O O ?_)));simp only[D,r,M,if_true,if_false,ite_true,ite_false,or_self,or_true,true_or,or_false,false_or,and_self,and_true,true_and,and_false,false_and,not_true_eq_false,not_false_eq_true,Bool.not_true,Bool.not_false,Bool.false_eq_true,reduceCtorEq,↓reduceIte]at dK;subst dK;exact⟨rfl,h.q 5 [0] O⟩
    ·exact O4 h 2 O O (J3 h 3 O O O λw h=>O4 h 3 O O ⟨rfl,E (h.q 5 [0] O)⟩)
   ·exact m5 (O4 h 2 O O (J3 h 3 O O O λw h=>O4 h 3 O O ⟨rfl,E (h.q 5 [0] O)⟩))
end
theorem PX.adi{m:Nat}{x:PW}(h:PX n m x)(J:m<=900000)(C0:Int){I:J2->Prop}(C:I x.O0)(w:∀k,I k->I (k.J6 x.E0.me x.E0.me 0 C0).2.2)(hs:∀k q,I k->I (k.Z6 x.E0.me k.D0.A0 q C0).2):I (x.run C0).2.O0:=by
 by_cases A:x.O0.D0.K6 C0=x.E0.me
 ·obtain⟨a,u⟩:∃a:List (Int×Nat),x.E0.B0.map (·.1)=a.map (·.1):=⟨x.E0.B0.map λr=>(r.1,0),Zb3⟩;have f:=h.Q9 C0;obtain⟨X1,c⟩:∃X1:PW,X1={x with E0:={x.E0 with U1:=(x.E0.U1.Q9 C0).2}}:=⟨_,rfl⟩;rw[<-c]at f;have G:X1.E0.B0.map (·.1)=a.map (·.1):=by rw[c];exact u
  obtain⟨D,o,l,j⟩:=gy C0 (d9 a) f (λy d=>by grind[Ao]);obtain⟨X2,hX2⟩:∃X2,fo (f1 C0) X1 (d9 a)=X2:=⟨_,rfl⟩;rw[hX2]at D o l j;obtain⟨z,g⟩:∃z,X2.O0.J6 X2.E0.me X2.E0.me 0 C0=z:=⟨_,rfl⟩;have amd:X2.E0.me=x.E0.me:=by rw[o,c]
  have N:I z.2.2:=by rw[<-g,amd];refine w _ ?_;rw[j,c];exact C
  obtain⟨y,d⟩:∃y,(if z.2.1=0 then PW.take {X2 with O0:=z.2.2} z.1 C0 else(0,{X2 with O0:=z.2.2}))=y:=⟨_,rfl⟩;have H:∀(X:PW)(q:P9),X.E0.me=x.E0.me->I X.O0->I (X.take q C0).2.O0:=by
   intro X q i b;have snd:∀(Y:PW)(q:P9),Y.E0.me=x.E0.me->I Y.O0->I (Y.O0.Z6 Y.E0.me Y.O0.D0.A0 q C0).2:=λY q K b=>Zb6
   unfold PW.take;split
   ·exact b
   ·split
    ·exact b
    ·split
     ·split
      ·simp only;split
       ·simp_all[Gb]
       ·refine snd _ _ ((Gb X q.tx _ _).2.trans i) ?_;simp_all[Gb]
      ·exact snd _ _ i b
     ·exact b
  have t:I y.2.O0∧y.2.E0.me=x.E0.me∧y.2.E0.B0.map (·.1)=X2.E0.B0.map (·.1):=by
   rw[<-d];split
   ·grind[XC,CA]
   ·simp[*]
  have e:=rJ (X:=x) u A c f hX2 g O d;have hky:y.2.E0.B0.map (·.1)=a.map (·.1):=t.2.2.trans (l.trans G);rw[fy (f2 C0) y.2 hky]at e;rw[e];simp only;obtain⟨s,F,_⟩:=t;generalize y.2=Y at s F;clear e hky d;generalize d9 a=L;induction L generalizing Y with
  |nil=>exact s
  |cons p L v=>
   have E:fo (f2 C0) Y (p::L)=fo (f2 C0) (f2 C0 Y p.1 ((K0 Y.E0.B0 p.1).getD Cb)) L:=rfl;rw[E];have M:∀q,I (Y.O0.Z6 Y.E0.me Y.O0.D0.A0 q C0).2:=λq=>Zb6
   refine v _ ?_ ?_
   ·grind[f2,PW.jb,PW.Z6]
   grind[f2,PW.jb,PW.Z6]
 simp_all[PW.run]
theorem foldl_keeps{b α:Type}{J:b->Prop}{f:b->α->b}(c:∀s a,J s->J (f s a)):∀(l:List α)(s:b),J s->J (l.foldl f s)
 |[],_,h=>h
 |a::l,s,h=>foldl_keeps c l (f s a) (c s a h)
theorem CW.adi{x:CW}(C0:Int){I:J2->Prop}(b:I x.O0)(e:∀k g,I k->I {k with R4:=g})(j:∀k p,I k->I (k.J6 k.D0.A0 p 0 C0).2.2)(hs:∀k p q,I k->I (k.Z6 k.D0.A0 p q C0).2):I (x.run C0).2.O0:=by
 have f:∀(X:CW)(r:T4)(m:P9),I X.O0->I (X.z7 r m C0).O0:=by intro X r m h;obtain⟨⟨l,B0⟩,k,d⟩:=X;rw[QC];exact hs k m.E0 ⟨5,m.E0,m.tx,0⟩ h
 have i:∀(X:CW)(m:P9),I X.O0->I (X.take m C0).O0:=by
  intro X m h;unfold CW.take;split
  ·exact h
  ·split
   ·exact h
   ·split
    ·simp[*]
    ·split
     ·split<;>exact h
     ·split
      ·unfold CW.done;simp only;split<;>exact h
      ·exact h
 have n:∀(X:CW)(tx:Int)(r:T4),I X.O0->I (X.decide tx r).O0:=by intro X tx r h;obtain⟨⟨l,B0⟩,k,d⟩:=X;rw[Fy];exact e _ _ h
 have c:∀(X:CW)(p:Int),I X.O0->I (X.ka p C0).O0:=by
  intro X p h;unfold CW.ka Y8;refine foldl_keeps (J:=λ(X:CW)=>I X.O0) ?_ _ _ h;intro s a h;simp only;split
  ·exact h
  ·grind[CW.Z6]
 unfold CW.run;simp only;split
 ·exact b
 ·unfold m6;refine foldl_keeps (J:=λ(X:CW)=>I X.O0) (λs a h=>c _ _ h) _ _ ?_;unfold Y8;refine foldl_keeps (J:=λ(X:CW)=>I X.O0) ?_ _ _ ?_
  ·grind
  ·refine foldl_keeps (J:=λ(X:CW)=>I X.O0) ?_ _ _ b;grind
def mg(S:End->Prop)(k:J2):Prop:=∀e x,K0 k.ways e=some x->S e∨x.r9=[]
section
variable{S:End->Prop}
theorem mg.set(h:mg S k){e:End}{w:Way}(b:S e∨w.r9=[]):mg S {k with ways:=R1 k.ways e w}:=by
 intro j x a;have a:K0 (R1 k.ways e w) j=some x:=a;by_cases g:j=e
 ·simp_all[G1]
 ·rw[Y0 g]at a;exact h _ _ a
theorem mg.J6(h:mg S k)(N3 p i C0:Int):mg S (k.J6 N3 p i C0).2.2:=by
 unfold J2.J6;split
 ·exact h
 ·rename_i w a;split
  ·exact h
  ·split
   ·exact h
   ·exact h.set (w:={w with box:=(w.box.take (k.Ro N3) 0#64 i).2.2}) (by have:=h _ _ a;exact this)
theorem mg.Z6(h:mg S k){N3 to:Int}{m:P9}(a:S (if k.Ia N3 then⟨to,0⟩else⟨N3,1⟩)):mg S (k.Z6 N3 to m C0).2:=by grind[J2.Z6,set]
theorem mg.Za(h:mg S k)(p:Int)(up:Bool):mg (λe=>S e∧¬e=⟨p,Ec up⟩) (k.Za p up).2:=by
 intro j x a;by_cases g:j=⟨p,Ec up⟩
 ·subst g;right;unfold J2.Za at a;split at a
  ·simp_all
  ·have a:K0 (R1 k.ways ⟨p,Ec up⟩ _) ⟨p,Ec up⟩=some x:=a;grind[G1]
 ·unfold J2.Za at a;split at a
  ·rcases h _ _ a with b|b<;>grind
  ·have a:K0 (R1 k.ways ⟨p,Ec up⟩ _) j=some x:=a;rw[Y0 g]at a;rcases h _ _ a with b|b<;>grind
theorem mg.imp{S':End->Prop}(h:mg S k)(b:∀e,S e->S' e):mg S' k:=λe x a=>(h e x a).imp (b e) id
end
theorem KB.ait(h:KB 0 k):mg (λ_=>False) k:=λe x a=> .inr (List.length_eq_zero_iff.1 (Nat.le_zero.1 (h.r9 e x a)))
theorem mg.kb{m:Nat}(h:mg (λ_=>False) k)(a:KB m k):KB 0 k:=⟨a.ok,λe x b=>by rcases h e x b with c|c<;>grind,a.room⟩
theorem iW{x:PW}(h:PX n 0 x)(C0:Int)(i:0<=x.E0.me∧x.E0.me<x.O0.D0.A0):KB 0 ((x.run C0).2.O0.Za x.E0.me true).2:=by
 have d:mg (λe=>e=⟨x.E0.me,1⟩) (x.run C0).2.O0∧(x.run C0).2.O0.D0=x.O0.D0:=by
  refine h.adi m4 C0 (I:=λk=>mg (λe=>e=⟨x.E0.me,1⟩) k∧k.D0=x.O0.D0) ⟨h.kb.ait.imp λ_ h=>h.elim,rfl⟩ ?_ ?_
  ·rintro k ⟨g,b⟩;simp_all[mg.J6,Df]
  ·rintro k q ⟨g,b⟩;grind[mg.Z6,Bf,J2.Ia]
 obtain⟨f,_⟩:=h.dG m4 C0;have c:=d.1.Za x.E0.me true;exact(c.imp λe a=>a.2 a.1).kb (f.kb.Za m4 _ _)
theorem iB{n:Int}{z:J2×O6}(h:mg (λe=>e.dir=0) z.1):∀i:Nat,mg (λe=>e.dir=0∧¬(0<=e.E0∧e.E0<(i:Int))) (xa n n z i).1
 |0=>h.imp λe a=>⟨a,m4⟩
 |i+1=>by
  rw[Ub];unfold passS;rw[S1 O];refine((iB h i).Za (i:Int) false).imp λe a=>⟨a.1.1,λc=>?_⟩;have g:=a.1.2;have f:=a.2;obtain⟨p,d⟩:=e;simp only at g c;have hp:p=(i:Int):=m4
  have b:d=0:=a.1.1;exact f (by rw[hp,b];rfl)
theorem BX{P:zf}{x:CW}(h:CX P 0 x)(C0:Int)(a:O6):KB 0 (xa x.O0.D0.A0 x.O0.D0.A0 ((x.run C0).2.O0,a) x.O0.D0.A0.toNat).1:=by
 have j:mg (λe=>e.dir=0) (x.run C0).2.O0∧(x.run C0).2.O0.D0=x.O0.D0:=by
  refine CW.adi C0 (I:=λk=>mg (λe=>e.dir=0) k∧k.D0=x.O0.D0) ⟨h.kb.ait.imp λ_ h=>h.elim,rfl⟩ (λk g b=>b) ?_ ?_
  ·rintro k p ⟨t,l⟩;simp_all[mg.J6,Df]
  ·rintro k p q ⟨t,l⟩;simp_all[mg.Z6,Bf,J2.Ia]
 have b:=(h.dG m4 C0).1.kb;have hpk:∀i:Nat,KB 18006 (xa x.O0.D0.A0 x.O0.D0.A0 ((x.run C0).2.O0,a) i).1∧(xa x.O0.D0.A0 x.O0.D0.A0 ((x.run C0).2.O0,a) i).1.D0=x.O0.D0:=by
  intro i;induction i with
  |zero=>
   have u:KB 18006 (x.run C0).2.O0:=by simpa using b
   exact⟨u,j.2⟩
  |succ i d=>
   rw[Ub];unfold passS;rw[S1 O];refine⟨d.1.Za m4 _ _,?_⟩;have o:∀(k:J2)(p:Int)(up:Bool),(k.Za p up).2.D0=k.D0:=by intro k p up;unfold J2.Za;split<;>rfl
   exact(o _ _ _).trans d.2
 obtain⟨c,v⟩:=hpk x.O0.D0.A0.toNat;have s:=iB (n:=x.O0.D0.A0) (z:=((x.run C0).2.O0,a)) j.1 x.O0.D0.A0.toNat;refine mg.kb (m:=18006) (λe w f=>?_) c;rcases s e w f with r|r
 ·have y:=(c.ok.w e w f).1;grind
 grind
structure HX(N:Nat)(h:I0):Prop where
 D0:F8 h.D0.A0 h.D0.F0 h.D0.L0
 Qa:h.O0.D0=h.D0
 kb:KB 0 h.O0
 S8:∀p up l,K0 h.p6.S8 ⟨p,up⟩=some l->l.length<=16∧0<=p∧p<h.D0.A0
 P2:h.P2.Ok
 Dt:∀e∈h.P2.P0,¬e.J0=0#16
 A0:∀(n:Nat)(p:d4),h.G5 n=some p->SS (17000+16*N) p.U1∧p.B0.length<=8+h.P2.P0.length
 O1:∀C:D8,h.O1=some C->C.B0.length<=2048+h.P2.P0.length∧∀tx r,K0 C.B0 tx=some r->¬r.J0=0#16
theorem HB.hx{P:zf}(a:HB P N h):HX N h:=⟨a.D0,a.Qa,a.kb,a.S8,a.P2,a.Dt,a.A0,a.O1⟩
theorem HX.hb{P:zf}(a:HX N h)(c:Inv P h)(b:N<=1000000):HB P N h:=⟨c,b,a.D0,a.Qa,a.kb,a.S8,a.P2,a.Dt,a.A0,a.O1⟩
section
variable{P:zf}{M:Nat}
theorem HX.up(a:HX N h)(c:N<=M):HX M h:=⟨a.D0,a.Qa,a.kb,a.S8,a.P2,a.Dt,λn p b=>⟨(a.A0 n p b).1.up m4,(a.A0 n p b).2⟩,a.O1⟩
theorem ey{j:Nat}{o:Option d4}{p:d4}(a:I0.G5 {h with A0:=h.A0.set n o} (j:Int)=some p):(n=j∧o=some p)∨h.G5 (j:Int)=some p:=by
 have a:(h.A0.set n o).getD (j:Int).toNat none=some p:=a;rw[Sd]at a;split at a
 ·simp[*]
 ·exact .inr a
theorem HX.qg(a:HX N h)(i:N<=M){o:Option d4}{d:List U2}(c:KB 0 k)(f:k.D0=h.O0.D0)(g:∀p,o=some p->SS (17000+16*M) p.U1∧p.B0.length<=8+h.P2.P0.length):HX M {h with A0:=h.A0.set n o,O0:=k,s7:=d}:=by refine⟨a.D0,f.trans a.Qa,c,a.S8,a.P2,a.Dt,λj p b=>?_,a.O1⟩;rcases ey (h:=h) b with⟨_,e⟩|e<;>grind[A0,up]
theorem HX.G7(a:HX N h){o:Option D8}{d:List U2}(c:KB 0 k)(e:k.D0=h.O0.D0)(b:∀C,o=some C->C.B0.length<=2048+h.P2.P0.length∧∀tx r,K0 C.B0 tx=some r->¬r.J0=0#16):HX N {h with O1:=o,O0:=k,s7:=d}:=
 ⟨a.D0,e.trans a.Qa,c,a.S8,a.P2,a.Dt,a.A0,b⟩
theorem HX.KM(a:HX N h)(b:KB 0 k)(c:k.D0=h.O0.D0):HX N {h with O0:=k}:=⟨a.D0,c.trans a.Qa,b,a.S8,a.P2,a.Dt,a.A0,a.O1⟩
theorem HX.Qu(a:HX N h){l:O6}(c:∀p up b,K0 l.S8 ⟨p,up⟩=some b->b.length<=16∧0<=p∧p<h.D0.A0):HX N {h with p6:=l}:=⟨a.D0,a.Qa,a.kb,c,a.P2,a.Dt,a.A0,a.O1⟩
theorem Yq{n:Int}(f:I0->Int->I0)(b:∀(h:I0)(p:Int),f h p={h with O0:=(passS A0 n p (h.O0,h.p6)).1,p6:=(passS A0 n p (h.O0,h.p6)).2})(h:I0)(i:Nat):m6 (i:Int) f h={h with O0:=(xa A0 n (h.O0,h.p6) i).1,p6:=(xa A0 n (h.O0,h.p6) i).2}:=by
 unfold m6;rw[kg];induction i with
 |zero=>rfl
 |succ i a=>simp_all[List.range_succ,Ub]
theorem Rp{Q:Int->Bool->Prop}{A0 n:Int}{z:J2×O6}(c:∀p up b,K0 z.2.S8 ⟨p,up⟩=some b->b.length<=16∧Q p up):∀i:Nat,∀p up b,K0 (xa A0 n z i).2.S8 ⟨p,up⟩=some b->b.length<=16∧Q p up
 |0=>c
 |i+1=>by
  have a:=Rp (A0:=A0) (n:=n) c i;rw[Ub];unfold passS;split
  ·exact Uw a
  ·split
   ·exact Uw a
   ·exact a
theorem Qp{A0 n:Int}{z:J2×O6}:∀i:Nat,(xa A0 n z i).1.D0=z.1.D0
 |0=>rfl
 |i+1=>by
  have b:∀(k:J2)(p:Int)(up:Bool),(k.Za p up).2.D0=k.D0:=by intro k p up;unfold J2.Za;split<;>rfl
  have a:=Qp (A0:=A0) (n:=n) (z:=z) i;rw[Ub];unfold passS;split
  ·exact(b _ _ _).trans a
  ·split
   ·exact(b _ _ _).trans a
   ·exact a
theorem jB{A0:Int}{n:Nat}(a:¬(n:Int)=A0){z:J2×O6}:∀i:Nat,xa A0 n z i=if n<i then ik true n z else z
 |0=>rfl
 |i+1=>by rw[Ub,jB a i];unfold passS<;>grind
theorem HB.afg(a:HB P N h):HX (N+1) h.vj.2:=by
 have hx:=a.hx;have L:=a.A6.D0;have hnp:=a.A6.Ae;have R:=a.A6.pp;have w:=hx.Qa;have H:=a.n;unfold I0.vj;simp only;split
 ·rename_i J;cases r:h.O1 with
  |none=>grind[HX.up]
  |some C=>
   simp only;have c:=a.cx r;obtain⟨i,s,g⟩:=c.dG m4 h.C0;have b:=BX c h.C0 h.p6;rw[Yq (A0:=h.D0.A0) (n:=h.D0.A0) (λ(h:I0)(p:Int)=>h.pass p false) (λz p=>by unfold passS;rw[S1 O];rfl) (h.G7 ((h.cw C).run h.C0).2) h.A0.length];have u:h.O0.D0.A0=h.D0.A0:=by rw[w]
   have v:(⟨C,h.O0,h.U4 h.D0.A0⟩:CW).O0.D0.A0=h.D0.A0:=u;have D:(⟨C,h.O0,h.U4 h.D0.A0⟩:CW).O0.D0.A0.toNat=h.A0.length:=by rw[v];omega
   rw[D,v]at b;have E:((h.cw C).run h.C0).2.O1.B0.length=C.B0.length:=by have:=V4 List.length g;rw[H7,H7]at this;exact this
   have y:=hx.O1 C r;refine(HX.Qu (HX.G7 (o:=some ((h.cw C).run h.C0).2.O1) (d:=h.s7.set h.D0.A0.toNat ((h.cw C).run h.C0).2.M6) hx b ?_ (λS m=>?_)) (l:=(xa h.D0.A0 h.D0.A0 (((h.cw C).run h.C0).2.O0,h.p6) h.A0.length).2) ?_).up m4
   ·exact(Qp _).trans s
   ·injection m with m;subst m;exact⟨m4,i.Pu⟩
   ·exact Rp (Q:=λp _=>0<=p∧p<h.D0.A0) hx.S8 _
 ·rename_i q;cases f:h.G5 (h.D0.K6 h.C0)with
  |none=>grind[HX.up]
  |some p=>
   simp only;have K:=Zg (p:=h.D0) (t:=h.C0) m4 a.A6.C0;obtain⟨n,x⟩:∃n:Nat,h.D0.K6 h.C0=n:=⟨(h.D0.K6 h.C0).toNat,m4⟩;rw[x]at f q⊢;obtain⟨c,F⟩:=a.px (n:=n) m4 f;obtain⟨i,s,g,A⟩:=c.dG m4 h.C0;have u:h.O0.D0.A0=h.D0.A0:=by rw[w]
   have b:=iW c h.C0 Zb1;have b:KB 0 (((h.pw n p).run h.C0).2.O0.Za (n:Int) true).2:=by have e:(⟨p,h.O0,h.U4 n⟩:PW).E0.me=(n:Int):=F;rw[e]at b;exact b
   rw[Yq (A0:=h.D0.A0) (n:=(n:Int)) (λ(h:I0)(p:Int)=>if(n:Int)=p then h.pass p true else h) (λz p=>by
    unfold passS;rw[V0 q];by_cases e:(n:Int)=p
    ·rw[S1 e,S1 e];rfl
    simp[*]) (h.qg (n:Int) ((h.pw n p).run h.C0).2) h.A0.length]
   have E:((h.pw n p).run h.C0).2.E0.B0.length=p.B0.length:=by have:=V4 List.length A;rw[H7,H7]at this;exact this
   have y:=hx.A0 n p f;have alY:xa h.D0.A0 n (((h.pw n p).run h.C0).2.O0,h.p6) h.A0.length=ik true n (((h.pw n p).run h.C0).2.O0,h.p6):=by rw[jB q,S1 m4]
   refine HX.Qu (HX.qg (M:=N+1) (n:=n) (o:=some ((h.pw n p).run h.C0).2.E0) (d:=h.s7.set n ((h.pw n p).run h.C0).2.M6) (k:=(xa h.D0.A0 n (((h.pw n p).run h.C0).2.O0,h.p6) h.A0.length).1) hx m4 ?_ ?_ (λG j=>?_)) (l:=(xa h.D0.A0 n (((h.pw n p).run h.C0).2.O0,h.p6) h.A0.length).2) ?_
   ·rw[alY];exact b
   ·exact(Qp _).trans g
   ·injection j with j;subst j;exact⟨i.ss.up m4,m4⟩
   ·exact Rp (Q:=λp _=>0<=p∧p<h.D0.A0) hx.S8 _
theorem SS.V2{p:d4}(hs:SS n p.U1)(tx:Int)(J0:BitVec 16)(b C0:Int):SS n (p.V2 tx J0 b C0).2.U1∧(p.V2 tx J0 b C0).2.B0.length<=p.B0.length+1:=by
 unfold d4.V2;split
 ·simp[*]
 grind[qh,I1]
theorem Oi{B0:List (Int×T4)}{r:T4}(b:∀j q,K0 B0 j=some q->¬q.J0=0#16)(a:¬r.J0=0#16):∀j q,K0 (R1 B0 tx r) j=some q->¬q.J0=0#16:=by grind[G1,Y0]
theorem CW.aN{x:CW}{b:Int}{J0:BitVec 16}(d:x.O1.B0.length<=n)(a:∀j q,K0 x.O1.B0 j=some q->¬q.J0=0#16)(h0:¬J0=0#16):(x.V2 tx J0 b).2.O1.B0.length<=n+1∧(∀j q,K0 (x.V2 tx J0 b).2.O1.B0 j=some q->¬q.J0=0#16)∧∃g,(x.V2 tx J0 b).2.O0={x.O0 with R4:=g}:=by
 have c:∀r:T4,(R1 x.O1.B0 tx r).length<=n+1:=λr=>j9 qh m4;unfold CW.V2;simp only;split
 ·refine⟨?_,?_,_,rfl⟩
  ·grind
  ·dsimp only;split
   ·exact Oi a h0
   ·exact a
 ·split
  ·exact⟨c _,Oi a h0,_,rfl⟩
  ·refine⟨c _,Oi a ?_,_,rfl⟩;grind
theorem HB.aeG(r:HB P N h)(ev:Ev):HX N (h.I1 ev).2:=by
 have hx:=r.hx;unfold I0.I1;simp only;split
 ·exact hx
 rename_i h0;have h0:(h.P2.I1 ev.Z3 ev.J0 h.C0).2.1=0:=m4
 obtain⟨w,A,v,l',hl',y⟩:(h.P2.I1 ev.Z3 ev.J0 h.C0).1=h.P2.P0.length+1∧h.P2.P0.length<64∧¬ev.J0=0#16∧∃l',l'.length=8∧(h.P2.I1 ev.Z3 ev.J0 h.C0).2.2={h.P2 with P0:=h.P2.P0++[⟨ev.Z3,h.C0,ev.J0⟩],ba:=l'}:=by
  unfold E9.I1 at h0⊢;split at h0;·simp_all
  split at h0;·simp_all
  split at h0;·simp_all
  split at h0;·simp_all
  rename_i a1 a2 a3 a4;rw[V0 a1,V0 a2,V0 a3,V0 a4];refine⟨rfl,m4,λe=>a2 (.inl (by rw[e];rfl)),_,?_,rfl⟩;rw[Uk];exact hx.P2.s
 rw[w,y];obtain⟨T,t⟩:∃T:Int,(h.P2.P0.length:Int)+1=T:=⟨_,rfl⟩;rw[t];have K:(h.P2.P0++[(⟨ev.Z3,h.C0,ev.J0⟩:Pc)]).length=h.P2.P0.length+1:=by rw[j7,Gm]
 obtain⟨z,i⟩:∃z:I0,z={h with P2:={h.P2 with P0:=h.P2.P0++[⟨ev.Z3,h.C0,ev.J0⟩],ba:=l'},A0:=h.A0.map λ(p:Option d4)=>p.map λ(p:d4)=>(p.V2 T ev.J0 h.C0 h.C0).2}:=⟨_,rfl⟩;rw[<-i];have f:HX N z:=by
  rw[i];refine⟨hx.D0,hx.Qa,hx.kb,hx.S8,⟨hx.P2.p,Zb1,hl'⟩,λe F=>?_,λn p a=>?_,λC u=>?_⟩
  ·grind[HX.Dt]
  ·have a:(h.A0.map λ(p:Option d4)=>p.map λ(p:d4)=>(p.V2 T ev.J0 h.C0 h.C0).2).getD (n:Int).toNat none=some p:=a;rw[Xo,We]at a;have j:∃q,h.G5 (n:Int)=some q∧p=(q.V2 T ev.J0 h.C0 h.C0).2:=by
    unfold I0.G5;rw[Xo];cases l:h.A0[(n:Int).toNat]? with
    |none=>simp_all
    |some o=>
     rw[l]at a;cases o with
     |none=>cases a
     |some q=>simp_all
   obtain⟨q,hq1,G⟩:=j;obtain⟨c,d⟩:=hx.A0 n q hq1;obtain⟨E,D⟩:=SS.V2 c T ev.J0 h.C0 h.C0<;>grind
  ·obtain⟨c,d⟩:=hx.O1 C u<;>grind
 cases m:h.O1 with
 |none=>exact f
 |some C=>
  obtain⟨c,d⟩:=hx.O1 C m;obtain⟨j1,j2,g,j3⟩:=CW.aN (x:=z.cw C) (tx:=T) (b:=h.C0) (J0:=ev.J0) c d v;refine HX.G7 (o:=some _) f (k:=((z.cw C).V2 T ev.J0 h.C0).2.O0) ?_ ?_ λJ H=>?_
  ·rw[j3];exact f.kb.R4 g
  ·rw[j3];rfl
  grind
theorem HX.Gd(a:HX N h)(n:Int)(ev:Ev):HX N (h.Gd n ev):=by
 unfold I0.Gd;simp only;split
 ·exact HX.G7 a (a.kb.clear n) O (λC c=>by cases c)
 ·exact HX.qg a (V7 N) (a.kb.clear n) O (λp b=>by cases b)
theorem HX.N6(a:HX N h)(ev:Ev):HX N (h.N6 ev).2:=by
 unfold I0.N6;split
 ·grind[Gd]
 ·show HX N (m6 (h.s7.length:Int) (λ(h:I0)(n:Int)=>if h.up n then h.Gd n ev else h) h);refine Vb (I:=λz=>HX N z) a λz i _ b=>?_;grind[Gd]
theorem upX(me:Int)(l:N7):∀(L5 done:List xf)(p a:d4),SE p l me done->(∀x∈L5,x.K2.length<=2048)->L5.foldl Da (some p)=some a->∃akh,SE a l me akh
 |[],done,p,a,d,_,e=>Zb1
 |x::L5,done,p,a,d,c,e=>by
  cases f:x.T1 with
  |true=>rw[(UC f).1]at e;exact upX me l L5 (done++[x]) p a (d.skip x) (λy b=>c y (Ta _ b)) e
  |false=>
   by_cases h0:(p.U1.i7 x.n x.K2).1=0
   ·rw[(VC f h0).1]at e;exact upX me l L5 (done++[x]) _ a (d.step (c x (Ka ..)) f h0) (λy b=>c y (Ta _ b)) e
   grind[WC]
theorem d4.zD{me R0:Int}{d:U2}{l:N7}{S0:List A5}(c:s6 d l S0){p:d4}(a:d4.new me R0 d=some p):SS 17000 p.U1∧p.B0.length<=8:=by
 have e:=c.few;obtain⟨_,i⟩:=xo S0;unfold d4.new at a;rw[c.Y9]at a;simp only at a;cases hs:E1.new R0 (P6 S0).N0 with
 |none=>simp_all
 |some s=>rw[hs]at a;simp only at a;obtain⟨alM,hw0⟩:=SS.new hs;have a:(P6 S0).L5.foldl Da (some ⟨me,l,s,[]⟩)=some p:=a;obtain⟨done,b⟩:=upX me l (P6 S0).L5 [] ⟨me,l,s,[]⟩ p ⟨Zb6,λj r g=>(by cases g),rfl,rfl,ye _⟩ (λx f=>j9 (i x f) e) a;have m:=b.ss.H';have k:=b.len;exact⟨b.ss.up m4,m4⟩
theorem aag{A0:Int}:∀(L5:List xf)(B0:List (Int×T4)),(∀x∈L5,¬x.J0=0#16)->(∀j q,K0 B0 j=some q->¬q.J0=0#16)->(L5.foldl (dm A0) B0).length<=B0.length+L5.length∧∀j q,K0 (L5.foldl (dm A0) B0) j=some q->¬q.J0=0#16
 |[],B0,_,a=>⟨V7 _,a⟩
 |x::L5,B0,b,a=>by
  have f:=OH A0 B0 x;obtain⟨e,d⟩:=aag (A0:=A0) L5 (dm A0 B0 x) (λy c=>b y (Ta _ c)) (by
   unfold dm;split
   ·exact Oi a (b x (Ka ..))
   ·exact a)
  grind
theorem D8.zD{d:U2}{l:N7}{S0:List A5}(b:s6 d l S0){C:D8}(a:D8.new A0 d=some C):C.B0.length<=2048∧∀j q,K0 C.B0 j=some q->¬q.J0=0#16:=by
 have h:=b.few;obtain⟨k,_⟩:=xo S0;unfold D8.new at a;rw[b.Y9]at a;injection a with a
 obtain⟨e,c⟩:=aag (A0:=A0) (P6 S0).L5 [] (λx f=>by obtain⟨w,_,c,i⟩:=Md.mp f<;>grind) (λj q g=>by cases g);subst a;refine⟨?_,c⟩;have e:((P6 S0).L5.foldl (dm A0) []).length<=0+(P6 S0).L5.length:=e;show((P6 S0).L5.foldl (dm A0) []).length<=2048;omega
theorem Sz{a:Type}{n:Int}{f:a->Int->a}{I:Nat->a->Prop}{s:a}(h0:I 0 s)(c:∀t(i:Nat),(i:Int)<n->I i t->I (i+1) (f t (i:Int))):I n.toNat (m6 n f s):=by
 unfold m6;have:∀m:Nat,m<=n.toNat->I m ((List.range m).foldl (λ(s:a)(i:Nat)=>f s (i:Int)) s):=by
  intro m;induction m with
  |zero=>simp[*]
  |succ m b=>grind[List.range_succ]
 simp[*]
theorem HB.acM(w:HB P N h)(ev:Ev):HX N (h.xd ev).2:=by
 have hx:=w.hx;have Mm:=w.A6.D0;have Gi:=w.A6.pp;unfold I0.xd;split
 ·exact hx
 rename_i q;have q:h.Vg ev.N3=true:=by simpa using q
 unfold I0.Vg at q;simp only[Bool.and_eq_true,decide_eq_true_eq]at q;split
 ·exact hx
 simp only;split
 ·exact hx
 obtain⟨l,S0,G⟩:=w.A6.M6 (n:=ev.N3) ⟨q.1,q.2⟩;obtain⟨W,V⟩:∃W:Nat,ev.N3=W:=⟨ev.N3.toNat,m4⟩;have T:(HX N (h.L6 ev.N3).2∧(h.L6 ev.N3).2.P2=h.P2∧(h.L6 ev.N3).2.D0=h.D0)∧(¬ev.N3=h.D0.A0->∀p,(h.L6 ev.N3).2.G5 ev.N3=some p->p.B0.length<=8∨h.G5 ev.N3=some p)∧(ev.N3=h.D0.A0->∀C,(h.L6 ev.N3).2.O1=some C->C.B0.length<=2048∨h.O1=some C):=by
  unfold I0.L6;split
  ·rename_i e;split
   ·simp_all
   ·rename_i C D;rw[e]at G;rw[e]at D;obtain⟨v,u⟩:=D8.zD G D;refine⟨⟨HX.G7 (o:=some C) (k:=h.O0) (d:=h.s7) hx hx.kb O (λH a=>?_),rfl,rfl⟩,λg=>absurd e g,λ_ H a=>?_⟩
    ·grind
    simp_all
  ·rename_i e;split
   ·simp_all
   ·rename_i p r;obtain⟨v,u⟩:=d4.zD G r;refine⟨⟨HX.qg (o:=some p) (k:=h.O0) (d:=h.s7) (M:=N) hx (V7 N) hx.kb O (λA E=>?_),rfl,rfl⟩,λ_ A E=>?_,λg=>absurd g e⟩
    ·grind[SS.up]
    grind[ey]
 rename_i m _;have m:h.up ev.N3=false:=by simpa using m
 have anU:¬ev.N3=h.D0.A0->h.G5 ev.N3=none:=by
  intro e;unfold I0.up at m;rw[V0 e]at m;cases S:h.G5 ev.N3 with
  |none=>rfl
  |some p=>simp_all
 have anV:ev.N3=h.D0.A0->h.O1=none:=by
  intro e;unfold I0.up at m;rw[S1 e]at m;cases S:h.O1 with
  |none=>rfl
  |some p=>simp_all
 obtain⟨R,Z,Y⟩:=T;have hI0:(HX N (h.L6 ev.N3).2∧(h.L6 ev.N3).2.P2=h.P2∧(h.L6 ev.N3).2.D0=h.D0)∧(¬ev.N3=h.D0.A0->∀p,(h.L6 ev.N3).2.G5 ev.N3=some p->p.B0.length<=8+0)∧(ev.N3=h.D0.A0->∀C,(h.L6 ev.N3).2.O1=some C->C.B0.length<=2048+0):=by
  refine⟨R,λe p r=>?_,λe C D=>?_⟩
  ·simp_all
  ·simp_all
 have key:=Sz (n:=(h.P2.P0.length:Int)) (f:=λ(z:I0)(n:Int)=>
   if ev.N3=z.D0.A0 then match z.O1 with
    |none=>z
    |some c=>z.G7 ((z.cw c).V2 (n+1) (z.P2.entry (n+1)).1.J0 (z.P2.entry (n+1)).1.I1).2
   else match z.G5 ev.N3 with
    |none=>z
    |some p=>{z with A0:=z.A0.set ev.N3.toNat (some (p.V2 (n+1) (z.P2.entry (n+1)).1.J0 (z.P2.entry (n+1)).1.I1 (-1)).2)})
  (I:=λi z=>(HX N z∧z.P2=h.P2∧z.D0=h.D0)∧(¬ev.N3=h.D0.A0->∀p,z.G5 ev.N3=some p->p.B0.length<=8+i)∧(ev.N3=h.D0.A0->∀C,z.O1=some C->C.B0.length<=2048+i)) (s:=(h.L6 ev.N3).2)
  hI0 ?_
 ·grind
 ·intro z i hi ⟨⟨j,y,t⟩,Q,L⟩;have X:(i:Int)+1<=z.P2.P0.length:=by rw[y];omega
  have ajz:=j.Dt _ (Et (d:=z.P2) (tx:=(i:Int)+1) ⟨m4,X⟩);by_cases e:ev.N3=h.D0.A0
  ·have F:ev.N3=z.D0.A0:=by rw[t];exact e
   simp only[if_pos F];cases K:z.O1 with
   |none=>simp_all
   |some C=>
    simp only;obtain⟨v,u⟩:=j.O1 C K;have J:=L e C K;obtain⟨j1,j2,g,j3⟩:=CW.aN (x:=⟨C,z.O0,z.U4 z.D0.A0⟩) (tx:=(i:Int)+1) (b:=(z.P2.entry ((i:Int)+1)).1.I1) (J0:=(z.P2.entry ((i:Int)+1)).1.J0) J u ajz;refine⟨⟨HX.G7 (o:=some _) j (k:=(CW.V2 ⟨C,z.O0,z.U4 z.D0.A0⟩ ((i:Int)+1) (z.P2.entry ((i:Int)+1)).1.J0 (z.P2.entry ((i:Int)+1)).1.I1).2.O0) ?_ ?_ (λH a=>?_),y,t⟩,λg=>absurd e g,λ_ H a=>?_⟩
    ·rw[j3];exact j.kb.R4 g
    ·rw[j3]
    ·injection a with a;subst a;refine⟨j9 j1 ?_,j2⟩;omega
    ·injection a with a;subst a;exact j1
  ·have F:¬ev.N3=z.D0.A0:=by rw[t];exact e
   simp only[if_neg F];cases r:z.G5 ev.N3 with
   |none=>simp_all
   |some p=>
    simp only;rw[V]at r⊢;have v:=j.A0 W p r;have u:=Q e p Zb1;obtain⟨J,k4⟩:=SS.V2 v.1 ((i:Int)+1) (z.P2.entry ((i:Int)+1)).1.J0 (z.P2.entry ((i:Int)+1)).1.I1 (-1);refine⟨⟨HX.qg (o:=some _) (k:=z.O0) (d:=z.s7) (M:=N) j (V7 N) j.kb O (λA E=>?_),y,t⟩,λ_ A E=>?_,λg=>absurd g m4⟩
    ·grind
    grind[ey]
theorem HB.opX(e:HB P N h)(ev:Ev):HX (N+1) (h.op ev).2:=by
 have hx:=e.hx;have a:HX (N+1) h:=hx.up (j' N);unfold I0.op;split
 ·exact a
 rename_i i;simp only;split
 ·exact a
 cases c:h.G5 ev.N3 with
 |none=>exact a
 |some p=>
  simp only;obtain⟨W,f⟩:∃W:Nat,ev.N3=W:=⟨ev.N3.toNat,m4⟩;rw[f]at c⊢;have k:=hx.A0 W p c;refine HX.qg (o:=some _) (k:=h.O0) (d:=h.s7) (M:=N+1) hx (j' N) hx.kb O λg b=>?_;injection b with b;subst b;unfold d4.t7;have j:SS (17000+16*(N+1)) p.U1:=k.1.up m4;split
  ·simp[*]
  ·split
   ·simp[*]
   ·split
    ·simp[*]
    ·exact⟨(k.1.t7 _ _).up m4,k.2⟩
theorem HB.aeY(g:HB P N h)(ev:Ev):HX N (h.Xa ev).2:=by
 have hx:=g.hx;unfold I0.Xa;simp only;split
 ·exact hx
 cases f:h.O1 with
 |none=>exact hx
 |some C=>
  simp only;obtain⟨e,a⟩:=hx.O1 C f;obtain⟨T,i⟩:∃T,(h.P2.of ev.Z3 h.C0).1=T:=⟨_,rfl⟩;rw[i];obtain⟨b,kk2,_⟩:=Qs ⟨C,h.O0,h.U4 h.D0.A0⟩ T h.C0;have b:((h.cw C).Xa T h.C0).2.O0=h.O0:=b;refine HX.G7 (o:=some _) hx (by rw[b];exact hx.kb) (by rw[b]) λj d=>?_;injection d with d;subst d;unfold CW.Xa;split
  ·exact⟨e,a⟩
  ·rename_i r c;split
   ·exact⟨e,a⟩
   ·have c:K0 C.B0 T=some r:=c;refine⟨?_,Oi a (a T r c)⟩;show(R1 C.B0 T _).length<=_;simp_all[Z7]
theorem HB.aeE(b:HB P N h)(ev:Ev):HX N (h.A9 ev).2:=by
 have hx:=b.hx;have a:=hx.Qu (DA (p:=ev.N3) (i:=ev.t8) (up:=ev.up) (st:=ev.uc) (Q:=λp _=>0<=p∧p<h.D0.A0) hx.S8);unfold I0.A9;simp only;generalize(if ev.up=true then h.D0.A0 else ev.N3)=q;split
 ·exact a
 ·split
  ·exact a
  ·refine a.KM (hx.kb.A9 m4 _ _ _) ?_;grind[J2.A9]
theorem HB.aeB(a:HB P N h):HX N h.fa.2:=by
 have hx:=a.hx;unfold I0.fa;simp only;split
 ·cases d:h.O1 with
  |none=>exact hx
  |some C=>
   simp only;have k:=hx.O1 C d;have e:((h.cw C).T0 h.C0).2.O0=h.O0∧((h.cw C).T0 h.C0).2.O1.B0=C.B0:=by
    unfold CW.T0;split
    ·exact⟨rfl,rfl⟩
    ·simp only;split
     ·exact⟨rfl,rfl⟩
     ·split<;>exact⟨rfl,rfl⟩
   refine HX.G7 (o:=some _) hx (by rw[e.1];exact hx.kb) (by rw[e.1]) λq m=>?_;grind
 ·rename_i r;cases b:h.G5 (h.D0.K6 h.C0)with
  |none=>exact hx
  |some p=>
   simp only;have j:=a.A6.D0;have l:=a.A6.pp;have i:=Zg (p:=h.D0) (t:=h.C0) m4 a.A6.C0;obtain⟨n,c⟩:∃n:Nat,h.D0.K6 h.C0=n:=⟨(h.D0.K6 h.C0).toNat,m4⟩;rw[c]at b⊢;have k:=hx.A0 n p b;have e:((h.pw n p).T0 h.C0).2.O0=h.O0∧((h.pw n p).T0 h.C0).2.E0.B0=p.B0∧((h.pw n p).T0 h.C0).2.E0.U1=p.U1:=by
    unfold PW.T0;split
    ·exact⟨rfl,rfl,rfl⟩
    ·simp only;split
     ·exact⟨rfl,rfl,rfl⟩
     ·split<;>exact⟨rfl,rfl,rfl⟩
   refine HX.qg (o:=some _) (M:=N) hx (V7 N) (by rw[e.1];exact hx.kb) (by rw[e.1]) λf g=>?_;simp_all
theorem HB.ajr(b:HB P N h)(ev:Ev):HX (N+1) (h.di ev).2:=by
 have hx:=b.hx;have a:HX (N+1) h:=hx.up (j' N);unfold I0.di;split
 ·exact(b.aeG ev).up (j' N)
 split
 ·exact b.opX ev
 split
 ·exact(b.aeY ev).up (j' N)
 split
 ·grind[I0.T9]
 split
 ·exact b.afg
 split
 ·unfold I0.zb;split
  ·exact⟨a.D0,a.Qa,a.kb,a.S8,a.P2,a.Dt,a.A0,a.O1⟩
  ·exact a
 split
 ·exact(b.aeE ev).up (j' N)
 split
 ·exact a.Qu (DA (Q:=λp _=>0<=p∧p<h.D0.A0) hx.S8)
 split
 ·exact a.N6 ev
 split
 ·exact(b.acM ev).up (j' N)
 split
 ·exact b.aeB.up (j' N)
 ·exact a
theorem HB.da(hb:HB (G6 h) N h)(c:N<=900000)(ev:Ev)(b:M7 ev.op.n):HB (G6 (h.da ev).2) (N+2) (h.da ev).2:=by have a:=(hb.ajr ev).up (M:=N+2) m4;exact HX.hb ⟨a.D0,a.Qa,a.kb,a.S8,a.P2,a.Dt,a.A0,a.O1⟩ (hb.A6.da ev b) m4
end
end Go.Proofs.YtaaihojmcfaejaaGreatDoor
