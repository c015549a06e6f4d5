/- Lemmas for the tops: the walk of the house and its laws. No condition is added. -/
import Derived.Test.YtaaihojmcfaejaaGreatDoorQay
import Derived.Test.YtaaihojmcfaejaaGreatDoorQah
import Derived.Test.YtaaihojmcfaejaaGreatDoorQaf
set_option linter.all false
namespace Go.Proofs.YtaaihojmcfaejaaGreatDoor
open Go Go.RowKit Tryz
variable{h h' h0:I0}{t:Int}{k:J2}{R:List HP}{q:List S2}{N b i n pr:Nat}{o:Option d4}{y:S2}{α:Type}{c w:World}
def fU(r:Wk):Prop:=r.W0=2∧¬r.tx=0∧(r.Ge=18∨r.Ge=16∨(r.Ge=0∧r.op.W0=4))
def CH(h:I0)(p T:Int):Prop:=∃r∈h.M3,fU r∧r.N3=p∧r.tx=T
def Wd(h:I0)(p T:Int):Prop:=0<=p∧∃q w,h.G5 p=some q∧K0 q.U1.G0 T=some w∧¬w.B4=3
def G6(h:I0):zf:=⟨h.D0.A0,λtx=>0<=tx∧tx<=h.P2.P0.length,λp T=>CH h p T∨Wd h p T,CH h,λtx=>(h.P2.entry tx).1.J0⟩
theorem Zg{p:R9}(h:0<=p.A0)(_ht:0<=t):0<=p.K6 t∧p.K6 t<=p.A0:=by unfold R9.K6 ce;have c:=tz (max t 0) (b:=p.A0+1) m4;have a:=cL (max t 0) (b:=p.A0+1) m4;omega
structure Inv(P:zf)(h:I0):Prop where
 pp:1<=P.A0∧P.A0<=6
 D0:h.D0.A0=P.A0
 Qa:h.O0.D0.A0=P.A0
 Ae:(h.A0.length:Int)=P.A0
 Be:(h.s7.length:Int)=P.A0+1
 E0:∀n:Nat,(n:Int)<P.A0->Ua P n (h.G5 n) (h.U4 n)
 O1:lg P h.O1 (h.U4 P.A0)
 R4:gF P h.O0.R4
 O0:Ze P.F h.O0
 p6:Gq P.F h.p6
 C0:0<=h.C0
 Nc:∀e∈h.P2.P0,0<=e.I1
 GP:∀p T,P.C p T->0<=p∧p<P.A0∧P.A T∧Qe (W (P.J0 T)) p=true
section
variable{P P':zf}
theorem Ze.imp{F G:End->P9->Prop}(h:Ze F k)(g:∀e m,F e m->G e m):Ze G k:=λx b=>⟨λm a=>g _ _ ((h x b).1 m a),λm a=>g _ _ ((h x b).2 m a)⟩
theorem Inv.mono(a:Inv P h)(b:P.Le P')(c:∀p T,P'.C p T->P.C p T):Inv P' h:=by have e:=b.A0;refine⟨by rw[e];exact a.pp,a.D0.trans e.symm,a.Qa.trans e.symm,by rw[e];exact a.Ae,by rw[e];exact a.Be,λn f=>(a.E0 n m4).mono b (c _),by rw[e];exact a.O1.mono b,a.R4.mono b,a.O0.imp λ_ _=>zf.F.mono b,a.p6.imp λ_ _=>zf.F.mono b,a.C0,a.Nc,λp T d=>?_⟩;obtain⟨k,j,i,g⟩:=a.GP p T (c p T d)<;>grind[zf.Le.A,zf.Le.J0]
theorem KJ(hp:h'.D0=h.D0)(c:h'.P2=h.P2)(d:∀(p T:Int),0<=T∧T<=h.P2.P0.length->CH h' p T->CH h p T∨Wd h p T)(e:∀(p T:Int),0<=T∧T<=h.P2.P0.length->Wd h' p T->Wd h p T):(G6 h).Le (G6 h'):=by
 refine⟨by show h'.D0.A0=_;rw[hp];rfl,λtx a=>by show 0<=tx∧tx<=(h'.P2.P0.length:Int);rw[c];exact a,λp tx a b=>?_,λtx a=>by show(h'.P2.entry tx).1.J0=_;rw[c];rfl⟩;rcases b with b|b
 ·exact d p tx a b
 ·exact .inr (e p tx a b)
theorem Inv.uM(e:Inv (G6 h) h){r:Wk}(i:¬fU r):Inv (G6 {h with M3:=h.M3++[r]}) {h with M3:=h.M3++[r]}:=by
 have c:∀p T,CH {h with M3:=h.M3++[r]} p T->CH h p T:=by
  rintro p T ⟨q,a,g,f⟩;rcases rh.1 a with a|a
  ·exact⟨q,a,g,f⟩
  ·simp_all
 have d:(G6 h).Le (G6 {h with M3:=h.M3++[r]}):=KJ O O (λp T _ b=> .inl (c p T b)) (λp T _ b=>b);have:=e.mono d c;exact⟨this.pp,this.D0,this.Qa,this.Ae,this.Be,this.E0,this.O1,this.R4,this.O0,this.p6,this.C0,this.Nc,this.GP⟩
theorem Inv.ci(hi:Inv P h){c:D8}(a:h.O1=some c):CI P (h.cw c):=by
 have:=hi.O1
 rw[a]at this
 have b:=this.ci hi.R4 hi.O0 hi.Qa
 unfold I0.cw
 rw[hi.D0]
 exact b
theorem Sd{l:List α}{j:Nat}{x d:α}:(l.set i x).getD j d=if i=j∧i<l.length then x else l.getD j d:=Zb1
theorem Inv.G7(a:Inv P h){x:CW}(b:CI P x):Inv P (h.G7 x):=by
 have i:=a.pp;have g:=a.D0;have f:=a.Be;have d:∀n:Nat,(n:Int)<P.A0->(h.G7 x).U4 n=h.U4 n:=by intro n c;show(h.s7.set h.D0.A0.toNat x.M6).getD _ _=h.s7.getD _ _;rw[Sd,V0 m4]
 have e:(h.G7 x).U4 P.A0=x.M6:=by show(h.s7.set h.D0.A0.toNat x.M6).getD _ _=_;rw[Sd,S1 m4]
 refine⟨a.pp,a.D0,b.D0,a.Ae,by show((h.s7.set _ _).length:Int)=_;simp[*],λn c=>?_,?_,b.R4,b.Er,a.p6,a.C0,a.Nc,a.GP⟩
 ·rw[d n c];exact a.E0 n c
 ·rw[e];exact b.adf
theorem Inv.qg(a:Inv P h)(g:(n:Int)<P.A0){d:U2}(hs:Ua P n o d)(f:Ze P.F k)(i:k.R4=h.O0.R4)(b:k.D0.A0=P.A0):Inv P {h with A0:=h.A0.set n o,O0:=k,s7:=h.s7.set n d}:=by
 have p:=a.pp;have l:=a.Be;have j:=a.Ae;refine⟨a.pp,a.D0,b,Zb6,Zb6,λm c=>?_,?_,by show gF P k.R4;grind[R4],f,a.p6,a.C0,a.Nc,a.GP⟩
 ·show Ua P m ((h.A0.set n o).getD _ _) ((h.s7.set n d).getD _ _);rw[Sd,Sd];by_cases e:n=m
  ·grind
  ·rw[V0 m4,V0 m4];exact a.E0 m c
 ·show lg P h.O1 ((h.s7.set n d).getD _ _);rw[Sd,V0 m4];exact a.O1
theorem TR{l:List α}{d:α}:l.set i (l.getD i d)=l:=by apply tv;grind
theorem Inv.mM(a:Inv P h)(b:(n:Int)<P.A0)(hs:Ua P n o (h.U4 n)):Inv P {h with A0:=h.A0.set n o}:=by have:=a.qg b hs a.O0 O a.Qa;have e:h.s7.set n (h.U4 n)=h.s7:=TR (d:=xH);simp_all
theorem Inv.KM(hi:Inv P h)(a:Ze P.F k)(b:k.R4=h.O0.R4)(hp:k.D0=h.O0.D0):Inv P {h with O0:=k}:=
 ⟨hi.pp,hi.D0,by show k.D0.A0=_;rw[hp];exact hi.Qa,hi.Ae,hi.Be,hi.E0,hi.O1,by show gF P k.R4;rw[b];exact hi.R4,a,hi.p6,hi.C0,hi.Nc,hi.GP⟩
theorem Inv.Qu(a:Inv P h){l:O6}(b:Gq P.F l):Inv P {h with p6:=l}:=⟨a.pp,a.D0,a.Qa,a.Ae,a.Be,a.E0,a.O1,a.R4,a.O0,b,a.C0,a.Nc,a.GP⟩
theorem Inv.pass(a:Inv P h)(p:Int)(up:Bool):Inv P (h.pass p up):=by obtain⟨c,b⟩:=a.O0.Za p up;obtain⟨e,d,_,_⟩:=GO (k:=h.O0) (E0:=p) (up:=up);exact(a.KM c e d).Qu (a.p6.put b)
theorem Inv.tS(a:Inv P h)(n:Int)(c:Int->Bool)(up:Bool):Inv P (m6 n (λ(h:I0)(p:Int)=>if c p=true then h.pass p up else h) h):=
 Vb (I:=Inv P) a λh i _ b=>by grind[pass]
structure G9(h h':I0):Prop where
 D0:h'.D0=h.D0
 P2:h'.P2=h.P2
 M3:h'.M3=h.M3
theorem G9.refl(h:I0):G9 h h:=⟨rfl,rfl,rfl⟩
theorem G9.trans{a b c:I0}(h:G9 a b)(k:G9 b c):G9 a c:=⟨k.D0.trans h.D0,k.P2.trans h.P2,k.M3.trans h.M3⟩
theorem G9.le(hs:G9 h h')(c:∀p T,Wd h' p T->Wd h p T):(G6 h).Le (G6 h')∧∀p T,(G6 h').C p T->(G6 h).C p T:=by
 have b:∀p T,CH h' p T->CH h p T:=by intro p T a;unfold CH at a;rw[hs.M3]at a;exact a
 exact⟨KJ hs.D0 hs.P2 (λp T _ a=> .inl (b p T a)) (λp T _ a=>c p T a),b⟩
theorem G9.A6(hs:G9 h h')(a:∀p T,Wd h' p T->Wd h p T)(b:Inv (G6 h) h'):Inv (G6 h') h':=b.mono (hs.le a).1 (hs.le a).2
theorem Ra(a:h'.A0=h.A0):∀p T,Wd h' p T->Wd h p T:=by simp_all[Wd,I0.G5]
theorem BO(h:I0)(p:Int)(up:Bool):G9 h (h.pass p up)∧(h.pass p up).A0=h.A0:=⟨⟨rfl,rfl,rfl⟩,rfl⟩
theorem Hu(h:I0)(n:Int)(c:Int->Bool)(up:Bool):G9 h (m6 n (λ(h:I0)(p:Int)=>if c p=true then h.pass p up else h) h)∧(m6 n (λ(h:I0)(p:Int)=>if c p=true then h.pass p up else h) h).A0=h.A0:=
 Vb (I:=λ(z:I0)=>G9 h z∧z.A0=h.A0) ⟨G9.refl h,rfl⟩ λz i _⟨b,a⟩=>by grind[G9.trans,BO]
theorem fi(hp:h'.A0=h.A0.set n o)(j:∀q T w,o=some q->K0 q.U1.G0 T=some w->¬w.B4=3->∃b w',h.G5 n=some b∧K0 b.U1.G0 T=some w'∧¬w'.B4=3):∀p T,Wd h' p T->Wd h p T:=by
 rintro p T ⟨h0,q,w,a,f,d⟩;unfold I0.G5 at a;rw[hp,Sd]at a;split at a
 ·rename_i k;obtain⟨b,w',c,i,g⟩:=j q T w a f d;have e:((n:Nat):Int)=p:=m4
  rw[e]at c;exact⟨h0,b,w',c,i,g⟩
 ·exact⟨h0,q,w,a,f,d⟩
theorem Inv.vj(a:Inv (G6 h) h):Inv (G6 h.vj.2) h.vj.2∧G9 h h.vj.2:=by
 have L:=a.pp;have K:=a.D0;unfold I0.vj;simp only;split
 ·cases k:h.O1 with
  |none=>grind[G9.refl]
  |some c=>simp only;have l:=a.G7 ((a.ci k).run h.C0);have d:G9 h (h.G7 ((h.cw c).run h.C0).2):=⟨rfl,rfl,rfl⟩;have e:=l.tS (h.A0.length:Int) (λ_=>true) false;obtain⟨b,f⟩:=Hu (h.G7 ((h.cw c).run h.C0).2) (h.A0.length:Int) (λ_=>true) false;simp only[if_true]at e b f;exact⟨(d.trans b).A6 (Ra f) e,d.trans b⟩
 ·rename_i G;cases hp:h.G5 (h.D0.K6 h.C0)with
  |none=>grind[G9.refl]
  |some p=>
   simp only;have J:=Zg (p:=h.D0) (t:=h.C0) m4 a.C0;obtain⟨n,C⟩:∃n:Nat,h.D0.K6 h.C0=n:=⟨(h.D0.K6 h.C0).toNat,m4⟩;rw[C]at hp G⊢;have hnl:(n:Int)<(G6 h).A0:=by show(n:Int)<h.D0.A0;omega
   have r:=a.E0 n hnl;rw[hp]at r;obtain⟨x,hx⟩:∃x,((h.pw (n:Int) p).run h.C0).2=x:=⟨_,rfl⟩;have o:(PW.run ⟨p,h.O0,h.U4 n⟩ h.C0).2=x:=hx;rw[hx];have hfr:G8 p.U1 x.E0.U1:=by rw[<-o];exact(r.pi h.O0).fresh (G6 h).hQ h.C0
   have F:(h.qg (n:Int) x).A0=h.A0.set n (some x.E0):=rfl;have D:∀p T,Wd (h.qg (n:Int) x) p T->Wd h p T:=fi F λq T w j u E=>by injection j with j;rw[<-j]at u;obtain⟨w',s,z⟩:=hfr T w u E<;>grind
   have d:G9 h (h.qg (n:Int) x):=⟨rfl,rfl,rfl⟩;have g:=d.le D;have m:=a.mono g.1 g.2;have adX:=r.mono g.1 (g.2 _);have alZ:(n:Int)<(G6 (h.qg (n:Int) x)).A0:=hnl;have v:=adX.run m.O0 (by grind[Qa]) h.C0 (λtx A=>by
    rcases A with k|⟨_,q,w,s,z,H⟩
    ·exact .inl k
    ·right;rw[o];unfold I0.G5 at s<;>grind)
   rw[o]at v;obtain⟨y,i⟩:=v;have l:Inv (G6 (h.qg (n:Int) x)) (h.qg (n:Int) x):=m.qg alZ y i.all i.R4 (by rw[i.D0];exact m.Qa);have e:=l.tS (h.A0.length:Int) (λp=>Decidable.decide ((n:Int)=p)) true;obtain⟨b,f⟩:=Hu (h.qg (n:Int) x) (h.A0.length:Int) (λp=>Decidable.decide ((n:Int)=p)) true;simp only[decide_eq_true_eq]at e b f;grind[G9.A6,Ra,G9.trans]
theorem Inv.A9(a:Inv (G6 h) h)(ev:Ev):Inv (G6 (h.A9 ev).2) (h.A9 ev).2∧G9 h (h.A9 ev).2:=by
 obtain⟨l1,l2⟩:=Gq.take a.p6 ev.N3 ev.up ev.t8 ev.uc;have b:=a.Qu l1;have key:Inv (G6 h) (h.A9 ev).2∧G9 h (h.A9 ev).2∧(h.A9 ev).2.A0=h.A0:=by
  unfold I0.A9;simp only;generalize(if ev.up=true then h.D0.A0 else ev.N3)=q;split
  ·exact⟨b,⟨rfl,rfl,rfl⟩,rfl⟩
  rename_i h0;have h0:(h.p6.take ev.N3 ev.up ev.t8 ev.uc).2.1=0:=m4
  split
  ·exact⟨b,⟨rfl,rfl,rfl⟩,rfl⟩
  ·obtain⟨d,c,_,_⟩:=OK (k:=h.O0) (E0:=ev.N3) (up:=ev.up) (m:=(h.p6.take ev.N3 ev.up ev.t8 ev.uc).1);exact⟨b.KM (a.O0.A9 (l2 h0)) d c,⟨rfl,rfl,rfl⟩,rfl⟩
 exact⟨key.2.1.A6 (Ra key.2.2) key.1,key.2.1⟩
theorem Inv.Gd(a:Inv (G6 h) h){n:Int}(i:0<=n∧n<=h.D0.A0)(ev:Ev):Inv (G6 (h.Gd n ev)) (h.Gd n ev)∧G9 h (h.Gd n ev):=by
 have k:=a.pp;have j:=a.D0;have g:=a.Be;have hnp:=a.Ae;have c:=a.O0.clear n;unfold I0.Gd;simp only;split
 ·rename_i e;have s:G9 h {h with s7:=h.s7.set n.toNat ((h.U4 n).N6 ev.Q6 ev.O8),O0:=h.O0.clear n,O1:=none}:=⟨rfl,rfl,rfl⟩;refine⟨s.A6 (Ra O) ?_,s⟩;refine⟨a.pp,a.D0,a.Qa,a.Ae,Zb6,λm b=>?_,?_,a.R4,c,a.p6,a.C0,a.Nc,a.GP⟩
  ·show Ua _ m (h.G5 m) ((h.s7.set _ _).getD _ _);rw[Sd,V0 m4];exact a.E0 m b
  ·show lg _ none ((h.s7.set _ _).getD _ _);rw[Sd,S1 m4];have:=a.O1.Gd ev.Q6 ev.O8;simp[*]
 ·rename_i e;obtain⟨m,b⟩:∃m:Nat,n=m:=⟨n.toNat,m4⟩;subst b;have s:G9 h {h with s7:=h.s7.set m ((h.U4 (m:Int)).N6 ev.Q6 ev.O8),O0:=h.O0.clear (m:Int),A0:=h.A0.set m none}:=⟨rfl,rfl,rfl⟩;have d:(m:Int)<(G6 h).A0:=by show(m:Int)<h.D0.A0;omega
  refine⟨s.A6 (fi (n:=m) (o:=none) O (λq T w f=>by cases f)) ?_,s⟩;exact a.qg d ((a.E0 m d).Gd ev.Q6 ev.O8) c O a.Qa
theorem Inv.N6(a:Inv (G6 h) h)(ev:Ev):Inv (G6 (h.N6 ev).2) (h.N6 ev).2∧G9 h (h.N6 ev).2:=by
 unfold I0.N6;split
 ·split
  ·grind[G9.refl]
  split
  ·grind[G9.refl]
  simp_all[I0.Vg,Gd]
 ·refine Vb (I:=λ(z:I0)=>Inv (G6 z) z∧G9 h z) ⟨a,G9.refl h⟩ λz i c⟨b,hs⟩=>?_;split
  ·have e:=a.Be;have d:=a.D0;grind[Gd,G9.D0,G9.trans]
  omega
theorem Inv.L6(a:Inv (G6 h) h){n:Int}(A:0<=n∧n<=h.D0.A0):Inv (G6 (h.L6 n).2) (h.L6 n).2∧G9 h (h.L6 n).2:=by
 have E:=a.pp;have D:=a.D0;have u:=a.Be;unfold I0.L6;split
 ·rename_i e;split
  ·grind[G9.refl]
  ·rename_i c f;have s:G9 h {h with O1:=some c}:=⟨rfl,rfl,rfl⟩;refine⟨s.A6 (Ra O) ⟨a.pp,a.D0,a.Qa,a.Ae,a.Be,a.E0,?_,a.R4,a.O0,a.p6,a.C0,a.Nc,a.GP⟩,s⟩;rw[e]at f;obtain⟨S0,l,k,b⟩:∃S0 l,s6 (h.U4 h.D0.A0) l S0∧∀r∈S0,(G6 h).Q r:=by
    have:=a.O1;cases hch:h.O1 with
    |none=>rw[hch]at this;exact this
    |some c=>rw[hch]at this;obtain⟨⟨S0,y,x⟩,_⟩:=this<;>grind
   exact lg.Y9 (P:=G6 h) m4 (d:=h.U4 h.D0.A0) ⟨S0,l,k,b⟩ f
 ·rename_i e;obtain⟨m,t⟩:∃m:Nat,n=m:=⟨n.toNat,m4⟩;subst t;have g:(m:Int)<(G6 h).A0:=by show(m:Int)<h.D0.A0;omega
  split
  ·grind[G9.refl]
  ·rename_i p j;have s:G9 h {h with A0:=h.A0.set m (some p)}:=⟨rfl,rfl,rfl⟩;obtain⟨i,v⟩:=(a.E0 m g).off.Y9 j;refine⟨s.A6 (fi (n:=m) (o:=some p) O (λq T w b z C=>?_)) (a.mM g i),s⟩;grind
theorem Et{d:E9}{tx:Int}(h:1<=tx∧tx<=d.P0.length):(d.entry tx).1∈d.P0:=by
 unfold E9.entry;rw[V0 m4];have a:(tx-1).toNat<d.P0.length:=m4
 simp_all
theorem Inv.xd(v:Inv (G6 h) h)(ev:Ev):Inv (G6 (h.xd ev).2) (h.xd ev).2∧G9 h (h.xd ev).2:=by
 unfold I0.xd;split
 ·grind[G9.refl]
 rename_i a;have a:h.Vg ev.N3=true:=by simpa using a
 unfold I0.Vg at a;simp only[Bool.and_eq_true,decide_eq_true_eq]at a;split
 ·grind[G9.refl]
 simp only;split
 ·grind[G9.refl]
 obtain⟨t,r⟩:=v.L6 (n:=ev.N3) ⟨a.1,a.2⟩;refine Vb (I:=λ(z:I0)=>Inv (G6 z) z∧G9 h z) ⟨t,r⟩ λz i C⟨f,hs⟩=>?_;have ajD:=hs.P2;have l:(i:Int)+1<=z.P2.P0.length:=by rw[ajD];omega
 have j:(G6 z).A ((i:Int)+1):=⟨m4,l⟩;have ajz:=f.Nc _ (Et (d:=z.P2) (tx:=(i:Int)+1) ⟨m4,l⟩);split
 ·cases x:z.O1 with
  |none=>omega
  |some c=>simp only;have g:=f.G7 ((f.ci x).V2 (by have:=f.pp;omega) j (z.P2.entry ((i:Int)+1)).1.I1);have s:G9 z (z.G7 ((z.cw c).V2 ((i:Int)+1) (z.P2.entry ((i:Int)+1)).1.J0 (z.P2.entry ((i:Int)+1)).1.I1).2):=⟨rfl,rfl,rfl⟩;exact⟨s.A6 (Ra O) g,hs.trans s⟩
 ·rename_i e;cases hp:z.G5 ev.N3 with
  |none=>omega
  |some p=>
   simp only;obtain⟨m,u⟩:∃m:Nat,ev.N3=m:=⟨ev.N3.toNat,m4⟩;rw[u]at hp e a⊢;have k:(m:Int)<(G6 z).A0:=by show(m:Int)<z.D0.A0;have:=hs.D0;rw[this]at e⊢;omega
   have o:=f.E0 m k;rw[hp]at o;have g:=Wu o j (z.P2.entry ((i:Int)+1)).1.J0 (b:=(z.P2.entry ((i:Int)+1)).1.I1) (C0:= -1) (λD=>m4);have s:G9 z {z with A0:=z.A0.set m (some (p.V2 ((i:Int)+1) (z.P2.entry ((i:Int)+1)).1.J0 (z.P2.entry ((i:Int)+1)).1.I1 (-1)).2)}:=⟨rfl,rfl,rfl⟩;refine⟨s.A6 (fi O λq T w y hww E=>?_) (f.mM k g),hs.trans s⟩;grind[Jr]
theorem rP{d:E9}{l:List Int}{e:Pc}{tx:Int}(h:tx<=d.P0.length):(({d with P0:=d.P0++[e],ba:=l}:E9).entry tx).1=(d.entry tx).1:=by
 unfold E9.entry;by_cases a:tx<1
 ·simp[*]
 ·rw[V0 Zb5,V0 m4];show(d.P0++[e]).getD _ _=d.P0.getD _ _;rw[Xo,Xo,Hm m4]
theorem Inv.I1(hi:Inv (G6 h) h)(ev:Ev):Inv (G6 (h.I1 ev).2) (h.I1 ev).2∧(h.I1 ev).2.M3=h.M3:=by
 have Y:=hi.pp
 have S:=hi.D0
 unfold I0.I1
 simp only
 split
 ·exact⟨hi,rfl⟩
 rename_i h0
 have h0:(h.P2.I1 ev.Z3 ev.J0 h.C0).2.1=0:=by omega
 obtain⟨V,l',X⟩:(h.P2.I1 ev.Z3 ev.J0 h.C0).1=h.P2.P0.length+1∧∃l',(h.P2.I1 ev.Z3 ev.J0 h.C0).2.2={h.P2 with P0:=h.P2.P0++[⟨ev.Z3,h.C0,ev.J0⟩],ba:=l'}:=by
  unfold E9.I1 at h0⊢
  split at h0;·exact absurd h0 (by simp)
  split at h0;·exact absurd h0 (by simp)
  split at h0;·exact absurd h0 (by simp)
  split at h0;·exact absurd h0 (by simp)
  rename_i a1 a2 a3 a4
  rw[V0 a1,V0 a2,V0 a3,V0 a4]
  exact⟨rfl,_,rfl⟩
 rw[V,X]
 obtain⟨T,L⟩:∃T:Int,(h.P2.P0.length:Int)+1=T:=⟨_,rfl⟩
 rw[L]
 obtain⟨a,b⟩:∃a:I0,a={h with P2:={h.P2 with P0:=h.P2.P0++[⟨ev.Z3,h.C0,ev.J0⟩],ba:=l'},A0:=h.A0.map λ(p:Option d4)=>p.map λ(p:d4)=>(p.V2 T ev.J0 h.C0 h.C0).2}:=⟨_,rfl⟩
 have D:(G6 h).Le (G6 a):=by
  refine⟨by rw[b];rfl,λtx f=>?_,λp tx f g=>?_,λtx f=>?_⟩
  ·rw[b]
   show 0<=tx∧tx<=((h.P2.P0++[_]).length:Int)
   have f:0<=tx∧tx<=(h.P2.P0.length:Int):=f
   rw[j7]
   simp
   omega
  ·have f:0<=tx∧tx<=(h.P2.P0.length:Int):=f
   rcases g with g|⟨H,q,w,d,u,G⟩
   ·left
    rw[b]at g
    exact g
   ·right
    rw[b]at d
    unfold I0.G5 at d
    simp only at d
    rw[Xo,We]at d
    cases t:h.A0[p.toNat]? with
    |none=>rw[t]at d;cases d
    |some o=>
     rw[t]at d
     cases o with
     |none=>cases d
     |some F=>
      simp only[Option.map_some,Option.getD_some]at d
      injection d with d
      rw[<-d]at u
      refine⟨H,F,w,?_,Jr tx w (.inl (by omega)) u,G⟩
      unfold I0.G5
      rw[Xo,t]
      rfl
  ·rw[b]
   have f:0<=tx∧tx<=(h.P2.P0.length:Int):=f
   show(E9.entry _ tx).1.J0=(h.P2.entry tx).1.J0
   rw[rP f.2]
 have x:∀p T,(G6 a).C p T->(G6 h).C p T:=by
  intro p T v
  rw[b]at v
  exact v
 have j:=hi.mono D x
 have y:(G6 a).A T:=by
  rw[b]
  show 0<=T∧T<=((h.P2.P0++[_]).length:Int)
  rw[j7]
  simp
  omega
 have P:(G6 a).J0 T=ev.J0:=by
  rw[b]
  show(E9.entry _ T).1.J0=_
  unfold E9.entry
  rw[V0 (by simp;omega)]
  have e:(T-1).toNat=h.P2.P0.length:=by omega
  rw[e]
  simp
 have R:∀n:Nat,(n:Int)<(G6 a).A0->Ua (G6 a) n (a.G5 n) (a.U4 n):=by
  intro n g
  have l:=j.E0 n g
  have e:a.G5 n=(h.G5 n).map λ(p:d4)=>(p.V2 T ev.J0 h.C0 h.C0).2:=by
   rw[b]
   unfold I0.G5
   simp only
   rw[Xo,Xo,We]
   cases h.A0[(n:Int).toNat]?<;>rfl
  have M:a.U4 n=h.U4 n:=by rw[b];rfl
  rw[e,M]
  cases hp:h.G5 n with
  |none=>rw[hp]at l;exact l
  |some p=>
   rw[hp]at l
   refine Wu l y ev.J0 λ_=>⟨?_,λQ=>?_⟩
   ·have z:=hi.E0 n (by rw[<-D.A0];exact g)
    rw[hp]at z
    cases J:K0 p.B0 T with
    |none=>rfl
    |some r=>
     have:=(z.1 ⟨⟨0,0,0⟩,⟨0#64,[]⟩,[],0#64,[]⟩).B0 T r J
     have:0<=T∧T<=(h.P2.P0.length:Int):=this
     omega
   ·have:=(hi.GP _ _ (x _ _ Q)).2.2.1
    have:0<=T∧T<=(h.P2.P0.length:Int):=this
    omega
 have m:Inv (G6 a) a:=by
  refine⟨j.pp,by rw[b];exact S,by rw[b];exact hi.Qa,by rw[b];show((h.A0.map _).length:Int)=_;rw[H7];exact hi.Ae,by rw[b];exact hi.Be,R,?_,?_,?_,?_,by rw[b];exact hi.C0,?_,j.GP⟩
  ·have:=j.O1
   have i:a.O1=h.O1:=by rw[b]
   have N:∀n,a.U4 n=h.U4 n:=λn=>by rw[b];rfl
   rw[i,N]
   exact this
  ·have i:a.O0=h.O0:=by rw[b]
   rw[i]
   exact j.R4
  ·have i:a.O0=h.O0:=by rw[b]
   rw[i]
   exact j.O0
  ·have i:a.p6=h.p6:=by rw[b]
   rw[i]
   exact j.p6
  ·intro e k
   rw[b]at k
   rcases rh.1 k with k|k
   ·exact hi.Nc e k
   ·rw[Gs.1 k]
    exact hi.C0
 rw[<-b]
 have ech:a.O1=h.O1:=by rw[b]
 have amD:a.M3=h.M3:=by rw[b]
 have aoh:a.C0=h.C0:=by rw[b]
 have aog:∀o,a.O1=o->Inv (G6 (match o with|none=>a|some c=>a.G7 ((a.cw c).V2 T ev.J0 h.C0).2)) (match o with|none=>a|some c=>a.G7 ((a.cw c).V2 T ev.J0 h.C0).2)∧(match o with|none=>a|some c=>a.G7 ((a.cw c).V2 T ev.J0 h.C0).2).M3=h.M3:=by
  intro o K
  cases o with
  |none=>exact⟨m,amD⟩
  |some c=>
   simp only
   have E:=(m.ci K).V2 (by have:=m.pp;omega) y h.C0
   rw[P]at E
   have l:=m.G7 E
   have s:G9 a (a.G7 ((a.cw c).V2 T ev.J0 h.C0).2):=⟨rfl,rfl,rfl⟩
   exact⟨s.A6 (Ra O) l,s.M3.trans amD⟩
 rw[ech]at aog
 rw[b]at aog⊢
 exact aog _ O
theorem Inv.Xa(a:Inv (G6 h) h)(ev:Ev):Inv (G6 (h.Xa ev).2) (h.Xa ev).2∧G9 h (h.Xa ev).2:=by
 unfold I0.Xa;simp only;split
 ·grind[G9.refl]
 cases b:h.O1 with
 |none=>grind[G9.refl]
 |some c=>simp only;have d:=a.G7 ((a.ci b).Xa (h.P2.of ev.Z3 h.C0).1 h.C0);have s:G9 h (h.G7 ((h.cw c).Xa (h.P2.of ev.Z3 h.C0).1 h.C0).2):=⟨rfl,rfl,rfl⟩;exact⟨s.A6 (Ra O) d,s⟩
theorem Inv.fa(hi:Inv (G6 h) h):Inv (G6 h.fa.2) h.fa.2∧G9 h h.fa.2:=by
 have H:=hi.pp
 have G:=hi.D0
 unfold I0.fa
 simp only
 split
 ·cases y:h.O1 with
  |none=>exact⟨hi,G9.refl h⟩
  |some c=>
   simp only
   have A:=hi.G7 ((hi.ci y).T0 ⟨by decide,by omega⟩ h.C0)
   have s:G9 h (h.G7 ((h.cw c).T0 h.C0).2):=⟨rfl,rfl,rfl⟩
   exact⟨s.A6 (Ra O) A,s⟩
 ·rename_i E
  cases hp:h.G5 (h.D0.K6 h.C0)with
  |none=>exact⟨hi,G9.refl h⟩
  |some p=>
   simp only
   have F:=Zg (p:=h.D0) (t:=h.C0) (by omega) hi.C0
   obtain⟨n,v⟩:∃n:Nat,h.D0.K6 h.C0=n:=⟨(h.D0.K6 h.C0).toNat,by omega⟩
   rw[v]at hp E⊢
   have hnl:(n:Int)<(G6 h).A0:=by
    show(n:Int)<h.D0.A0
    omega
   have l:=hi.E0 n hnl
   rw[hp]at l
   obtain⟨x,hx⟩:∃x,((h.pw (n:Int) p).T0 h.C0).2=x:=⟨_,rfl⟩
   have j:(PW.T0 ⟨p,h.O0,h.U4 n⟩ h.C0).2=x:=hx
   rw[hx]
   have D:x.O0=h.O0∧x.E0.U1=p.U1∧x.E0.B0=p.B0∧x.E0.me=p.me:=by
    rw[<-j]
    unfold PW.T0
    split
    ·exact⟨rfl,rfl,rfl,rfl⟩
    simp only
    split
    ·exact⟨rfl,rfl,rfl,rfl⟩
    ·split<;>exact⟨rfl,rfl,rfl,rfl⟩
   obtain⟨f,d,b,C⟩:=D
   have u:Ua (G6 h) n (some x.E0) x.M6:=by
    obtain⟨r,m,a,g⟩:=l
    refine⟨λk=>?_,C.trans m,⟨?_,?_,?_,?_⟩,λT i=>⟨?_,?_⟩⟩
    ·have:=PT.T0 (G6 h).hQ ⟨by decide,by omega⟩ (r h.O0) h.C0
     rw[show(PW.T0 ⟨p,h.O0,h.U4 (n:Int)⟩ h.C0).2=x from j]at this
     exact this.O0 k
    ·rw[d];exact a.st
    ·rw[d,b];exact a.Y9
    ·rw[b];exact a.Y4
    ·rw[b];exact a.J0
    ·rw[d];exact(g T i).G0
    ·rw[b];exact(g T i).B0
   have s:G9 h (h.qg (n:Int) x):=⟨rfl,rfl,rfl⟩
   refine⟨s.A6 (fi (n:=n) (o:=some x.E0) O λq T w e hww z=>?_) (hi.qg hnl u (by rw[f];exact hi.O0) (by rw[f]) (by rw[f];exact hi.Qa)),s⟩
   injection e with e
   rw[<-e,d]at hww
   exact⟨p,w,hp,hww,z⟩
theorem Inv.op(a:Inv (G6 h) h)(ev:Ev)(hk:ev.W0=2)(R:M7 ev.op.n):Inv (G6 (h.da ev).2) (h.da ev).2:=by
 have Gi:=a.pp;have Mm:=a.D0;have Y:h.di ev=h.op ev:=by unfold I0.di;rw[V0 m4,S1 hk]
 unfold I0.da;rw[Y];simp only;have N:∀(e tx:Int)(v:Ba),(e=11∨tx=0∨e=22)->¬fU ⟨ev.W0,h.C0,ev.Z3,ev.N3,tx,ev.op,e,v⟩:=by rintro e tx v he ⟨_,s,D⟩;simp only at s D;omega
 unfold I0.op;split
 ·exact a.uM (N _ _ _ (.inl O))
 rename_i adP;have adP:ev.N3>=0∧ev.N3<h.D0.A0:=m4
 simp only;split
 ·exact a.uM (N _ _ _ (.inr (.inl O)))
 rename_i f;have f:(h.P2.Um ev.Z3 ev.N3 h.C0).2=0:=m4
 cases hp:h.G5 ev.N3 with
 |none=>simp_all[uM]
 |some p=>
  simp only;obtain⟨m,hm⟩:∃m:Nat,ev.N3=m:=⟨ev.N3.toNat,m4⟩;rw[hm]at hp adP f⊢;obtain⟨T,d⟩:∃T,(h.P2.Um ev.Z3 (m:Int) h.C0).1=T:=⟨_,rfl⟩;rw[d];have ajH:1<=T∧T<=h.P2.P0.length∧Qe (W (h.P2.entry T).1.J0) (m:Int)=true:=by
   unfold E9.Um at f d;simp only at f d;split at f
   ·omega
   rename_i a1;rw[V0 a1]at d;split at f
   ·omega
   rename_i a2;rw[V0 a2]at d;split at f
   ·omega
   rename_i a3;rw[V0 a3]at d;simp only at d;rw[d]at a2;refine⟨?_,?_,Zb1⟩;all_goals
    unfold E9.of at a1 d;split at a1
    ·exact absurd O a1
    rename_i b1;rw[V0 b1]at d;simp only at a1 d;split at a1
    ·exact absurd O a1
    rename_i b2;rw[V0 b2]at d;simp only at d;rw[d]at b2;by_cases z:T<1∨T>h.P2.P0.length
    ·refine absurd (.inl ?_) b2;unfold E9.entry;rw[S1 z]
    ·omega
  have M:(m:Int)<(G6 h).A0:=adP.2;have u:=a.E0 m M;rw[hp]at u;obtain⟨y,Z⟩:∃y,p.t7 h.O0.D0 {ev.op with tx:=T} h.C0=y:=⟨_,rfl⟩;have aes:=adw (pl:=h.O0.D0) (op:={ev.op with tx:=T}) (C0:=h.C0) u;have t:=(u.pi h.O0).t7 (op:={ev.op with tx:=T}) R h.O0.D0 h.C0;have hfr:G8 p.U1 (p.t7 h.O0.D0 {ev.op with tx:=T} h.C0).2.U1:=by
   unfold d4.t7;split;·exact G8.refl _
   split;·exact G8.refl _
   split;·exact G8.refl _
   exact(Lb.t7 p.U1 (op:={ev.op with tx:=T}) R h.C0).fresh (u.pi h.O0).lJ
  have V:(p.t7 h.O0.D0 {ev.op with tx:=T} h.C0).2.me=p.me:=by
   unfold d4.t7;split;·rfl
   split;·rfl
   split<;>rfl
  rw[Z]at aes t hfr V⊢;simp only at aes t;obtain⟨h',c⟩:∃h':I0,h'={h with A0:=h.A0.set m (some y.2),M3:=h.M3++[⟨ev.W0,h.C0,ev.Z3,(m:Int),T,ev.op,y.1.Ge,y.1.val⟩]}:=⟨_,rfl⟩;have anp:Inv (G6 h') h':=by
   have hch:∀q S,CH h' q S->CH h q S∨((q=(m:Int)∧S=T)∧(y.1.Ge=18∨y.1.Ge=16∨(y.1.Ge=0∧ev.op.W0=4))):=by
    rintro q S ⟨r,g,C,E,s⟩;rw[c]at g;rcases rh.1 g with g|g
    ·exact .inl ⟨r,g,C,E,s⟩
    ·right;rw[Gs.1 g]at C E s;exact⟨⟨E.symm,s.symm⟩,C.2.2⟩
   have aem:∀q S,Wd h' q S->Wd h q S:=fi (n:=m) (o:=some y.2) (by rw[c]) λq S w x K D=>by injection x with x;rw[<-x]at K;obtain⟨w',j,i⟩:=hfr S w K D<;>grind
   have b:(G6 h).Le (G6 h'):=by
    refine KJ (by rw[c]) (by rw[c]) (λq S _ z=>?_) (λq S _ hf=>aem q S hf);rcases hch q S z with k|⟨⟨j,i⟩,J⟩
    ·exact .inl k
    ·obtain⟨⟨w,w1,X⟩,_⟩:=aes J;right;rw[j,i];exact⟨m4,p,w,hp,w1,X⟩
   have L:(G6 h).A T:=⟨m4,ajH.2.1⟩;have alP:Ua (G6 h') m (some y.2) (h.U4 m):=by
    refine⟨λk=>(t.pt.O0 k).mono b.A (λr=>zf.Q.mono b),V.trans u.2.1,t.DI,λS l=>?_⟩;rcases hch _ S l with k|⟨⟨_,i⟩,J⟩
    ·exact t.pb S k
    ·simp[*]
   refine⟨by rw[b.A0];exact a.pp,by rw[b.A0,c];exact Mm,by rw[b.A0,c];exact a.Qa,by grind[zf.Le.A0,Ae],by rw[b.A0,c];exact a.Be,λn hn=>?_,?_,?_,?_,?_,by rw[c];exact a.C0,by rw[c];exact a.Nc,λq S l=>?_⟩
   ·have H:h'.U4 n=h.U4 n:=by rw[c];rfl
    have G:h'.G5 n=if m=n then some y.2 else h.G5 n:=by
     rw[c];show(h.A0.set m (some y.2)).getD _ _=_;rw[Sd];have:=a.Ae;by_cases e:m=n
     ·grind
     ·rw[V0 m4,V0 e];rfl
    rw[H,G];by_cases e:m=n
    ·simp_all
    ·rw[V0 e];refine(a.E0 n (by rw[<-b.A0];exact hn)).mono b λS l=>?_;rcases hch _ S l with k|⟨⟨j,_⟩,_⟩
     ·exact k
     omega
   ·have H:h'.O1=h.O1:=by rw[c]
    have G:∀n,h'.U4 n=h.U4 n:=λn=>by rw[c];rfl
    rw[H,G,b.A0];exact a.O1.mono b
   ·rw[show h'.O0=h.O0 by rw[c]];exact a.R4.mono b
   ·rw[show h'.O0=h.O0 by rw[c]];exact a.O0.imp λ_ _=>zf.F.mono b
   ·rw[show h'.p6=h.p6 by rw[c]];exact a.p6.imp λ_ _=>zf.F.mono b
   ·rcases hch q S l with k|⟨⟨j,i⟩,_⟩
    ·obtain⟨g1,g2,g3,g4⟩:=a.GP q S k<;>grind[zf.Le.A0,zf.Le.A,zf.Le.J0]
    ·rw[j,i];exact⟨m4,by rw[b.A0];exact M,b.A T L,by rw[b.J0 T L];exact ajH.2.2⟩
  simp_all
theorem Inv.da(c:Inv (G6 h) h)(ev:Ev)(f:M7 ev.op.n):Inv (G6 (h.da ev).2) (h.da ev).2:=by
 by_cases d:ev.W0=2
 ·simp_all[op]
 have key:Inv (G6 (h.di ev).2) (h.di ev).2∧(h.di ev).2.M3=h.M3:=by
  have hs:∀{h':I0},Inv (G6 h') h'∧G9 h h'->Inv (G6 h') h'∧h'.M3=h.M3:=λ⟨a,b⟩=>⟨a,b.M3⟩;unfold I0.di;split
  ·exact c.I1 ev
  split
  ·grind[Xa]
  split
  ·have:(h.T9 ev).2=h:=by
    unfold I0.T9;split
    ·rfl
    split
    ·rfl
    ·grind
   simp[*]
  split
  ·exact hs c.vj
  split
  ·unfold I0.zb;split
   ·have s:G9 h {h with C0:=h.C0+1}:=⟨rfl,rfl,rfl⟩;refine⟨s.A6 (Ra O) ⟨c.pp,c.D0,c.Qa,c.Ae,c.Be,c.E0,c.O1,c.R4,c.O0,c.p6,?_,c.Nc,c.GP⟩,rfl⟩;show 0<=h.C0+1;have:=c.C0;omega
   simp[*]
  split
  ·grind[A9]
  split
  ·have s:G9 h {h with p6:=(h.p6.take ev.N3 ev.up ev.t8 false).2.2}:=⟨rfl,rfl,rfl⟩;exact⟨s.A6 (Ra O) (c.Qu (Gq.take c.p6 ev.N3 ev.up ev.t8 false).1),rfl⟩
  split
  ·grind[N6]
  split
  ·grind[xd]
  split
  ·exact hs c.fa
  ·simp[*]
 exact key.1.uM (λe=>d e.1)
end
structure HB(P:zf)(N:Nat)(h:I0):Prop where
 A6:Inv P h
 n:N<=1000000
 D0:F8 h.D0.A0 h.D0.F0 h.D0.L0
 Qa:h.O0.D0=h.D0
 kb:KB 0 h.O0
 S8:∀p up l,K0 h.p6.S8 ⟨p,up⟩=some l->l.length<=16∧0<=p∧p<h.D0.A0
 P2:h.P2.Ok
 Dt:∀e∈h.P2.P0,¬e.J0=0#16
 A0:∀(n:Nat)(p:d4),h.G5 n=some p->SS (17000+16*N) p.U1∧p.B0.length<=8+h.P2.P0.length
 O1:∀C:D8,h.O1=some C->C.B0.length<=2048+h.P2.P0.length∧∀tx r,K0 C.B0 tx=some r->¬r.J0=0#16
theorem HB.VS{P:zf}(hb:HB P N h):F8 h.O0.D0.A0 h.O0.D0.F0 h.O0.D0.L0:=by rw[hb.Qa];exact hb.D0
section
variable{ev:Ev}
theorem ahT{P:zf}(h:Hp c w (bk pr (Zk ev t 0 0 X0) 42::G3 b N h0::R))(X:HB P N h0):Cs 125 #[Pt b,ev.v,Pt pr] w (pA c b N pr (Zk ev t) R (h0.Xa ev)):=by
 obtain⟨⟨⟨A0,F0,L0⟩,R0,C0,k,m,i,q,e,p,E,j⟩,⟨pk,pl,z,K,cd,J,G,H,F,L,cs,u⟩,rfl,r,Q,h⟩:=(h.g [1] rfl).C4;simp only at r Q h;replace h:Hp c w (bk pr [I ev.W0,I t,I ev.Z3,I ev.N3,I 0,I ev.op.W0,I ev.op.tx,B8 ev.op.key.a,B8 ev.op.key.b,B8 ev.op.key.x,B8 ev.op.key.y,I ev.op.n,I 0,.bool false,I 0] 42::bk b [I A0,I F0,I L0,I R0,I C0,Pt pk,Pt pl,Pt z,.slice K (q.map (·.d)++[e]).length cd,.slice J (q.map S2.pp).length G,la (E.map (·.1)),.slice H j.length F,.slice L u.length cs] 90::K1 pk k::x5 pl m::z6 z i::so 99 am K cd (q.map (·.d)++[e])::so 61 Pg J G (q.map S2.pp)::so 42 I9 H F j::so 215 jl L cs u::rl (sh.mem N) u::rl (M4 pk N) q::Lf pk e p E::R):=h.g [11] O;have fH:i.Ok:=X.P2;have Tx:F8 k.D0.A0 k.D0.F0 k.D0.L0:=X.VS;have Gi:=X.D0.A0;replace Gi:1<=A0∧A0<=6:=Gi;obtain⟨⟨tx,ok⟩,T⟩:∃V,i.of ev.Z3 C0=V:=⟨_,rfl⟩;have hOf:=λ(w:World)(R:List HP)(h:Hp c w (z6 z i::R))=>acZ (cl:=ev.Z3) (C0:=C0) h fH;rw[T]at hOf;simp only at hOf;have Z:((q.map S2.pp).length:Int)=A0:=by rw[H7];exact r
 cases ok with
 |false=>
  have M:I0.Xa (HS.J1 ⟨⟨A0,F0,L0⟩,R0,C0,k,m,i,q,e,p,E,j⟩) ev=(ma 12,HS.J1 ⟨⟨A0,F0,L0⟩,R0,C0,k,m,i,q,e,p,E,j⟩):=by unfold I0.Xa;simp only[HS.J1,T,if_true]
  rw[M];exact R2 func125 O (I2 h O λb1 w h=>Y6 h [0,1,2,4,6,7,8,3,5,59,110,11,12,13,14,15] λh=>U3 2 O O (U3 0 O O (U0 h 2 O O ⟨h,N1 (hOf _ _ (h.g [5] O)) λw h=>nl (Ai h O) λw h=>λ_=>Or.inr ⟨rfl,rfl,(Hp.F1 (s:=⟨⟨A0,F0,L0⟩,R0,C0,k,m,i,q,e,p,E,j⟩) (g:=⟨pk,pl,z,K,cd,J,G,H,F,L,cs,u⟩) O r Q (h.q 13 [3,4,5,0,6,7,8,9,10,11,12,2] O)).g [1] O⟩⟩)))
 |true=>
  cases E with
  |none=>
   have M:I0.Xa (HS.J1 ⟨⟨A0,F0,L0⟩,R0,C0,k,m,i,q,e,p,none,j⟩) ev=(⟨22,tx,X0⟩,HS.J1 ⟨⟨A0,F0,L0⟩,R0,C0,k,m,i,q,e,p,none,j⟩):=by unfold I0.Xa;simp only[HS.J1,T,Bool.true_eq_false,if_false,Option.map_none]
   rw[M];refine R2 func125 O (I2 h O λb1 w h=>Y6 h [0,1,2,4,6,7,8,3,5,59,110,11,12,13,14,15] λh=>U3 2 O O (U3 0 O O (U0 h 2 O O ⟨h,N1 (hOf _ _ (h.g [5] O)) λw h=>N1 (Ff h O) λw h=>J3 h 2 O O O λw h=>U0 h 3 O O (nl (XN (ch:=none) (ps:=q.map S2.pp) (h.g [3,7] O) m4 Z (by unfold Bc<;>grind)) λw h=>?_)⟩)));exact λ_=>Or.inr ⟨rfl,rfl,(Hp.F1 (s:=⟨⟨A0,F0,L0⟩,R0,C0,k,m,i,q,e,p,none,j⟩) (g:=⟨pk,pl,z,K,cd,J,G,H,F,L,cs,u⟩) O r Q (h.q 13 [0,5,6,2,7,1,8,9,10,11,12,4] O)).g [1] O⟩
  |some y=>
   obtain⟨f,C⟩:=y;obtain⟨⟨er,⟨D,o,l⟩⟩,Y⟩:∃V,CW.Xa ⟨C,k,p⟩ tx C0=V:=⟨_,rfl⟩;obtain⟨FI,kk2,_⟩:=Qs ⟨C,k,p⟩ tx C0;rw[Y]at FI kk2;simp only at FI kk2;subst FI kk2;have S:=λ(w:World)(R:List HP)(h:Hp c w (r6 pk e f C::K1 pk o::R))=>aeZ (x:=l) (tx:=tx) (C0:=C0) h Tx;rw[Y]at S;simp only at S;have M:I0.Xa (HS.J1 ⟨⟨A0,F0,L0⟩,R0,C0,o,m,i,q,e,l,some (f,C),j⟩) ev=(⟨er,tx,X0⟩,HS.J1 ⟨⟨A0,F0,L0⟩,R0,C0,o,m,i,q,e,l,some (f,D),j⟩):=by
    have a1:(HS.J1 ⟨⟨A0,F0,L0⟩,R0,C0,o,m,i,q,e,l,some (f,C),j⟩).P2.of ev.Z3 (HS.J1 ⟨⟨A0,F0,L0⟩,R0,C0,o,m,i,q,e,l,some (f,C),j⟩).C0=(tx,true):=T;have a2:I0.Xa (HS.J1 ⟨⟨A0,F0,L0⟩,R0,C0,o,m,i,q,e,l,some (f,C),j⟩) ev=(⟨(((HS.J1 ⟨⟨A0,F0,L0⟩,R0,C0,o,m,i,q,e,l,some (f,C),j⟩).cw C).Xa tx C0).1,tx,X0⟩,(HS.J1 ⟨⟨A0,F0,L0⟩,R0,C0,o,m,i,q,e,l,some (f,C),j⟩).G7 (((HS.J1 ⟨⟨A0,F0,L0⟩,R0,C0,o,m,i,q,e,l,some (f,C),j⟩).cw C).Xa tx C0).2):=by unfold I0.Xa;rw[a1];rfl
    rw[a2,HS.cwE (s:=⟨⟨A0,F0,L0⟩,R0,C0,o,m,i,q,e,l,some (f,C),j⟩) r];simp only[Y];rw[HS.ZF (s:=⟨⟨A0,F0,L0⟩,R0,C0,o,m,i,q,e,l,some (f,C),j⟩) r f]
   rw[M];by_cases g1:er=0
   ·subst g1;refine R2 func125 O (I2 h O λb1 w h=>Y6 h [0,1,2,4,6,7,8,3,5,59,110,11,12,13,14,15] λh=>U3 2 O O (U3 0 O O (U0 h 2 O O ⟨h,N1 (hOf _ _ (h.g [5] O)) λw h=>N1 (Ff h O) λw h=>J3 h 2 O O O λw h=>U0 h 3 O O (N1 (xA (ch:=some f) (ps:=q.map S2.pp) (h.g [3,7] O) m4 Z (by unfold Bc<;>grind)) λw h=>?_)⟩)));refine Y6 h [0,1,2,4,5,6,7,3,58,109,110] λh=>U3 0 O O (U0 h 0 O O ⟨h,?_⟩);replace h:Hp _ _ (M1 e l::r6 pk e f C::_):=Hp.R6 (h.g [12] O);refine N1 (S _ _ (h.g [1,7] O)) λw h=>N1 (Gf h O) λw h=>?_;replace h:Hp _ _ (Lf pk e l (some (f,D))::_):=Hp.C3 (A:=[M1 e l,r6 pk e f D]) (h.g [2] O);exact .inl ⟨rfl,(Hp.F1 (s:=⟨⟨A0,F0,L0⟩,R0,C0,o,m,i,q,e,l,some (f,D),j⟩) (g:=⟨pk,pl,z,K,cd,J,G,H,F,L,cs,u⟩) O r Q (h.q 13 [2,1,7,4,8,3,9,10,11,12,0,6] O)).g [1] O⟩
   ·skip;refine R2 func125 O (I2 h O λb1 w h=>Y6 h [0,1,2,4,6,7,8,3,5,59,110,11,12,13,14,15] λh=>U3 2 O O (U3 0 O O (U0 h 2 O O ⟨h,N1 (hOf _ _ (h.g [5] O)) λw h=>N1 (Ff h O) λw h=>J3 h 2 O O O λw h=>U0 h 3 O O (N1 (xA (ch:=some f) (ps:=q.map S2.pp) (h.g [3,7] O) m4 Z (by unfold Bc<;>grind)) λw h=>?_)⟩)));refine Y6 h [0,1,2,4,5,6,7,3,58,109,110] λh=>U3 0 O O (U0 h 0 O O ⟨h,?_⟩);replace h:Hp _ _ (M1 e l::r6 pk e f C::_):=Hp.R6 (h.g [12] O);refine N1 (S _ _ (h.g [1,7] O)) λw h=>nl (xp h g1) λw h=>λ_=>Or.inr ⟨rfl,rfl,?_⟩;replace h:Hp _ _ (Lf pk e l (some (f,D))::_):=Hp.C3 (A:=[M1 e l,r6 pk e f D]) (h.g [2] O);exact(Hp.F1 (s:=⟨⟨A0,F0,L0⟩,R0,C0,o,m,i,q,e,l,some (f,D),j⟩) (g:=⟨pk,pl,z,K,cd,J,G,H,F,L,cs,u⟩) O r Q (h.q 13 [2,1,7,4,8,3,9,10,11,12,0,6] O)).g [1] O
end
section
variable{ev:Ev}
theorem ahS{P:zf}(h:Hp c w (bk pr (Zk ev t 0 0 X0) 42::G3 b N h0::R))(X:HB P N h0)(hl:ng c):Cs 126 #[Pt b,ev.v,Pt pr] w (pA c b N pr (Zk ev t) R (h0.T9 ev)):=by
 obtain⟨⟨⟨A0,F0,L0⟩,R0,C0,k,p,m,q,f,i,M,o⟩,⟨pk,pl,u,J,cd,H,F,G,E,K,cs,r⟩,rfl,z,L,h⟩:=(h.g [1] rfl).C4;simp only at z L h;replace h:Hp c w (bk pr [I ev.W0,I t,I ev.Z3,I ev.N3,I 0,I ev.op.W0,I ev.op.tx,B8 ev.op.key.a,B8 ev.op.key.b,B8 ev.op.key.x,B8 ev.op.key.y,I ev.op.n,I 0,.bool false,I 0] 42::bk b [I A0,I F0,I L0,I R0,I C0,Pt pk,Pt pl,Pt u,.slice J (q.map (·.d)++[f]).length cd,.slice H (q.map S2.pp).length F,la (M.map (·.1)),.slice G o.length E,.slice K r.length cs] 90::K1 pk k::x5 pl p::z6 u m::so 99 am J cd (q.map (·.d)++[f])::so 61 Pg H F (q.map S2.pp)::so 42 I9 G E o::so 215 jl K cs r::rl (sh.mem N) r::rl (M4 pk N) q::Lf pk f i M::R):=h.g [11] O;have fH:m.Ok:=X.P2;have Tx:F8 k.D0.A0 k.D0.F0 k.D0.L0:=X.VS;have Gi:=X.D0.A0;replace Gi:1<=A0∧A0<=6:=Gi;have S:((q.map S2.pp).length:Int)=A0:=by rw[H7];exact z
 obtain⟨⟨e,ok⟩,Y⟩:∃V,m.entry ev.tx=V:=⟨_,rfl⟩;have D:=λ(w:World)(R:List HP)(h:Hp c w (z6 u m::R))=>nO (tx:=ev.tx) h fH.l;rw[Y]at D;simp only at D;cases ok with
 |false=>
  have e1:I0.T9 (HS.J1 ⟨⟨A0,F0,L0⟩,R0,C0,k,p,m,q,f,i,M,o⟩) ev=(⟨12,ev.tx,X0⟩,HS.J1 ⟨⟨A0,F0,L0⟩,R0,C0,k,p,m,q,f,i,M,o⟩):=by have a1:(HS.J1 ⟨⟨A0,F0,L0⟩,R0,C0,k,p,m,q,f,i,M,o⟩).P2.entry ev.tx=(e,false):=Y;unfold I0.T9;rw[a1];rfl
  rw[e1];refine R2 func126 O (I2 h O λb1 w h=>U0 h 0 O O (J3 h 1 O O O λw h=>Bs h (qs [0,1,2,4,3,5] (.w2 6 (qs [7,8,9] (vs [10,11] (qs [12] .done))) 10 (vs [6] (qs [7,8,9] (vs [11] (qs [12] .done)))))) λh=>U3 2 O O (U3 0 O O ⟨?_,?_⟩)))
  ·exact N1 (D _ _ (h.g [5] O)) λw h=>⟨h.g [1,2,3,4,5] O,I2 h O λb2 w h=>J3 h 0 O O O λw h=>nl (Ai h O) λw h=>λ_=>Or.inr ⟨rfl,rfl,(Hp.F1 (s:=⟨⟨A0,F0,L0⟩,R0,C0,k,p,m,q,f,i,M,o⟩) (g:=⟨pk,pl,u,J,cd,H,F,G,E,K,cs,r⟩) O z L (h.q 14 [4,5,6,1,7,8,9,10,11,12,13,3] O)).g [1] O⟩⟩
  ·exact I2 h O λb2 w h=>⟨h.q 14 [1,2,3,4,5,6,7,8,9,10,11,12,13] O,N1 (D _ _ (h.g [6] O)) λw h=>J3 h 1 O O O λw h=>nl (Ai h O) λw h=>λ_=>Or.inr ⟨rfl,rfl,(Hp.F1 (s:=⟨⟨A0,F0,L0⟩,R0,C0,k,p,m,q,f,i,M,o⟩) (g:=⟨pk,pl,u,J,cd,H,F,G,E,K,cs,r⟩) O z L (h.q 14 [4,5,6,0,7,8,9,10,11,12,13,3] O)).g [1] O⟩⟩
 |true=>
  cases M with
  |none=>
   have e1:I0.T9 (HS.J1 ⟨⟨A0,F0,L0⟩,R0,C0,k,p,m,q,f,i,none,o⟩) ev=(⟨22,ev.tx,X0⟩,HS.J1 ⟨⟨A0,F0,L0⟩,R0,C0,k,p,m,q,f,i,none,o⟩):=by have a1:(HS.J1 ⟨⟨A0,F0,L0⟩,R0,C0,k,p,m,q,f,i,none,o⟩).P2.entry ev.tx=(e,true):=Y;unfold I0.T9;rw[a1];rfl
   rw[e1];refine R2 func126 O (I2 h O λb1 w h=>U0 h 0 O O (J3 h 1 O O O λw h=>Bs h (qs [0,1,2,4,3,5] (.w2 6 (qs [7,8,9] (vs [10,11] (qs [12] .done))) 10 (vs [6] (qs [7,8,9] (vs [11] (qs [12] .done)))))) λh=>U3 2 O O (U3 0 O O ⟨?_,?_⟩)))
   ·exact N1 (D _ _ (h.g [5] O)) λw h=>⟨h.g [1,2,3,4,5] O,I2 h O λb2 w h=>J3 h 0 O O O λw h=>N1 (Ff h O) λw h=>U0 h 4 O O (nl (XN (ch:=none) (ps:=q.map S2.pp) (h.g [4,8] O) m4 S (by unfold Bc<;>grind)) λw h=>λ_=>Or.inr ⟨rfl,rfl,(Hp.F1 (s:=⟨⟨A0,F0,L0⟩,R0,C0,k,p,m,q,f,i,none,o⟩) (g:=⟨pk,pl,u,J,cd,H,F,G,E,K,cs,r⟩) O z L (h.q 14 [0,6,7,3,8,1,9,10,11,12,13,5] O)).g [1] O⟩)⟩
   ·exact I2 h O λb2 w h=>⟨h.q 14 [1,2,3,4,5,6,7,8,9,10,11,12,13] O,N1 (D _ _ (h.g [6] O)) λw h=>J3 h 1 O O O λw h=>N1 (Ff h O) λw h=>U0 h 4 O O (nl (XN (ch:=none) (ps:=q.map S2.pp) (h.g [4,8] O) m4 S (by unfold Bc<;>grind)) λw h=>λ_=>Or.inr ⟨rfl,rfl,(Hp.F1 (s:=⟨⟨A0,F0,L0⟩,R0,C0,k,p,m,q,f,i,none,o⟩) (g:=⟨pk,pl,u,J,cd,H,F,G,E,K,cs,r⟩) O z L (h.q 14 [0,6,7,2,8,1,9,10,11,12,13,5] O)).g [1] O⟩)⟩
  |some y=>
   obtain⟨j,C⟩:=y;obtain⟨⟨vv,Z⟩,hW⟩:∃V,CW.T9 ⟨C,k,i⟩ ev.tx C0=V:=⟨_,rfl⟩;have Q:=λ(w:World)(R:List HP)(h:Hp c w (r6 pk f j C::K1 pk k::R))=>UV (x:=i) (tx:=ev.tx) (C0:=C0) h hl (X.O1 C O).2;rw[hW]at Q;simp only at Q;have a2:I0.T9 (HS.J1 ⟨⟨A0,F0,L0⟩,R0,C0,k,p,m,q,f,i,some (j,C),o⟩) ev=(if¬Z=0 then(⟨Z,ev.tx,X0⟩,HS.J1 ⟨⟨A0,F0,L0⟩,R0,C0,k,p,m,q,f,i,some (j,C),o⟩)else(⟨0,ev.tx,⟨true,vv⟩⟩,HS.J1 ⟨⟨A0,F0,L0⟩,R0,C0,k,p,m,q,f,i,some (j,C),o⟩)):=by
    have a1:(HS.J1 ⟨⟨A0,F0,L0⟩,R0,C0,k,p,m,q,f,i,some (j,C),o⟩).P2.entry ev.tx=(e,true):=Y;have a3:I0.T9 (HS.J1 ⟨⟨A0,F0,L0⟩,R0,C0,k,p,m,q,f,i,some (j,C),o⟩) ev=(if¬(((HS.J1 ⟨⟨A0,F0,L0⟩,R0,C0,k,p,m,q,f,i,some (j,C),o⟩).cw C).T9 ev.tx C0).2=0 then(⟨(((HS.J1 ⟨⟨A0,F0,L0⟩,R0,C0,k,p,m,q,f,i,some (j,C),o⟩).cw C).T9 ev.tx C0).2,ev.tx,X0⟩,HS.J1 ⟨⟨A0,F0,L0⟩,R0,C0,k,p,m,q,f,i,some (j,C),o⟩)else(⟨0,ev.tx,⟨true,(((HS.J1 ⟨⟨A0,F0,L0⟩,R0,C0,k,p,m,q,f,i,some (j,C),o⟩).cw C).T9 ev.tx C0).1⟩⟩,HS.J1 ⟨⟨A0,F0,L0⟩,R0,C0,k,p,m,q,f,i,some (j,C),o⟩)):=by unfold I0.T9;rw[a1];rfl
    rw[a3,HS.cwE (s:=⟨⟨A0,F0,L0⟩,R0,C0,k,p,m,q,f,i,some (j,C),o⟩) z];simp only[hW]
   rw[a2];by_cases T:Z=0
   ·rw[V0 (λk=>k T)];subst T;refine R2 func126 O (I2 h O λb1 w h=>U0 h 0 O O (J3 h 1 O O O λw h=>Bs h (qs [0,1,2,4,3,5] (.w2 6 (qs [7,8,9] (vs [10,11] (qs [12] .done))) 10 (vs [6] (qs [7,8,9] (vs [11] (qs [12] .done)))))) λh=>U3 2 O O (U3 0 O O ⟨?_,?_⟩)))
    ·refine N1 (D _ _ (h.g [5] O)) λw h=>⟨h.g [1,2,3,4,5] O,I2 h O λb2 w h=>J3 h 0 O O O λw h=>N1 (Ff h O) λw h=>U0 h 4 O O (N1 (xA (ch:=some j) (ps:=q.map S2.pp) (h.g [4,8] O) m4 S (by unfold Bc<;>grind)) λw h=>Y6 h [0,1,2,4,6,7,8,3,5,59,110,11,12,13,14,15] λh=>U3 0 O O (U3 4 O O (U0 h 0 O O ⟨h,?_⟩)))⟩;replace h:Hp _ _ (M1 f i::r6 pk f j C::_):=Hp.R6 (h.g [13] O);refine N1 (Q _ _ (h.g [1,8] O)) λw h=>N1 (Gf h O) λw h=>J3 h 8 O O O λw h=>?_;replace h:Hp _ _ (Lf pk f i (some (j,C))::_):=Hp.C3 (A:=[M1 f i,r6 pk f j C]) (h.g [2] O);exact .inl ⟨rfl,(Hp.F1 (s:=⟨⟨A0,F0,L0⟩,R0,C0,k,p,m,q,f,i,(some (j,C)),o⟩) (g:=⟨pk,pl,u,J,cd,H,F,G,E,K,cs,r⟩) O z L (h.q 14 [2,1,8,5,9,3,10,11,12,13,0,7] O)).g [1] O⟩
    ·refine I2 h O λb2 w h=>⟨h.q 14 [1,2,3,4,5,6,7,8,9,10,11,12,13] O,N1 (D _ _ (h.g [6] O)) λw h=>J3 h 1 O O O λw h=>N1 (Ff h O) λw h=>U0 h 4 O O (N1 (xA (ch:=some j) (ps:=q.map S2.pp) (h.g [4,8] O) m4 S (by unfold Bc<;>grind)) λw h=>Y6 h [0,1,2,4,6,7,8,3,5,59,110,11,12,13,14,15] λh=>U3 0 O O (U3 4 O O (U0 h 0 O O ⟨h,?_⟩)))⟩;replace h:Hp _ _ (M1 f i::r6 pk f j C::_):=Hp.R6 (h.g [13] O);refine N1 (Q _ _ (h.g [1,8] O)) λw h=>N1 (Gf h O) λw h=>J3 h 8 O O O λw h=>?_;replace h:Hp _ _ (Lf pk f i (some (j,C))::_):=Hp.C3 (A:=[M1 f i,r6 pk f j C]) (h.g [2] O);exact .inl ⟨rfl,(Hp.F1 (s:=⟨⟨A0,F0,L0⟩,R0,C0,k,p,m,q,f,i,(some (j,C)),o⟩) (g:=⟨pk,pl,u,J,cd,H,F,G,E,K,cs,r⟩) O z L (h.q 14 [2,1,8,4,9,3,10,11,12,13,0,7] O)).g [1] O⟩
   ·rw[S1 T];refine R2 func126 O (I2 h O λb1 w h=>U0 h 0 O O (J3 h 1 O O O λw h=>Bs h (qs [0,1,2,4,3,5] (.w2 6 (qs [7,8,9] (vs [10,11] (qs [12] .done))) 10 (vs [6] (qs [7,8,9] (vs [11] (qs [12] .done)))))) λh=>U3 2 O O (U3 0 O O ⟨?_,?_⟩)))
    ·refine N1 (D _ _ (h.g [5] O)) λw h=>⟨h.g [1,2,3,4,5] O,I2 h O λb2 w h=>J3 h 0 O O O λw h=>N1 (Ff h O) λw h=>U0 h 4 O O (N1 (xA (ch:=some j) (ps:=q.map S2.pp) (h.g [4,8] O) m4 S (by unfold Bc<;>grind)) λw h=>Y6 h [0,1,2,4,6,7,8,3,5,59,110,11,12,13,14,15] λh=>U3 0 O O (U3 4 O O (U0 h 0 O O ⟨h,?_⟩)))⟩;replace h:Hp _ _ (M1 f i::r6 pk f j C::_):=Hp.R6 (h.g [13] O);refine N1 (Q _ _ (h.g [1,8] O)) λw h=>nl (xp h T) λw h=>λ_=>Or.inr ⟨rfl,rfl,?_⟩;replace h:Hp _ _ (Lf pk f i (some (j,C))::_):=Hp.C3 (A:=[M1 f i,r6 pk f j C]) (h.g [2] O);exact(Hp.F1 (s:=⟨⟨A0,F0,L0⟩,R0,C0,k,p,m,q,f,i,(some (j,C)),o⟩) (g:=⟨pk,pl,u,J,cd,H,F,G,E,K,cs,r⟩) O z L (h.q 14 [2,1,8,5,9,3,10,11,12,13,0,7] O)).g [1] O
    ·refine I2 h O λb2 w h=>⟨h.q 14 [1,2,3,4,5,6,7,8,9,10,11,12,13] O,N1 (D _ _ (h.g [6] O)) λw h=>J3 h 1 O O O λw h=>N1 (Ff h O) λw h=>U0 h 4 O O (N1 (xA (ch:=some j) (ps:=q.map S2.pp) (h.g [4,8] O) m4 S (by unfold Bc<;>grind)) λw h=>Y6 h [0,1,2,4,6,7,8,3,5,59,110,11,12,13,14,15] λh=>U3 0 O O (U3 4 O O (U0 h 0 O O ⟨h,?_⟩)))⟩;replace h:Hp _ _ (M1 f i::r6 pk f j C::_):=Hp.R6 (h.g [13] O);refine N1 (Q _ _ (h.g [1,8] O)) λw h=>nl (xp h T) λw h=>λ_=>Or.inr ⟨rfl,rfl,?_⟩;replace h:Hp _ _ (Lf pk f i (some (j,C))::_):=Hp.C3 (A:=[M1 f i,r6 pk f j C]) (h.g [2] O);exact(Hp.F1 (s:=⟨⟨A0,F0,L0⟩,R0,C0,k,p,m,q,f,i,(some (j,C)),o⟩) (g:=⟨pk,pl,u,J,cd,H,F,G,E,K,cs,r⟩) O z L (h.q 14 [2,1,8,4,9,3,10,11,12,13,0,7] O)).g [1] O
theorem ahO{P:zf}(h:Hp c w (bk pr (Zk ev t 0 0 X0) 42::G3 b N h0::R))(F:HB P N h0):Cs 130 #[Pt b,ev.v,Pt pr] w (pA c b N pr (Zk ev t) R ((ma (h0.p6.take ev.N3 ev.up ev.t8 false).2.1,{h0 with p6:=(h0.p6.take ev.N3 ev.up ev.t8 false).2.2}))):=by
 obtain⟨⟨⟨A0,F0,L0⟩,R0,C0,k,u,o,q,e,r,j,f⟩,⟨pk,pl,C,L,cd,K,H,J,G,M,cs,z⟩,rfl,E,S,h⟩:=(h.g [1] rfl).C4;simp only at E S h;replace h:Hp c w (bk pr [I ev.W0,I t,I ev.Z3,I ev.N3,I 0,I ev.op.W0,I ev.op.tx,B8 ev.op.key.a,B8 ev.op.key.b,B8 ev.op.key.x,B8 ev.op.key.y,I ev.op.n,I 0,.bool false,I 0] 42::bk b [I A0,I F0,I L0,I R0,I C0,Pt pk,Pt pl,Pt C,.slice L (q.map (·.d)++[e]).length cd,.slice K (q.map S2.pp).length H,la (j.map (·.1)),.slice J f.length G,.slice M z.length cs] 90::K1 pk k::x5 pl u::z6 C o::so 99 am L cd (q.map (·.d)++[e])::so 61 Pg K H (q.map S2.pp)::so 42 I9 J G f::so 215 jl M cs z::rl (sh.mem N) z::rl (M4 pk N) q::Lf pk e r j::R):=h.g [11] O;have fH:o.Ok:=F.P2;have Tx:F8 k.D0.A0 k.D0.F0 k.D0.L0:=F.VS;have Y:=F.D0.A0;replace Y:1<=A0∧A0<=6:=Y;have bi:((q.map S2.pp).length:Int)=A0:=by rw[H7];exact E
 obtain⟨⟨m,Q,D⟩,T⟩:∃V,u.take ev.N3 ev.up ev.t8 false=V:=⟨_,rfl⟩;have A:=λ(w:World)(R:List HP)(h:Hp c w (x5 pl u::R))=>ahN (p:=ev.N3) (i:=ev.t8) (up:=ev.up) h (λl Z=>(F.S8 _ _ l Z).1);rw[T]at A;simp only at A;have e1:(ma ((HS.J1 ⟨⟨A0,F0,L0⟩,R0,C0,k,u,o,q,e,r,j,f⟩).p6.take ev.N3 ev.up ev.t8 false).2.1,{HS.J1 ⟨⟨A0,F0,L0⟩,R0,C0,k,u,o,q,e,r,j,f⟩with p6:=((HS.J1 ⟨⟨A0,F0,L0⟩,R0,C0,k,u,o,q,e,r,j,f⟩).p6.take ev.N3 ev.up ev.t8 false).2.2})=(ma Q,HS.J1 ⟨⟨A0,F0,L0⟩,R0,C0,k,D,o,q,e,r,j,f⟩):=by have a1:(HS.J1 ⟨⟨A0,F0,L0⟩,R0,C0,k,u,o,q,e,r,j,f⟩).p6.take ev.N3 ev.up ev.t8 false=(m,Q,D):=T;rw[a1];rfl
 rw[e1];by_cases X:Q=0
 ·subst X;exact R2 func130 O (I2 h O λb1 w h=>Y6 h [0,1,2,4,6,8,3,5,7,59,110,111] λh=>U3 2 O O (U3 0 O O (U3 0 O O (U0 h 0 O O ⟨h,N1 (A _ _ (h.g [4] O)) λw h=>N1 (Gf h O) λw h=> .inl ⟨rfl,(Hp.F1 (s:=⟨⟨A0,F0,L0⟩,R0,C0,k,D,o,q,e,r,j,f⟩) (g:=⟨pk,pl,C,L,cd,K,H,J,G,M,cs,z⟩) O E S (h.q 13 [3,4,0,5,6,7,8,9,10,11,12,2] O)).g [1] O⟩⟩))))
 ·skip;exact R2 func130 O (I2 h O λb1 w h=>Y6 h [0,1,2,4,6,8,3,5,7,59,110,111] λh=>U3 2 O O (U3 0 O O (U3 0 O O (U0 h 0 O O ⟨h,N1 (A _ _ (h.g [4] O)) λw h=>nl (xp h X) λw h=>λ_=>Or.inr ⟨rfl,rfl,(Hp.F1 (s:=⟨⟨A0,F0,L0⟩,R0,C0,k,D,o,q,e,r,j,f⟩) (g:=⟨pk,pl,C,L,cd,K,H,J,G,M,cs,z⟩) O E S (h.q 13 [3,4,0,5,6,7,8,9,10,11,12,2] O)).g [1] O⟩⟩))))
end
theorem HS.upE{s:HS}(a:(s.q.length:Int)=s.D0.A0){n:Int}:s.J1.up n=(Bc s.D0.A0 (s.oc.map (·.1)) (s.q.map S2.pp) n).2:=by
 unfold I0.up Bc;have e:s.J1.D0.A0=s.D0.A0:=rfl;rw[e];by_cases g:n=s.D0.A0
 ·simp_all[HS.J1]
 ·rw[V0 g,V0 g];unfold I0.G5 HS.J1;simp only[List.getD_eq_getElem?_getD,List.getElem?_map];cases s.q[n.toNat]? with
  |none=>rfl
  |some y=>simp[S2.E0,S2.pp]
theorem TV{l:O6}{p i:Int}{up st:Bool}(h:(l.take p up i st).2.1=0):∃b,K0 l.S8 ⟨p,up⟩=some b:=by unfold O6.take at h<;>grind
section
variable{ev:Ev}
theorem ahP{P:zf}(h:Hp c w (bk pr (Zk ev t 0 0 X0) 42::G3 b N h0::R))(hb:HB P N h0):Cs 129 #[Pt b,ev.v,Pt pr] w (pA c b N pr (Zk ev t) R (h0.A9 ev)):=by
 obtain⟨⟨⟨A0,F0,L0⟩,R0,C0,k,C,z,q,r,A,j,u⟩,⟨pk,pl,G,Q,cd,L,J,K,H,S,cs,D⟩,rfl,E,X,h⟩:=(h.g [1] rfl).C4;simp only at E X h;replace h:Hp c w (bk pr [I ev.W0,I t,I ev.Z3,I ev.N3,I 0,I ev.op.W0,I ev.op.tx,B8 ev.op.key.a,B8 ev.op.key.b,B8 ev.op.key.x,B8 ev.op.key.y,I ev.op.n,I 0,.bool false,I 0] 42::bk b [I A0,I F0,I L0,I R0,I C0,Pt pk,Pt pl,Pt G,.slice Q (q.map (·.d)++[r]).length cd,.slice L (q.map S2.pp).length J,la (j.map (·.1)),.slice K u.length H,.slice S D.length cs] 90::K1 pk k::x5 pl C::z6 G z::so 99 am Q cd (q.map (·.d)++[r])::so 61 Pg L J (q.map S2.pp)::so 42 I9 K H u::so 215 jl S cs D::rl (sh.mem N) D::rl (M4 pk N) q::Lf pk r A j::R):=h.g [11] O;have fH:z.Ok:=hb.P2;have Tx:F8 k.D0.A0 k.D0.F0 k.D0.L0:=hb.VS;have Gi:=hb.D0.A0;replace Gi:1<=A0∧A0<=6:=Gi;have Y:((q.map S2.pp).length:Int)=A0:=by rw[H7];exact E
 have kK:k.Ok:=hb.kb.ok;obtain⟨⟨m,er,o⟩,hV⟩:∃V,C.take ev.N3 ev.up ev.t8 ev.uc=V:=⟨_,rfl⟩;have F:=λ(w:World)(R:List HP)(h:Hp c w (x5 pl C::R))=>fZ (p:=ev.N3) (i:=ev.t8) (up:=ev.up) (st:=ev.uc) h (λl hl=>(hb.S8 _ _ l hl).1);have Iz:er=0->0<=ev.N3∧ev.N3<A0:=λe=>by obtain⟨l,hl⟩:=TV (l:=C) (p:=ev.N3) (up:=ev.up) (i:=ev.t8) (st:=ev.uc) Zb1;exact(hb.S8 _ _ l hl).2
 rw[hV]at F;simp only at F;obtain⟨⟨okc,k'⟩,hC⟩:∃V,k.A9 ev.N3 ev.up m=V:=⟨_,rfl⟩;have UM:=λ(w:World)(R:List HP)(h:Hp c w (K1 pk k::R))=>ahs (p:=ev.N3) (up:=ev.up) (m:=m) h kK;rw[hC]at UM;simp only at UM;have e1:I0.A9 (HS.J1 ⟨⟨A0,F0,L0⟩,R0,C0,k,C,z,q,r,A,j,u⟩) ev=(if¬er=0 then(ma er,HS.J1 ⟨⟨A0,F0,L0⟩,R0,C0,k,o,z,q,r,A,j,u⟩)else if(HS.J1 ⟨⟨A0,F0,L0⟩,R0,C0,k,o,z,q,r,A,j,u⟩).up (if ev.up then A0 else ev.N3)=false then(ma 22,HS.J1 ⟨⟨A0,F0,L0⟩,R0,C0,k,o,z,q,r,A,j,u⟩)else(if okc then oA else ma 15,HS.J1 ⟨⟨A0,F0,L0⟩,R0,C0,k',o,z,q,r,A,j,u⟩)):=by have a1:(HS.J1 ⟨⟨A0,F0,L0⟩,R0,C0,k,C,z,q,r,A,j,u⟩).p6.take ev.N3 ev.up ev.t8 ev.uc=(m,er,o):=hV;have a2:(HS.J1 ⟨⟨A0,F0,L0⟩,R0,C0,k,C,z,q,r,A,j,u⟩).O0.A9 ev.N3 ev.up m=(okc,k'):=hC;unfold I0.A9;rw[a1];simp only;rw[a2];rfl
 rw[e1,HS.upE (s:=⟨⟨A0,F0,L0⟩,R0,C0,k,o,z,q,r,A,j,u⟩) E];clear e1;by_cases g1:er=0
 case neg=>
  rw[S1 g1];refine R2 func129 O (I2 h O λb1 w h=>?_);replace h:=h.g [4] O;refine ja.D0 kn o8 (λw'=>Hp c w' ((sf λl=>x5 pl l)::_)) (qs [0,1,2,4,6,8,10,3,5,7,9,11] (.w2 12 (qs [13,14,15] (vs [16,17] (qs [18] .done))) 16 (vs [12] (qs [13,14,15] (vs [17] (qs [18] .done)))))) Zb2 (Hp.R8 (f:=λl=>x5 pl l) C h).drew ?_;replace h:=h.drew;refine U3 3 O O (U3 1 O O (U3 1 O O (U3 1 O O (U3 1 O O ⟨?_,?_⟩))))
  ·exact N1 (F _ _ h) λw h=>⟨Hp.R8 (f:=λl=>x5 pl l) o h,I2 h O λb2 w h=>J3 h 0 O O O λw h=>nl (xp h g1) λw h=>λ_=>Or.inr ⟨rfl,rfl,(Hp.F1 (s:=⟨⟨A0,F0,L0⟩,R0,C0,k,o,z,q,r,A,j,u⟩) (g:=⟨pk,pl,G,Q,cd,L,J,K,H,S,cs,D⟩) O E X (h.q 14 [4,5,1,6,7,8,9,10,11,12,13,3] O)).g [1] O⟩⟩
  ·exact I2 h O λb2 w h=>⟨Hp.R8 (f:=λl=>x5 pl l) C (h.q 14 [1,2,3,4,5,6,7,8,9,10,11,12,13] O),N1 (F _ _ (h.g [1] O)) λw h=>J3 h 1 O O O λw h=>nl (xp h g1) λw h=>λ_=>Or.inr ⟨rfl,rfl,(Hp.F1 (s:=⟨⟨A0,F0,L0⟩,R0,C0,k,o,z,q,r,A,j,u⟩) (g:=⟨pk,pl,G,Q,cd,L,J,K,H,S,cs,D⟩) O E X (h.q 14 [4,5,0,6,7,8,9,10,11,12,13,3] O)).g [1] O⟩⟩
 case pos=>
  rw[V0 (λk=>k g1)];subst g1;obtain⟨hw1,ZO⟩:=Iz rfl;have ajn:=Y;obtain⟨M,Z⟩:∃M,(Bc A0 (j.map (·.1)) (q.map S2.pp) (if ev.up then A0 else ev.N3)).2=M:=⟨_,rfl⟩;rw[Z];cases hu:ev.up with
  |true=>
   rw[hu]at Z;replace Z:(Bc A0 (j.map (·.1)) (q.map S2.pp) A0).2=M:=Z;cases M with
   |false=>
    have T:=Z;simp only[if_true];refine R2 func129 O (I2 h O λb1 w h=>?_);replace h:=h.g [4] O;refine ja.D0 kn o8 (λw'=>Hp c w' ((sf λl=>x5 pl l)::_)) (qs [0,1,2,4,6,8,10,3,5,7,9,11] (.w2 12 (qs [13,14,15] (vs [16,17] (qs [18] .done))) 16 (vs [12] (qs [13,14,15] (vs [17] (qs [18] .done)))))) Zb2 (Hp.R8 (f:=λl=>x5 pl l) C h).drew ?_;replace h:=h.drew;refine U3 3 O O (U3 1 O O (U3 1 O O (U3 1 O O (U3 1 O O ⟨?_,?_⟩))))
    ·exact N1 (F _ _ h) λw h=>⟨Hp.R8 (f:=λl=>x5 pl l) o h,I2 h O λb2 w h=>J3 h 0 O O O λw h=>N1 (Gf h O) λw h=>U0 h 2 O O (U0 h 2 O O (BR.s9 Zb9 (U0 h 4 O O (nl (XN (ch:=j.map (·.1)) (ps:=q.map S2.pp) (h.g [4,8] O) m4 Y T) λw h=>λ_=>Or.inr ⟨rfl,rfl,(Hp.F1 (s:=⟨⟨A0,F0,L0⟩,R0,C0,k,o,z,q,r,A,j,u⟩) (g:=⟨pk,pl,G,Q,cd,L,J,K,H,S,cs,D⟩) O E X (h.q 14 [0,6,3,7,8,1,9,10,11,12,13,5] O)).g [1] O⟩))))⟩
    ·exact I2 h O λb2 w h=>⟨Hp.R8 (f:=λl=>x5 pl l) C (h.q 14 [1,2,3,4,5,6,7,8,9,10,11,12,13] O),N1 (F _ _ (h.g [1] O)) λw h=>J3 h 1 O O O λw h=>N1 (Gf h O) λw h=>U0 h 2 O O (U0 h 2 O O (BR.s9 Zb9 (U0 h 4 O O (nl (XN (ch:=j.map (·.1)) (ps:=q.map S2.pp) (h.g [4,8] O) m4 Y T) λw h=>λ_=>Or.inr ⟨rfl,rfl,(Hp.F1 (s:=⟨⟨A0,F0,L0⟩,R0,C0,k,o,z,q,r,A,j,u⟩) (g:=⟨pk,pl,G,Q,cd,L,J,K,H,S,cs,D⟩) O E X (h.q 14 [0,6,2,7,8,1,9,10,11,12,13,5] O)).g [1] O⟩))))⟩
   |true=>
    have T:=Z;simp only[Bool.true_eq_false,if_false];cases okc with
    |true=>
     simp only[if_true];refine R2 func129 O (I2 h O λb1 w h=>?_);replace h:=h.g [4] O;refine ja.D0 kn o8 (λw'=>Hp c w' ((sf λl=>x5 pl l)::_)) (qs [0,1,2,4,6,8,10,3,5,7,9,11] (.w2 12 (qs [13,14,15] (vs [16,17] (qs [18] .done))) 16 (vs [12] (qs [13,14,15] (vs [17] (qs [18] .done)))))) Zb2 (Hp.R8 (f:=λl=>x5 pl l) C h).drew ?_;replace h:=h.drew;refine U3 3 O O (U3 1 O O (U3 1 O O (U3 1 O O (U3 1 O O ⟨?_,?_⟩))))
     ·refine N1 (F _ _ h) λw h=>⟨Hp.R8 (f:=λl=>x5 pl l) o h,I2 h O λb2 w h=>J3 h 0 O O O λw h=>N1 (Gf h O) λw h=>U0 h 2 O O (U0 h 2 O O (BR.s9 Zb9 (U0 h 4 O O (N1 (xA (ch:=j.map (·.1)) (ps:=q.map S2.pp) (h.g [4,8] O) m4 Y T) λw h=>Y6 h [0,1,2,4,6,3,5,7,58,109,110] λh=>U3 0 O O ?_))))⟩;exact U3 4 O O (U3 4 O O (O4 h 2 O O ⟨h,N1 (UM _ _ (h.g [6] O)) λw h=>N1 (Ff h O) λw h=> .inl ⟨rfl,(Hp.F1 (s:=⟨⟨A0,F0,L0⟩,R0,C0,k',o,z,q,r,A,j,u⟩) (g:=⟨pk,pl,G,Q,cd,L,J,K,H,S,cs,D⟩) O E X (h.q 14 [1,0,4,7,8,2,9,10,11,12,13,6] O)).g [1] O⟩⟩))
     ·refine I2 h O λb2 w h=>⟨Hp.R8 (f:=λl=>x5 pl l) C (h.q 14 [1,2,3,4,5,6,7,8,9,10,11,12,13] O),N1 (F _ _ (h.g [1] O)) λw h=>J3 h 1 O O O λw h=>N1 (Gf h O) λw h=>U0 h 2 O O (U0 h 2 O O (BR.s9 Zb9 (U0 h 4 O O (N1 (xA (ch:=j.map (·.1)) (ps:=q.map S2.pp) (h.g [4,8] O) m4 Y T) λw h=>Y6 h [0,1,2,4,6,3,5,7,58,109,110] λh=>U3 0 O O ?_))))⟩;exact U3 4 O O (U3 4 O O (O4 h 3 O O ⟨h,N1 (UM _ _ (h.g [6] O)) λw h=>N1 (Ff h O) λw h=> .inl ⟨rfl,(Hp.F1 (s:=⟨⟨A0,F0,L0⟩,R0,C0,k',o,z,q,r,A,j,u⟩) (g:=⟨pk,pl,G,Q,cd,L,J,K,H,S,cs,D⟩) O E X (h.q 14 [1,0,3,7,8,2,9,10,11,12,13,6] O)).g [1] O⟩⟩))
    |false=>
     simp only[Bool.false_eq_true,if_false];refine R2 func129 O (I2 h O λb1 w h=>?_);replace h:=h.g [4] O;refine ja.D0 kn o8 (λw'=>Hp c w' ((sf λl=>x5 pl l)::_)) (qs [0,1,2,4,6,8,10,3,5,7,9,11] (.w2 12 (qs [13,14,15] (vs [16,17] (qs [18] .done))) 16 (vs [12] (qs [13,14,15] (vs [17] (qs [18] .done)))))) Zb2 (Hp.R8 (f:=λl=>x5 pl l) C h).drew ?_;replace h:=h.drew;refine U3 3 O O (U3 1 O O (U3 1 O O (U3 1 O O (U3 1 O O ⟨?_,?_⟩))))
     ·refine N1 (F _ _ h) λw h=>⟨Hp.R8 (f:=λl=>x5 pl l) o h,I2 h O λb2 w h=>J3 h 0 O O O λw h=>N1 (Gf h O) λw h=>U0 h 2 O O (U0 h 2 O O (BR.s9 Zb9 (U0 h 4 O O (N1 (xA (ch:=j.map (·.1)) (ps:=q.map S2.pp) (h.g [4,8] O) m4 Y T) λw h=>Y6 h [0,1,2,4,6,3,5,7,58,109,110] λh=>U3 0 O O ?_))))⟩;exact U3 4 O O (U3 4 O O (O4 h 2 O O ⟨h,N1 (UM _ _ (h.g [6] O)) λw h=>nl (Ai h O) λw h=>λ_=>Or.inr ⟨rfl,rfl,(Hp.F1 (s:=⟨⟨A0,F0,L0⟩,R0,C0,k',o,z,q,r,A,j,u⟩) (g:=⟨pk,pl,G,Q,cd,L,J,K,H,S,cs,D⟩) O E X (h.q 14 [1,0,4,7,8,2,9,10,11,12,13,6] O)).g [1] O⟩⟩))
     ·refine I2 h O λb2 w h=>⟨Hp.R8 (f:=λl=>x5 pl l) C (h.q 14 [1,2,3,4,5,6,7,8,9,10,11,12,13] O),N1 (F _ _ (h.g [1] O)) λw h=>J3 h 1 O O O λw h=>N1 (Gf h O) λw h=>U0 h 2 O O (U0 h 2 O O (BR.s9 Zb9 (U0 h 4 O O (N1 (xA (ch:=j.map (·.1)) (ps:=q.map S2.pp) (h.g [4,8] O) m4 Y T) λw h=>Y6 h [0,1,2,4,6,3,5,7,58,109,110] λh=>U3 0 O O ?_))))⟩;exact U3 4 O O (U3 4 O O (O4 h 3 O O ⟨h,N1 (UM _ _ (h.g [6] O)) λw h=>nl (Ai h O) λw h=>λ_=>Or.inr ⟨rfl,rfl,(Hp.F1 (s:=⟨⟨A0,F0,L0⟩,R0,C0,k',o,z,q,r,A,j,u⟩) (g:=⟨pk,pl,G,Q,cd,L,J,K,H,S,cs,D⟩) O E X (h.q 14 [1,0,3,7,8,2,9,10,11,12,13,6] O)).g [1] O⟩⟩))
  |false=>
   rw[hu]at Z;replace Z:(Bc A0 (j.map (·.1)) (q.map S2.pp) ev.N3).2=M:=Z;cases M with
   |false=>
    have T:=Z;simp only[if_true];refine R2 func129 O (I2 h O λb1 w h=>?_);replace h:=h.g [4] O;refine ja.D0 kn o8 (λw'=>Hp c w' ((sf λl=>x5 pl l)::_)) (qs [0,1,2,4,6,8,10,3,5,7,9,11] (.w2 12 (qs [13,14,15] (vs [16,17] (qs [18] .done))) 16 (vs [12] (qs [13,14,15] (vs [17] (qs [18] .done)))))) Zb2 (Hp.R8 (f:=λl=>x5 pl l) C h).drew ?_;replace h:=h.drew;refine U3 3 O O (U3 1 O O (U3 1 O O (U3 1 O O (U3 1 O O ⟨?_,?_⟩))))
    ·exact N1 (F _ _ h) λw h=>⟨Hp.R8 (f:=λl=>x5 pl l) o h,I2 h O λb2 w h=>J3 h 0 O O O λw h=>N1 (Gf h O) λw h=>U0 h 2 O O (U0 h 2 O O (BR.no Zb9 (nl (XN (ch:=j.map (·.1)) (ps:=q.map S2.pp) (h.g [4,8] O) m4 Y T) λw h=>λ_=>Or.inr ⟨rfl,rfl,(Hp.F1 (s:=⟨⟨A0,F0,L0⟩,R0,C0,k,o,z,q,r,A,j,u⟩) (g:=⟨pk,pl,G,Q,cd,L,J,K,H,S,cs,D⟩) O E X (h.q 14 [0,6,3,7,8,1,9,10,11,12,13,5] O)).g [1] O⟩)))⟩
    ·exact I2 h O λb2 w h=>⟨Hp.R8 (f:=λl=>x5 pl l) C (h.q 14 [1,2,3,4,5,6,7,8,9,10,11,12,13] O),N1 (F _ _ (h.g [1] O)) λw h=>J3 h 1 O O O λw h=>N1 (Gf h O) λw h=>U0 h 2 O O (U0 h 2 O O (BR.no Zb9 (nl (XN (ch:=j.map (·.1)) (ps:=q.map S2.pp) (h.g [4,8] O) m4 Y T) λw h=>λ_=>Or.inr ⟨rfl,rfl,(Hp.F1 (s:=⟨⟨A0,F0,L0⟩,R0,C0,k,o,z,q,r,A,j,u⟩) (g:=⟨pk,pl,G,Q,cd,L,J,K,H,S,cs,D⟩) O E X (h.q 14 [0,6,2,7,8,1,9,10,11,12,13,5] O)).g [1] O⟩)))⟩
   |true=>
    have T:=Z;simp only[Bool.true_eq_false,if_false];cases okc with
    |true=>
     simp only[if_true];refine R2 func129 O (I2 h O λb1 w h=>?_);replace h:=h.g [4] O;refine ja.D0 kn o8 (λw'=>Hp c w' ((sf λl=>x5 pl l)::_)) (qs [0,1,2,4,6,8,10,3,5,7,9,11] (.w2 12 (qs [13,14,15] (vs [16,17] (qs [18] .done))) 16 (vs [12] (qs [13,14,15] (vs [17] (qs [18] .done)))))) Zb2 (Hp.R8 (f:=λl=>x5 pl l) C h).drew ?_;replace h:=h.drew;refine U3 3 O O (U3 1 O O (U3 1 O O (U3 1 O O (U3 1 O O ⟨?_,?_⟩))))
     ·refine N1 (F _ _ h) λw h=>⟨Hp.R8 (f:=λl=>x5 pl l) o h,I2 h O λb2 w h=>J3 h 0 O O O λw h=>N1 (Gf h O) λw h=>U0 h 2 O O (U0 h 2 O O (BR.no Zb9 (N1 (xA (ch:=j.map (·.1)) (ps:=q.map S2.pp) (h.g [4,8] O) m4 Y T) λw h=>Y6 h [0,1,2,4,6,3,5,7,58,109,110] λh=>U3 0 O O (U3 4 O O ?_))))⟩;exact U3 4 O O (O4 h 2 O O ⟨h,N1 (UM _ _ (h.g [6] O)) λw h=>N1 (Ff h O) λw h=> .inl ⟨rfl,(Hp.F1 (s:=⟨⟨A0,F0,L0⟩,R0,C0,k',o,z,q,r,A,j,u⟩) (g:=⟨pk,pl,G,Q,cd,L,J,K,H,S,cs,D⟩) O E X (h.q 14 [1,0,4,7,8,2,9,10,11,12,13,6] O)).g [1] O⟩⟩)
     ·refine I2 h O λb2 w h=>⟨Hp.R8 (f:=λl=>x5 pl l) C (h.q 14 [1,2,3,4,5,6,7,8,9,10,11,12,13] O),N1 (F _ _ (h.g [1] O)) λw h=>J3 h 1 O O O λw h=>N1 (Gf h O) λw h=>U0 h 2 O O (U0 h 2 O O (BR.no Zb9 (N1 (xA (ch:=j.map (·.1)) (ps:=q.map S2.pp) (h.g [4,8] O) m4 Y T) λw h=>Y6 h [0,1,2,4,6,3,5,7,58,109,110] λh=>U3 0 O O (U3 4 O O ?_))))⟩;exact U3 4 O O (O4 h 3 O O ⟨h,N1 (UM _ _ (h.g [6] O)) λw h=>N1 (Ff h O) λw h=> .inl ⟨rfl,(Hp.F1 (s:=⟨⟨A0,F0,L0⟩,R0,C0,k',o,z,q,r,A,j,u⟩) (g:=⟨pk,pl,G,Q,cd,L,J,K,H,S,cs,D⟩) O E X (h.q 14 [1,0,3,7,8,2,9,10,11,12,13,6] O)).g [1] O⟩⟩)
    |false=>
     simp only[Bool.false_eq_true,if_false];refine R2 func129 O (I2 h O λb1 w h=>?_);replace h:=h.g [4] O;refine ja.D0 kn o8 (λw'=>Hp c w' ((sf λl=>x5 pl l)::_)) (qs [0,1,2,4,6,8,10,3,5,7,9,11] (.w2 12 (qs [13,14,15] (vs [16,17] (qs [18] .done))) 16 (vs [12] (qs [13,14,15] (vs [17] (qs [18] .done)))))) Zb2 (Hp.R8 (f:=λl=>x5 pl l) C h).drew ?_;replace h:=h.drew;refine U3 3 O O (U3 1 O O (U3 1 O O (U3 1 O O (U3 1 O O ⟨?_,?_⟩))))
     ·refine N1 (F _ _ h) λw h=>⟨Hp.R8 (f:=λl=>x5 pl l) o h,I2 h O λb2 w h=>J3 h 0 O O O λw h=>N1 (Gf h O) λw h=>U0 h 2 O O (U0 h 2 O O (BR.no Zb9 (N1 (xA (ch:=j.map (·.1)) (ps:=q.map S2.pp) (h.g [4,8] O) m4 Y T) λw h=>Y6 h [0,1,2,4,6,3,5,7,58,109,110] λh=>U3 0 O O (U3 4 O O ?_))))⟩;exact U3 4 O O (O4 h 2 O O ⟨h,N1 (UM _ _ (h.g [6] O)) λw h=>nl (Ai h O) λw h=>λ_=>Or.inr ⟨rfl,rfl,(Hp.F1 (s:=⟨⟨A0,F0,L0⟩,R0,C0,k',o,z,q,r,A,j,u⟩) (g:=⟨pk,pl,G,Q,cd,L,J,K,H,S,cs,D⟩) O E X (h.q 14 [1,0,4,7,8,2,9,10,11,12,13,6] O)).g [1] O⟩⟩)
     ·refine I2 h O λb2 w h=>⟨Hp.R8 (f:=λl=>x5 pl l) C (h.q 14 [1,2,3,4,5,6,7,8,9,10,11,12,13] O),N1 (F _ _ (h.g [1] O)) λw h=>J3 h 1 O O O λw h=>N1 (Gf h O) λw h=>U0 h 2 O O (U0 h 2 O O (BR.no Zb9 (N1 (xA (ch:=j.map (·.1)) (ps:=q.map S2.pp) (h.g [4,8] O) m4 Y T) λw h=>Y6 h [0,1,2,4,6,3,5,7,58,109,110] λh=>U3 0 O O (U3 4 O O ?_))))⟩;exact U3 4 O O (O4 h 3 O O ⟨h,N1 (UM _ _ (h.g [6] O)) λw h=>nl (Ai h O) λw h=>λ_=>Or.inr ⟨rfl,rfl,(Hp.F1 (s:=⟨⟨A0,F0,L0⟩,R0,C0,k',o,z,q,r,A,j,u⟩) (g:=⟨pk,pl,G,Q,cd,L,J,K,H,S,cs,D⟩) O E X (h.q 14 [1,0,3,7,8,2,9,10,11,12,13,6] O)).g [1] O⟩⟩)
end
theorem SU{P Q:Prop}(q:Q)(f:Q->P:=by intro q;exact R2 func124 O (I2 h O λb1 w h=>Y6 h [0,51,2,3,4,6,7,8,9,5,60,11,12,113] λh=>U0 h 0 O O ⟨h,Zt (U3 0 O O (U0 h 2 O O ⟨h,N1 (Ff h (Si g0.2)) λw h=>Y6 h [0,1,2,4,6,8,9,10,3,5,7,61,112,13,14,15,16,17] λh=>U3 2 O O (q b1 w h)⟩))⟩)):P:=f q
theorem acl{P Q:Prop}(q:Q)(f:Q->P:=by intro q;exact ja.D0 kn o8 (λw'=>Hp c w' ((sf λl=>bk pr l 42)::_)) (qs [0,1,2,4,3,6,7,5] (ws [8] (qs [9,10] (vs [11] .done)))) Zb2 (Hp.Jm h).drew q):P:=f q
theorem Zh{A0:Int}{ch:Option Nat}(a:i3 q i=some y)(b:¬(i:Int)=A0):Bc A0 ch (q.map S2.pp) (i:Int)=(.iface 61 (la y.pp),y.pp.isSome):=by simp_all[Z0,Bc]
theorem kM{b:Type}{f:α->b}{q:List α}{y z:α}(a:i3 q i=some y)(c:f z=f y):(q.set i z).map f=q.map f:=by rw[Z0]at a;obtain⟨e,d⟩:=Cp.1 a;rw[uL,c];apply tv;grind
theorem Iw(b:i3 q i=some y)(z:S2)(a:z.d=y.d):(q.set i z).map (·.d)=q.map (·.d):=kM b a
theorem Hw(b:i3 q i=some y)(z:S2)(a:z.pp=y.pp):(q.set i z).map S2.pp=q.map S2.pp:=kM b a
section
variable{ev:Ev}
theorem ahU{P:zf}(h:Hp c w (bk pr (Zk ev t 0 0 X0) 42::G3 b N h0::R))(hb:HB P N h0):Cs 124 #[Pt b,ev.v,Pt pr] w (pA c b N pr (Zk ev t) R (h0.op ev)):=by
 obtain⟨⟨⟨A0,F0,L0⟩,R0,C0,k,D,m,q,r,C,j,u⟩,⟨pk,pl,J,T,cd,S,L,M,K,X,cs,H⟩,rfl,Z,L8,h⟩:=(h.g [1] rfl).C4;simp only at Z L8 h;replace h:Hp c w (bk pr [I ev.W0,I t,I ev.Z3,I ev.N3,I 0,I ev.op.W0,I ev.op.tx,B8 ev.op.key.a,B8 ev.op.key.b,B8 ev.op.key.x,B8 ev.op.key.y,I ev.op.n,I 0,.bool false,I 0] 42::bk b [I A0,I F0,I L0,I R0,I C0,Pt pk,Pt pl,Pt J,.slice T (q.map (·.d)++[r]).length cd,.slice S (q.map S2.pp).length L,la (j.map (·.1)),.slice M u.length K,.slice X H.length cs] 90::K1 pk k::x5 pl D::z6 J m::so 99 am T cd (q.map (·.d)++[r])::so 61 Pg S L (q.map S2.pp)::so 42 I9 M K u::so 215 jl X cs H::rl (sh.mem N) H::rl (M4 pk N) q::Lf pk r C j::R):=h.g [11] O;have fH:m.Ok:=hb.P2;have Tx:F8 k.D0.A0 k.D0.F0 k.D0.L0:=hb.VS;have Gi:=hb.D0.A0;replace Gi:1<=A0∧A0<=6:=Gi;have bi:((q.map S2.pp).length:Int)=A0:=by rw[H7];exact Z
 by_cases g0:ev.N3>=0∧ev.N3<A0
 case neg=>
  have Y:I0.op (HS.J1 ⟨⟨A0,F0,L0⟩,R0,C0,k,D,m,q,r,C,j,u⟩) ev=(ma 11,HS.J1 ⟨⟨A0,F0,L0⟩,R0,C0,k,D,m,q,r,C,j,u⟩):=by unfold I0.op;exact S1 g0
  rw[Y];by_cases g1:ev.N3>=0
  ·have g2:¬ev.N3<A0:=λk=>g0 ⟨g1,k⟩;exact R2 func124 O (I2 h O λb1 w h=>Y6 h [0,51,2,3,4,6,7,8,9,5,60,11,12,113] λh=>U0 h 0 O O ⟨h,Zt (U3 0 O O (U0 h 2 O O ⟨h,nl (Ai h aol) λw h=>λ_=>Or.inr ⟨rfl,rfl,(Hp.F1 (s:=⟨⟨A0,F0,L0⟩,R0,C0,k,D,m,q,r,C,j,u⟩) (g:=⟨pk,pl,J,T,cd,S,L,M,K,X,cs,H⟩) O Z L8 (h.q 13 [2,3,4,5,6,7,8,9,10,11,12,1] O)).g [1] O⟩⟩))⟩)
  ·skip;exact R2 func124 O (I2 h O λb1 w h=>Y6 h [0,51,2,3,4,6,7,8,9,5,60,11,12,113] λh=>U0 h 0 O O ⟨h,Te ⟨h,nl (Ai h aol) λw h=>λ_=>Or.inr ⟨rfl,rfl,(Hp.F1 (s:=⟨⟨A0,F0,L0⟩,R0,C0,k,D,m,q,r,C,j,u⟩) (g:=⟨pk,pl,J,T,cd,S,L,M,K,X,cs,H⟩) O Z L8 (h.q 13 [2,3,4,5,6,7,8,9,10,11,12,1] O)).g [1] O⟩⟩⟩)
 case pos=>
  obtain⟨i,hi⟩:∃i:Nat,ev.N3=(i:Int):=⟨ev.N3.toNat,m4⟩;obtain⟨y,G⟩:∃y,i3 q i=some y:=⟨q[i]'m4,by rw[Z0,d8]⟩;obtain⟨⟨tx,er⟩,hV⟩:∃V,m.Um ev.Z3 ev.N3 C0=V:=⟨_,rfl⟩;have hMy:=λ(w:World)(R:List HP)(h:Hp c w (z6 J m::R))=>ahw (cl:=ev.Z3) (p:=ev.N3) (C0:=C0) h fH;rw[hV]at hMy;simp only at hMy;have Ar:=Zh (A0:=A0) (ch:=j.map (·.1)) G m4;rw[<-hi]at Ar;have a1:(HS.J1 ⟨⟨A0,F0,L0⟩,R0,C0,k,D,m,q,r,C,j,u⟩).P2.Um ev.Z3 ev.N3 (HS.J1 ⟨⟨A0,F0,L0⟩,R0,C0,k,D,m,q,r,C,j,u⟩).C0=(tx,er):=hV;have a2:(HS.J1 ⟨⟨A0,F0,L0⟩,R0,C0,k,D,m,q,r,C,j,u⟩).G5 ev.N3=y.E0:=by rw[hi];exact HS.AM (s:=⟨⟨A0,F0,L0⟩,R0,C0,k,D,m,q,r,C,j,u⟩) G
  by_cases g1:er=0
  case neg=>
   have Y:I0.op (HS.J1 ⟨⟨A0,F0,L0⟩,R0,C0,k,D,m,q,r,C,j,u⟩) ev=(ma er,HS.J1 ⟨⟨A0,F0,L0⟩,R0,C0,k,D,m,q,r,C,j,u⟩):=by unfold I0.op;rw[V0 (by exact λk=>k g0)];simp only[a1];rw[S1 g1]
   rw[Y];refine SU λb1 w h=>?_;exact U3 0 O O (U3 0 O O (U0 h 2 O O ⟨h,N1 (hMy _ _ (h.g [5] O)) λw h=>nl (xp h g1) λw h=>λ_=>Or.inr ⟨rfl,rfl,(Hp.F1 (s:=⟨⟨A0,F0,L0⟩,R0,C0,k,D,m,q,r,C,j,u⟩) (g:=⟨pk,pl,J,T,cd,S,L,M,K,X,cs,H⟩) O Z L8 (h.q 13 [3,4,5,0,6,7,8,9,10,11,12,2] O)).g [1] O⟩⟩))
  case pos=>
   subst g1;obtain⟨d,x,o⟩:=y;cases o with
   |none=>
    have Y:I0.op (HS.J1 ⟨⟨A0,F0,L0⟩,R0,C0,k,D,m,q,r,C,j,u⟩) ev=(⟨22,tx,X0⟩,HS.J1 ⟨⟨A0,F0,L0⟩,R0,C0,k,D,m,q,r,C,j,u⟩):=by unfold I0.op;rw[V0 (by exact λk=>k g0)];simp only[a1];rw[V0 Zb3,a2];rfl
    rw[Y];have hM:(Bc A0 (j.map (·.1)) (q.map S2.pp) ev.N3).2=false:=by rw[Ar];rfl
    refine SU λb1 w h=>?_;exact U3 0 O O (U3 0 O O (U0 h 2 O O ⟨h,N1 (hMy _ _ (h.g [5] O)) λw h=>N1 (Gf h O) λw h=>J3 h 2 O O O λw h=>U0 h 1 O O (nl (XN (ch:=j.map (·.1)) (ps:=q.map S2.pp) (h.g [3,7] O) m4 bi hM) λw h=>λ_=>Or.inr ⟨rfl,rfl,(Hp.F1 (s:=⟨⟨A0,F0,L0⟩,R0,C0,k,D,m,q,r,C,j,u⟩) (g:=⟨pk,pl,J,T,cd,S,L,M,K,X,cs,H⟩) O Z L8 (h.q 13 [0,5,6,2,7,1,8,9,10,11,12,4] O)).g [1] O⟩)⟩))
   |some z=>
    obtain⟨pp,p⟩:=z;have hM:(Bc A0 (j.map (·.1)) (q.map S2.pp) ev.N3).2=true:=by rw[Ar];rfl
    obtain⟨⟨⟨ve,vv⟩,F⟩,hW⟩:∃V,p.t7 k.D0 {ev.op with tx:=tx} C0=V:=⟨_,rfl⟩;have fT:=(hb.A0 i p (by rw[<-hi,a2];rfl)).1;have hn:=hb.n;have hDo:=λ(w:World)(R:List HP)(h:Hp c w (B7 pk d N pp p::K1 pk k::R))=>doW (op:={ev.op with tx:=tx}) (C0:=C0) h fT m4 Tx;rw[hW]at hDo;simp only at hDo;have Y:I0.op (HS.J1 ⟨⟨A0,F0,L0⟩,R0,C0,k,D,m,q,r,C,j,u⟩) ev=(⟨ve,tx,vv⟩,HS.J1 ⟨⟨A0,F0,L0⟩,R0,C0,k,D,m,(q.set i ⟨d,x,some (pp,F)⟩),r,C,j,u⟩):=by
     have a3:I0.op (HS.J1 ⟨⟨A0,F0,L0⟩,R0,C0,k,D,m,q,r,C,j,u⟩) ev=(⟨(p.t7 k.D0 {ev.op with tx:=tx} C0).1.Ge,tx,(p.t7 k.D0 {ev.op with tx:=tx} C0).1.val⟩,{HS.J1 ⟨⟨A0,F0,L0⟩,R0,C0,k,D,m,q,r,C,j,u⟩with A0:=(HS.J1 ⟨⟨A0,F0,L0⟩,R0,C0,k,D,m,q,r,C,j,u⟩).A0.set i (some (p.t7 k.D0 {ev.op with tx:=tx} C0).2)}):=by
      unfold I0.op;rw[V0 (by exact λk=>k g0)];simp only[a1];rw[V0 Zb3,a2];have e:ev.N3.toNat=i:=m4
      rw[e];rfl
     rw[a3,hW,HS.HJ (s:=⟨⟨A0,F0,L0⟩,R0,C0,k,D,m,q,r,C,j,u⟩) G pp]
    rw[Y];have cT:i3 (q.map S2.pp) ev.N3.toNat=some (some pp):=by
     have e:ev.N3.toNat=i:=m4
     rw[Z0]at G⊢;rw[e,We,G];rfl
    have hwl:ev.N3<(q.map S2.pp).length:=m4
    refine SU λb1 w h=>?_;refine U3 0 O O (U3 0 O O (U0 h 2 O O ⟨h,N1 (hMy _ _ (h.g [5] O)) λw h=>N1 (Gf h O) λw h=>J3 h 2 O O O λw h=>U0 h 1 O O (N1 (xA (ch:=j.map (·.1)) (ps:=q.map S2.pp) (h.g [3,7] O) m4 bi hM) λw h=>O4 h 3 O O (I2 h O λb2 w h=>J3 h 0 O O O λw h=>?_))⟩));refine J3 h 0 O O O λw h=>?_;replace h:Hp _ _ (M4 pk N ⟨d,x,some (pp,p)⟩::_):=Hp.rf (h.g [12] O) G;replace h:Hp _ _ (M1 d x::B7 pk d N pp p::_):=Hp.R6 h;replace h:=h.g [1] O;refine ja.D0 kn o8 (λw'=>Hp c w' ((sf λp=>B7 pk d N pp p)::_)) (qs [0,1,2,4,9,10,11,3,5,6,7,8,12] (.w2 13 (vs [14,15] .done) 14 (vs [13,15] .done))) Zb2 (Hp.R8 (f:=λp=>B7 pk d N pp p) p h).drew ?_;replace h:=h.drew;refine U3 4 O O (U3 7 O O (jd h 5 O λb3 o1 U9=>LD.Km (E:=Pg) (λ_ h=>h) 5 O Zb9 Zb9 O (xg 3 O O (U3 4 O O ⟨?_,?_⟩))))
    ·refine N1 (hDo _ _ (h.g [0,9] O)) λw h=>⟨Hp.R8 (f:=λp=>B7 pk d N pp p) F (h.g [0,2,3,4,5,6,7,8,9] O),I2 h O λb4 w h=>J3 h 0 O O O λw h=>?_⟩;replace h:=h.g [10] O;refine acl ?_;replace h:=h.drew;refine U3 1 O O (xg 1 O O (J3 h 0 O O O λw h=>⟨Hp.Jm h,J3 h 0 O O O λw h=>?_⟩));replace h:Hp _ _ (M4 pk N ⟨d,x,some (pp,F)⟩::_):=Hp.C3 (A:=[M1 d x,B7 pk d N pp F]) (h.g [4,2,5] O);replace h:=Hp.Wj h G;rw[<-Iw G ⟨d,x,some (pp,F)⟩ O,<-Hw G ⟨d,x,some (pp,F)⟩ O]at h;exact .inl ⟨rfl,(Hp.F1 (s:=⟨⟨A0,F0,L0⟩,R0,C0,k,D,m,(q.set i ⟨d,x,some (pp,F)⟩),r,C,j,u⟩) (g:=⟨pk,pl,J,T,cd,S,L,M,K,X,cs,H⟩) O Zb6 Zb6 (h.q 15 [5,3,9,7,10,6,11,12,13,0,14,1] O)).g [1] O⟩
    ·refine I2 h O λb4 w h=>⟨Hp.R8 (f:=λp=>B7 pk d N pp p) p (h.q 17 [1,2,3,4,5,6,7,8,9,10,11,12,13,14,15,16] O),N1 (hDo _ _ (h.g [1,10] O)) λw h=>J3 h 2 O O O λw h=>?_⟩;replace h:=h.g [10] O;refine acl ?_;replace h:=h.drew;refine U3 3 O O (xg 3 O O (J3 h 0 O O O λw h=>⟨Hp.Jm h,J3 h 0 O O O λw h=>?_⟩));replace h:Hp _ _ (M4 pk N ⟨d,x,some (pp,F)⟩::_):=Hp.C3 (A:=[M1 d x,B7 pk d N pp F]) (h.g [4,1,5] O);replace h:=Hp.Wj h G;rw[<-Iw G ⟨d,x,some (pp,F)⟩ O,<-Hw G ⟨d,x,some (pp,F)⟩ O]at h;exact .inl ⟨rfl,(Hp.F1 (s:=⟨⟨A0,F0,L0⟩,R0,C0,k,D,m,(q.set i ⟨d,x,some (pp,F)⟩),r,C,j,u⟩) (g:=⟨pk,pl,J,T,cd,S,L,M,K,X,cs,H⟩) O Zb6 Zb6 (h.q 15 [5,2,9,7,10,6,11,12,13,0,14,1] O)).g [1] O⟩
end
end Go.Proofs.YtaaihojmcfaejaaGreatDoor
