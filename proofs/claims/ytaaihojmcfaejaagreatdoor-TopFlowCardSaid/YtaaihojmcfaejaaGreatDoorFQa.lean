/- Lemmas for the tops: the walk of the house and its laws. No condition is added. -/
import Derived.Test.YtaaihojmcfaejaaGreatDoorQav
import Derived.Test.YtaaihojmcfaejaaGreatDoorFLf
set_option linter.all false
namespace Go.Proofs.YtaaihojmcfaejaaGreatDoor
open Go Go.RowKit Tryz
section
variable{t:Int}
theorem PW.apl(x:PW){W0 tx H8 C0:Int}(a:¬W0=4):KF t x.O0 (x.Z6 W0 tx H8 C0).O0:=KF.Z6 (λe=>absurd e a)
theorem PW.apo(x:PW)(m:P9)(C0:Int):KF t x.O0 (x.take m C0).2.O0:=by
 unfold PW.take;split
 ·exact KF.refl
 ·rename_i r b;split
  ·exact KF.refl
  split
  ·split
   ·simp only;have a:=Gb x m.tx r (Decidable.decide (m.H8=1));split
    ·rw[a.1];exact KF.refl
    ·have:=PW.apl (t:=t) (x.decide m.tx r (Decidable.decide (m.H8=1))).2 (W0:=3) (tx:=m.tx) (H8:=0) (C0:=C0) Zb4;simp_all
   simp[apl]
  ·exact KF.refl
theorem PW.apt(x:PW)(tx:Int)(r:E6)(C0:Int):KF t x.O0 (x.jb tx r C0).O0:=by grind[PW.jb,apl,KF.refl]
theorem PW.apr(x:PW)(C0:Int):KF t x.O0 (x.run C0).2.O0:=by
 unfold PW.run;split
 ·exact KF.refl
 simp only;refine Uc (I:=λ(y:PW)=>KF t x.O0 y.O0) ?_ λy tx _ a=>a.trans (y.apt tx _ C0);have c:KF t x.O0 (Y8 (λ(x:PW)=>x.E0.B0) Cb (λ(x:PW)(tx:Int)(r:E6)=>if r.z7=false∧C0>=x.O0.D0.M8 r.I1 then x.Y4 tx r else x) {x with E0:={x.E0 with U1:=(x.E0.U1.Q9 C0).2}}).O0:=by
  refine Uc (I:=λ(y:PW)=>KF t x.O0 y.O0) KF.refl λy tx _ a=>?_;split
  ·simp_all[Ts]
  ·exact a
 generalize Y8 (λ(x:PW)=>x.E0.B0) Cb (λ(x:PW)(tx:Int)(r:E6)=>if r.z7=false∧C0>=x.O0.D0.M8 r.I1 then x.Y4 tx r else x) {x with E0:={x.E0 with U1:=(x.E0.U1.Q9 C0).2}}=y at c;have b:=c.trans (KF.J6 (N3:=y.E0.me) (E0:=y.E0.me) (i:=0) (t:=C0));split
 ·exact b.trans (PW.apo {y with O0:=(y.O0.J6 y.E0.me y.E0.me 0 C0).2.2} _ C0)
 ·exact b
theorem PW.apm(x:PW)(C0:Int):(x.T0 C0).2.O0=x.O0:=by grind[PW.T0]
theorem CW.apl(x:CW){E0 W0 tx H8 C0:Int}(h:W0=4->x.O0.R4.o9 tx E0 t=(H8,0)):KF t x.O0 (x.Z6 E0 W0 tx H8 C0).O0:=KF.Z6 (λe=>h e)
theorem CW.apx(x:CW)(r:T4)(m:P9)(C0:Int):KF t x.O0 (x.z7 r m C0).O0:=by
 unfold CW.z7;simp only;generalize(if r.N2=0∧r.V3.getD m.E0.toNat 0= -1 then{r with V3:=r.V3.set m.E0.toNat m.H8}else r)=r';have:=CW.apl (t:=t) (x.setRow m.tx r') (E0:=m.E0) (W0:=5) (tx:=m.tx) (H8:=0) (C0:=C0) (λe=>absurd e Zb4);split
 ·exact this
 ·exact this
theorem CW.apu(x:CW)(r:T4)(m:P9):(x.done r m).O0=x.O0:=by unfold CW.done;simp only;split<;>rfl
theorem CW.apo(x:CW)(m:P9)(C0:Int):KF t x.O0 (x.take m C0).O0:=by
 unfold CW.take;split
 ·exact KF.refl
 ·rename_i r a;split;·exact KF.refl
  split;·simp[apx]
  split
  ·split<;>exact KF.refl
  grind[apu,KF.refl]
theorem CW.apq(x:CW)(tx:Int)(r:T4):(x.Uf tx r).2.2.O0=x.O0:=by unfold CW.Uf<;>grind
theorem CW.apv(x:CW)(tx:Int)(r:T4):KF t x.O0 (x.decide tx r).O0:=by
 unfold CW.decide;simp only;generalize a:(if{r with N2:=1}.Qc=true∧T4.Gh {r with N2:=1}=true then x.Uf tx {r with N2:=1}else(false,{r with N2:=1},x))=y;have b:y.2.2.O0=x.O0:=by
  rw[<-a];split
  ·exact x.apq tx _
  ·rfl
 generalize(if y.1=true then{y.2.1 with N2:=2}else y.2.1)=r';show KF t x.O0 {y.2.2.O0 with R4:=(y.2.2.O0.R4.put tx (Decidable.decide (r'.N2=2))).2};simp_all[KF.apz,aeO.put]
theorem CW.apA(x:CW)(E0 C0:Int):KF C0 x.O0 (x.ka E0 C0).O0:=by
 unfold CW.ka;refine Uc (I:=λ(y:CW)=>KF C0 x.O0 y.O0) KF.refl λy tx _ a=>?_;split
 ·exact a
 ·simp only;split
  ·rename_i h0;exact a.trans (y.apl λ_=>Prod.ext O h0)
  ·exact a
theorem CW.apr(x:CW)(C0:Int):KF C0 x.O0 (x.run C0).2.O0:=by
 unfold CW.run;simp only;split
 ·exact KF.refl
 refine Vb (I:=λ(y:CW)=>KF C0 x.O0 y.O0) ?_ λy i _ a=>a.trans (y.apA _ C0);refine Uc (I:=λ(y:CW)=>KF C0 x.O0 y.O0) ?_ λy tx _ a=>?_
 ·refine Vb (I:=λ(y:CW)=>KF C0 x.O0 y.O0) KF.refl λy i _ a=>?_;have b:=a.trans (KF.J6 (N3:=y.O0.D0.A0) (E0:=(i:Int)) (i:=0) (t:=C0));split
  ·exact b.trans (CW.apo {y with O0:=(y.O0.J6 y.O0.D0.A0 (i:Int) 0 C0).2.2} _ C0)
  ·exact b
 grind[KF.trans,apv]
theorem CW.apn(x:CW)(tx:Int)(J0:BitVec 16)(b:Int):KF t x.O0 (x.V2 tx J0 b).2.O0:=by have h:KF t x.O0 {x.O0 with R4:=(x.O0.R4.U6 tx J0 (x.O0.D0.E5 b)).2}:=KF.apz (aeO.U6 _ _ _ _);grind[CW.V2]
theorem CW.aps(x:CW)(tx C0:Int):(x.Xa tx C0).2.O0=x.O0:=by grind[CW.Xa]
theorem CW.apm(x:CW)(C0:Int):(x.T0 C0).2.O0=x.O0:=by grind[CW.T0]
end
theorem akA.kf{C0:Int}{k a:J2}{l:O6}(h:akA C0 k l)(b:KF C0 k a):akA C0 a l:=⟨b.Er h.O0,h.p6.imp λ_ _ g=>g.le b.R4 (lm _)⟩
theorem akA.zb{C0:Int}{k:J2}{l:O6}(h:akA C0 k l):akA (C0+1) k l:=
 ⟨λx a=>(h.O0 x a).le (aeO.refl _) m4,h.p6.imp λ_ _ g=>g.le (aeO.refl _) m4⟩
theorem akA.pass{h:I0}(a:akA h.C0 h.O0 h.p6)(p:Int)(up:Bool):akA h.C0 (h.pass p up).O0 (h.pass p up).p6∧(h.pass p up).C0=h.C0:=by have b:KF h.C0 h.O0 (h.O0.Za p up).2:=KF.Za;have c:(h.O0.Za p up).2.R4=h.O0.R4:=GO.1;refine⟨⟨b.Er a.O0,?_⟩,rfl⟩;show Gq (IT (h.O0.Za p up).2.R4 h.C0) (h.p6.put p up (h.O0.Za p up).1).2.2;rw[c];exact a.p6.put (apy a.O0)
def BI(h:I0):Prop:=akA h.C0 h.O0 h.p6
theorem BI.to{h a:I0}(e:BI h)(d:KF h.C0 h.O0 a.O0)(c:a.p6=h.p6)(b:a.C0=h.C0):BI a:=by grind[BI,akA.kf]
theorem BI.cG{h a:I0}(e:BI h)(d:a.O0=h.O0)(c:a.p6=h.p6)(b:a.C0=h.C0):BI a:=by simp_all[BI]
theorem BI.tS{h:I0}(a:BI h)(n:Int)(c:Int->Bool)(up:Bool):BI (m6 n (λ(h:I0)(p:Int)=>if c p=true then h.pass p up else h) h):=
 Vb (I:=BI) a λh i _ b=>by grind[akA.pass,BI]
theorem MJ(h:I0)(n:Int):(h.L6 n).2.O0=h.O0∧(h.L6 n).2.p6=h.p6∧(h.L6 n).2.C0=h.C0:=by unfold I0.L6<;>grind
theorem BI.vj{h:I0}(a:BI h):BI h.vj.2:=by
 unfold I0.vj;simp only;split
 ·split
  ·exact a
  ·rename_i c e;simp only;have b:BI (h.G7 ((h.cw c).run h.C0).2):=a.to ((h.cw c).apr h.C0) O O;have:=b.tS (h.A0.length:Int) (λ_=>true) false;simp_all
 ·split
  ·exact a
  ·rename_i p d;simp only;have b:BI (h.qg (h.D0.K6 h.C0) ((h.pw (h.D0.K6 h.C0) p).run h.C0).2):=a.to ((h.pw (h.D0.K6 h.C0) p).apr h.C0) O O;have:=b.tS (h.A0.length:Int) (λp=>Decidable.decide (h.D0.K6 h.C0=p)) true;simp_all
theorem BI.A9{h:I0}(b:BI h)(ev:Ev):BI (h.A9 ev).2:=by
 obtain⟨d,c⟩:=Gq.take b.p6 ev.N3 ev.up ev.t8 ev.uc;have a:BI {h with p6:=(h.p6.take ev.N3 ev.up ev.t8 ev.uc).2.2}:=⟨b.O0,d⟩;unfold I0.A9;simp only;generalize(if ev.up=true then h.D0.A0 else ev.N3)=q;split
 ·exact a
 split
 ·exact a
 ·rename_i h0 _;have h0:(h.p6.take ev.N3 ev.up ev.t8 ev.uc).2.1=0:=m4
  exact a.to (KF.A9 (c h0).2) O O
theorem BI.Gd{h:I0}(a:BI h)(n:Int)(ev:Ev):BI (h.Gd n ev):=by unfold I0.Gd;simp only;split<;>exact a.to KF.clear O O
theorem BI.N6{h:I0}(a:BI h)(ev:Ev):BI (h.N6 ev).2:=by
 unfold I0.N6;split
 ·grind[Gd]
 ·refine Vb (I:=BI) a λh i _ b=>?_;grind[Gd]
theorem BI.xd{h:I0}(b:BI h)(ev:Ev):BI (h.xd ev).2:=by
 unfold I0.xd;split
 ·exact b
 split
 ·exact b
 simp only;split
 ·exact b
 obtain⟨f,e,d⟩:=MJ h ev.N3;refine Vb (I:=BI) (b.cG f e d) λh i _ a=>?_;split
 ·split
  ·exact a
  ·rename_i c g;refine a.to ?_ O O;exact CW.apn (h.cw c) _ _ _
 ·split
  ·exact a
  ·exact a.cG O O O
theorem BI.di{h:I0}(a:BI h)(ev:Ev):BI (h.di ev).2:=by
 unfold I0.di;split
 ·unfold I0.I1;simp only;split
  ·exact a
  ·simp only;split
   ·exact a.cG O O O
   ·rename_i c b;refine BI.to (h:=h) a ?_ O O;exact CW.apn (I0.cw _ c) _ _ _
 split
 ·unfold I0.op;split
  ·exact a
  simp only;split
  ·exact a
  split
  ·exact a
  ·exact a.cG O O O
 split
 ·unfold I0.Xa;simp only;split
  ·exact a
  split
  ·exact a
  ·exact a.cG (CW.aps _ _ _) O O
 split
 ·grind[I0.T9]
 split
 ·exact a.vj
 split
 ·unfold I0.zb;split
  ·exact akA.zb a
  ·exact a
 split
 ·exact a.A9 ev
 split
 ·exact⟨a.O0,(Gq.take a.p6 ev.N3 ev.up ev.t8 false).1⟩
 split
 ·exact a.N6 ev
 split
 ·exact a.xd ev
 split
 ·unfold I0.fa;simp only;split
  ·split
   ·exact a
   ·exact a.cG (CW.apm _ _) O O
  ·split
   ·exact a
   ·exact a.cG (PW.apm _ _) O O
 ·exact a
theorem BI.da{h:I0}(a:BI h)(ev:Ev):BI (h.da ev).2:=(a.di ev).cG O O O
theorem BI.start(p:R9)(d R0:Int):BI (I0.start p d R0):=by
 unfold I0.start;simp only;have:∀(l:List Nat)(h:I0),BI h->BI (l.foldl (λ(h:I0)(n:Nat)=>(h.L6 (n:Int)).2) h):=by
  intro l;induction l with
  |nil=>simp
  |cons n l e=>intro h f;grind[MJ,cG]
 refine this _ _ ⟨?_,?_⟩
 ·intro x b;obtain⟨i,_,c⟩:=xC.1 b;simp only[List.mem_cons,List.not_mem_nil,or_false]at c;rcases c with rfl|rfl<;>exact⟨λm a=>(by cases a),λm a=>(by cases a)⟩
 ·intro x b m a;obtain⟨i,_,c⟩:=xC.1 b<;>grind
theorem apB{F:End->P9->Prop}{l:O6}(h:Gq F l)(p:Int)(up:Bool):∀m∈l.Ot p up,F ⟨p,Ec up⟩ m:=by
 unfold O6.Ot;intro m a;cases hb:K0 l.S8 ⟨p,up⟩with
 |none=>simp_all
 |some b=>rw[hb]at a;exact h _ (Q7 hb) m a
theorem apw{F:End->P9->Prop}{k:J2}(h:Ze F k)(p:Int)(up:Bool):∀m∈k.C8 p up,F ⟨p,Ec up⟩ m:=by
 unfold J2.C8;intro m a;split at a
 ·cases a
 ·rename_i w b;unfold Yk.P0 at a;split at a
  ·cases a
  ·exact(h _ (Q7 b)).2 m a
theorem BI.ank{h:I0}(d:BI h)(p:Int):(∀m∈h.p6.Ot p true++h.O0.C8 p true,m.E0=p∧m.W0<=3)∧∀m∈h.p6.Ot p false++h.O0.C8 p false,m.E0=p∧4<=m.W0∧(m.W0=4->h.O0.R4.o9 m.tx p h.C0=(m.H8,0)):=by
 have f:∀up,∀m∈h.p6.Ot p up++h.O0.C8 p up,IT h.O0.R4 h.C0 ⟨p,Ec up⟩ m:=by
  intro up m a;rcases rh.1 a with a|a
  ·exact apB d.p6 p up m a
  ·exact apw (F:=IT h.O0.R4 h.C0) d.O0 p up m a
 have k:∀up m,(⟨p,Ec up⟩:End).ra m=true->m.E0=p∧m.up=up∧1<=m.W0∧m.W0<=5:=by
  intro up m a;unfold End.ra at a;simp only[Bool.and_eq_true,decide_eq_true_eq,beq_iff_eq]at a;obtain⟨⟨b,c⟩,g⟩:=a;unfold P9.right yx at b;simp only[Bool.and_eq_true,decide_eq_true_eq]at b;refine⟨c,?_,?_⟩
  ·rw[g];cases up<;>rfl
  ·omega
 refine⟨λm a=>?_,λm a=>?_⟩
 ·obtain⟨b,_⟩:=f true m a;simp_all[P9.up]
 ·obtain⟨b,j⟩:=f false m a;obtain⟨e,c,g,l⟩:=k false m b;unfold P9.up at c;simp only[Bool.and_eq_false_iff,decide_eq_false_iff_not]at c;refine⟨e,m4,λi=>?_⟩;have:=j i;simp_all
end Go.Proofs.YtaaihojmcfaejaaGreatDoor
