/- Lemmas for the tops: the walk of the house and its laws. No condition is added. -/
import Derived.Test.YtaaihojmcfaejaaGreatDoorQav
import Derived.Test.YtaaihojmcfaejaaGreatDoorQah
import Derived.Test.YtaaihojmcfaejaaGreatDoorQaf
import Derived.Test.YtaaihojmcfaejaaGreatDoorQag
set_option linter.all false
namespace Go.Proofs.YtaaihojmcfaejaaGreatDoor
open Go Go.RowKit Tryz
variable{C0 E0 tx:Int}{k:J2}{B0:List (Int×T4)}{R:List HP}{g:M9}{l:N7}{b m mm n:Nat}{a:Option Addr}{o:Option D8}{r:T4}{d x:U2}{v1:Value}{c w:World}
theorem aaK{P:Prop}(h:P:=by
 intro j r hr ho;by_cases hj:j=tx
 ·grind[G1]
 ·rw[Y0 hj]at hr;exact h j r hr ho):P:=h
structure zf where
 A0:Int
 A:Int->Prop
 NV:Int->Int->Prop
 C:Int->Int->Prop
 J0:Int->BitVec 16
def zf.D(P:zf)(tx:Int):Prop:=P.A tx∧∀p,0<=p->p<P.A0->Qe (W (P.J0 tx)) p=true->¬P.NV p tx
def zf.Q(P:zf)(r:A5):Prop:=P.A r.tx∧(r.W0=4->P.D r.tx)
def zf.F(P:zf)(e:End)(m:P9):Prop:=e.ra m=true∧P.A m.tx∧(e.dir=1->m.W0=1->P.NV e.E0 m.tx->¬(m.H8=1∨m.H8=2))∧(m.W0=4->m.H8=1->P.D m.tx)
structure zf.Le(P P':zf):Prop where
 A0:P'.A0=P.A0
 A:∀tx,P.A tx->P'.A tx
 NV:∀p tx,P.A tx->P'.NV p tx->P.NV p tx
 J0:∀tx,P.A tx->P'.J0 tx=P.J0 tx
section
variable{P P':zf}
theorem zf.D.mono(h:P.Le P')(a:P.D tx):P'.D tx:=
 ⟨h.A tx a.1,λp h0 d c b=>a.2 p h0 (by rw[<-h.A0];exact d) (by rw[<-h.J0 tx a.1];exact c) (h.NV p tx a.1 b)⟩
theorem zf.Q.mono(h:P.Le P'){r:A5}(a:P.Q r):P'.Q r:=⟨h.A _ a.1,λe=>(a.2 e).mono h⟩
theorem zf.F.mono(h:P.Le P'){e:End}{m:P9}(a:P.F e m):P'.F e m:=⟨a.1,h.A _ a.2.1,λc b d=>a.2.2.1 c b (h.NV _ _ a.2.1 d),λc b=>(a.2.2.2 c b).mono h⟩
structure Ic(P:zf)(tx:Int)(r:T4):Prop where
 a:P.A tx
 T5:r.N2=2->P.D tx
 J0:r.N2=0->r.J0=P.J0 tx
 len:(r.V3.length:Int)=P.A0
 Y4:∀(p:Nat)(v:Int),r.V3[p]? =some v->P.NV (p:Int) tx->¬(v=1∨v=2)
theorem Ic.mono(h:P.Le P')(b:Ic P tx r):Ic P' tx r:=
 ⟨h.A tx b.a,λe=>(b.T5 e).mono h,λe=>(b.J0 e).trans (h.J0 tx b.a).symm,by rw[h.A0];exact b.len,λp v c d=>b.Y4 p v c (h.NV _ _ b.a d)⟩
def gF(P:zf)(g:M9):Prop:=∀tx r,K0 g.B0 tx=some r->r.r9=2->P.D tx
theorem gF.mono(h:P.Le P')(c:gF P g):gF P' g:=λtx r a b=>(c tx r a b).mono h
theorem gF.U6(h:gF P g)(tx:Int)(J0:BitVec 16)(a:Int):gF P (g.U6 tx J0 a).2:=by
 unfold M9.U6;split;·exact h
 split;·exact h
 split;·exact h
 split;·exact h
 exact aaK
theorem gF.put(h:gF P g){s9:Bool}(c:s9=true->P.D tx):gF P (g.put tx s9).2:=by
 unfold M9.put;have hov:(if s9=true then(2:Int)else 1)=2->s9=true:=by cases s9<;>simp
 generalize(if s9=true then(2:Int)else 1)=a at hov;split
 ·exact h
 rename_i q b;split
 ·exact h
 exact aaK
theorem gF.o9(h:gF P g)(a:(g.o9 tx E0 C0).2=0)(b:(g.o9 tx E0 C0).1=1):P.D tx:=by
 unfold M9.o9 at a b;cases c:K0 g.B0 tx with
 |none=>simp_all
 |some r=>
  rw[c]at a b;simp only at a b;split at a
  ·omega
  rename_i a1;rw[V0 a1]at b;split at a
  ·omega
  rename_i a2;rw[V0 a2]at b;split at a
  ·rename_i a3;exact h tx r c a3
  simp_all
structure CI(P:zf)(x:CW):Prop where
 X9:∃S0,s6 x.M6 x.O1.X9 S0∧∀r∈S0,P.Q r
 row:∀tx r,K0 x.O1.B0 tx=some r->Ic P tx r
 R4:gF P x.O0.R4
 Er:Ze P.F x.O0
 D0:x.O0.D0.A0=P.A0
variable{x:CW}
theorem CI.setRow(h:CI P x)(b:Ic P tx r):CI P (x.setRow tx r):=by refine⟨h.X9,λj q a=>?_,h.R4,h.Er,h.D0⟩;have a:K0 (R1 x.O1.B0 tx r) j=some q:=a;grind[G1,Y0,row]
theorem CI.Z6(h:CI P x){W0 H8:Int}(a:¬W0=1)(d:P.A tx)(c:W0=4->H8=1->P.D tx):CI P (x.Z6 E0 W0 tx H8 C0):=by
 obtain⟨i,g,_,_⟩:=TA (k:=x.O0) (N3:=x.O0.D0.A0) (to:=E0) (m:=⟨W0,E0,tx,H8⟩) (t:=C0);refine⟨h.X9,h.row,?_,?_,?_⟩
 ·show gF P (x.O0.Z6 x.O0.D0.A0 E0 ⟨W0,E0,tx,H8⟩ C0).2.R4;grind[R4]
 ·exact h.Er.Z6 λe _ b=>⟨b,d,λ_ f=>absurd f a,c⟩
 ·show(x.O0.Z6 x.O0.D0.A0 E0 ⟨W0,E0,tx,H8⟩ C0).2.D0.A0=P.A0;grind[D0]
theorem CI.yW(h:CI P x)(a:∃S0,s6 d l S0∧∀r∈S0,P.Q r):CI P {x with O1:={x.O1 with X9:=l},M6:=d}:=⟨a,h.row,h.R4,h.Er,h.D0⟩
theorem Ic.ka(h:Ic P tx r)(a b:BitVec 16)(w e:Bool):Ic P tx {r with ka:=a,done:=b,Qc:=w,G':=e}:=⟨h.a,h.T5,h.J0,h.len,h.Y4⟩
theorem CI.z7(h:CI P x){m:P9}(g:K0 x.O1.B0 m.tx=some r)(d:P.F ⟨m.E0,1⟩ m)(i:m.W0=1)(C0:Int):CI P (x.z7 r m C0):=by
 have h0:=h.row m.tx r g;have f:Ic P m.tx (if r.N2=0∧r.V3.getD m.E0.toNat 0= -1 then{r with V3:=r.V3.set m.E0.toNat m.H8}else r):=by
  split
  ·refine⟨h0.a,h0.T5,h0.J0,by grind[Ic.len],λp v b c=>?_⟩;have b:(r.V3.set m.E0.toNat m.H8)[p]? =some v:=b;rw[wL]at b;split at b
   ·rename_i j;split at b
    ·injection b with b;rw[<-b];have l:0<=m.E0:=by have:=d.1;unfold End.ra P9.right at this;simp only[Bool.and_eq_true,decide_eq_true_eq]at this;omega
     have e:((p:Nat):Int)=m.E0:=m4
     rw[e]at c;exact d.2.2.1 O i c
    ·cases b
   ·exact h0.Y4 p v b c
  ·exact h0
 unfold CW.z7;simp only;generalize(if r.N2=0∧r.V3.getD m.E0.toNat 0= -1 then{r with V3:=r.V3.set m.E0.toNat m.H8}else r)=r' at f;have k:=(h.setRow f).Z6 (E0:=m.E0) (W0:=5) (tx:=m.tx) (H8:=0) (C0:=C0) Zb4 h0.a (λe=>absurd e Zb3);grind[setRow,Ic.ka]
theorem Yj{k:Int}{m:BitVec 16}:nf ⟨k,tx,m,Y3,X0,X0⟩:=⟨M7.zero,M7.zero⟩
theorem CI.done(h:CI P x){m:P9}(d:K0 x.O1.B0 m.tx=some r):CI P (x.done r m):=by
 have h0:=h.row m.tx r d;have c:=h0.ka (r.ka&&& ~~~(Lk m.E0)) (r.done|||Lk m.E0) r.Qc r.G';unfold CW.done;simp only;split
 ·exact h.setRow c
 ·obtain⟨S0,i,g⟩:=h.X9;refine CI.setRow (x:={x with O1:={x.O1 with X9:=_},M6:=_}) ?_ (c.ka _ _ _ _);refine h.yW ?_;by_cases f:(x.O1.X9.append x.M6 [⟨6,m.tx,0#16,Y3,X0,X0⟩] 0).1=0
  ·refine⟨_,i.aiH f Yj O,λq b=>?_⟩;rcases rh.1 b with b|b
   ·exact g q b
   ·rw[Gs.1 b];exact⟨h0.a,λe=>absurd e Zb3⟩
  grind[ki]
theorem CI.take(h:CI P x){m:P9}(b:P.F ⟨m.E0,1⟩ m)(C0:Int):CI P (x.take m C0):=by
 unfold CW.take;split
 ·exact h
 rename_i r a;split;·exact h
 split
 ·simp_all[z7]
 split
 ·split
  ·exact h.setRow ((h.row _ _ a).ka _ _ _ _)
  ·exact h
 grind[done]
theorem KV{a:Type}:∀{l:List a}{i:Nat}{v:a},l[i]? =some v->(v,i)∈l.zipIdx:=Zb1
theorem Ic.Gh(h:Ic P tx r)(i:r.J0=P.J0 tx)(b:r.Gh=true):P.D tx:=by
 refine⟨h.a,λp h0 k j f=>?_⟩;have g:=h.len;have d:p.toNat<r.V3.length:=m4
 have c:r.V3[p.toNat]? =some r.V3[p.toNat]:=d8 d;have e:((p.toNat:Nat):Int)=p:=m4
 refine h.Y4 p.toNat _ c Zb1 ?_;unfold T4.Gh at b;rw[akw,List.any_eq_false]at b;have:=b _ (KV c);grind
theorem CI.Uf(h:CI P x)(c:P.D tx):CI P (x.Uf tx r).2.2∧(∃n e,(x.Uf tx r).2.1={r with need:=n,G':=e}):=by
 unfold CW.Uf;simp only;generalize aju:(if(r.s9.toNat:Int)=0 then[(⟨2,tx,r.J0,Y3,X0,X0⟩:A5),⟨4,tx,0#16,Y3,X0,X0⟩,⟨6,tx,0#16,Y3,X0,X0⟩]else[⟨2,tx,r.s9,Y3,X0,X0⟩,⟨4,tx,0#16,Y3,X0,X0⟩])=P0;have a:∀q∈P0,q.tx=tx∧nf q:=by
  intro q a;rw[<-aju]at a;split at a
  ·simp only[List.mem_cons,List.not_mem_nil,or_false]at a;rcases a with rfl|rfl|rfl<;>exact⟨rfl,Yj⟩
  ·simp only[List.mem_cons,List.not_mem_nil,or_false]at a;rcases a with rfl|rfl<;>exact⟨rfl,Yj⟩
 obtain⟨S0,f,d⟩:=h.X9;split
 ·rename_i b;refine⟨h.yW ?_,r.need,r.G',rfl⟩;grind[ki]
 ·rename_i b;have b:(x.O1.X9.append x.M6 P0 4).1=0:=m4
  refine⟨h.yW ⟨_,(f.append b (λq g=>(a q g).2)).1,λq g=>?_⟩,_,_,rfl⟩;rcases rh.1 g with g|g
  ·exact d q g
  ·obtain⟨e,_⟩:=a q g;exact⟨by rw[e];exact c.1,λ_=>Zb1⟩
theorem CI.decide(h:CI P x)(o:K0 x.O1.B0 tx=some r)(h0:r.N2=0):CI P (x.decide tx r):=by
 have f:=h.row tx r o;have u:=f.J0 h0;unfold CW.decide;simp only;have l:∃b n e d,(if{r with N2:=1}.Qc=true∧T4.Gh {r with N2:=1}=true then x.Uf tx {r with N2:=1}else(false,{r with N2:=1},x))=(b,{r with N2:=1,need:=n,G':=e},d)∧CI P d∧(b=true->P.D tx):=by
  split
  ·rename_i m;have q:P.D tx:=f.Gh u m.2;obtain⟨y,n,e,w⟩:=h.Uf (r:={r with N2:=1}) q<;>grind
  ·grind
 obtain⟨b,n,e,d,v,c,s⟩:=l;rw[v];simp only;have k:∀i:Int,(i=1∨(i=2∧b=true))->∀t,Ic P tx {r with N2:=i,need:=n,G':=e,ka:=t}:=by
  intro i hdd t;refine⟨f.a,λg=>?_,λg=>?_,f.len,f.Y4⟩
  ·simp_all
  ·omega
 have j:∀g,gF P g->CI P {d with O0:={d.O0 with R4:=g}}:=λg p=>⟨c.X9,c.row,p,c.Er.R4 g,c.D0⟩;cases b with
 |true=>simp only[if_true];exact(j _ (c.R4.put (λ_=>s O))).setRow (k 2 (.inr ⟨rfl,rfl⟩) _)
 |false=>simp only[Bool.false_eq_true,if_false];exact(j _ (c.R4.put (λg=>by simp at g))).setRow (k 1 (.inl O) _)
theorem CI.ka(h:CI P x)(E0 C0:Int):CI P (x.ka E0 C0):=by
 unfold CW.ka;have:=Uc (B0:=λ(x:CW)=>x.O1.B0) (r0:=qj) (f:=λ(x:CW)(tx:Int)(r:T4)=>if Qe (W r.ka) E0=false then x else if(x.O0.R4.o9 tx E0 C0).2=0 then x.Z6 E0 4 tx (x.O0.R4.o9 tx E0 C0).1 C0 else x) (I:=λ(y:CW)=>CI P y∧y.O1=x.O1) (s:=x) ⟨h,rfl⟩ λy tx i⟨b,d⟩=>?_
 ·exact this.1
 split
 ·omega
 split
 ·rename_i h0;obtain⟨r,c⟩:=ca i;have g:=(h.row tx r c).a;exact⟨b.Z6 Zb4 g (λ_ e=>b.R4.o9 h0 e),d⟩
 omega
theorem CI.J6(h:CI P x)(N3 E0 i t:Int):CI P {x with O0:=(x.O0.J6 N3 E0 i t).2.2}:=by obtain⟨a,_⟩:=h.Er.J6 N3 E0 i t;obtain⟨c,b,_,_⟩:=YA (k:=x.O0) (N3:=N3) (E0:=E0) (i:=i) (t:=t);exact⟨h.X9,h.row,by grind[R4],a,by grind[D0]⟩
theorem MB{e:End}{m:P9}(h:e.ra m=true):m.E0=e.E0:=by simp_all[End.ra]
theorem yH(x:CW)(tx:Int)(r:T4):∃r',(x.decide tx r).O1.B0=R1 x.O1.B0 tx r':=by
 unfold CW.decide;simp only;have a:(if{r with N2:=1}.Qc=true∧T4.Gh {r with N2:=1}=true then x.Uf tx {r with N2:=1}else(false,{r with N2:=1},x)).2.2.O1.B0=x.O1.B0:=by
  split
  ·unfold CW.Uf<;>grind
  ·rfl
 generalize(if{r with N2:=1}.Qc=true∧T4.Gh {r with N2:=1}=true then x.Uf tx {r with N2:=1}else(false,{r with N2:=1},x))=y at a;generalize(if y.1=true then{y.2.1 with N2:=2}else y.2.1)=r';refine⟨{r' with ka:=r'.s9},?_⟩;show R1 y.2.2.O1.B0 tx _=_;rw[a]
theorem CI.run(h:CI P x)(C0:Int):CI P (x.run C0).2:=by
 unfold CW.run;simp only;split
 ·exact h
 show CI P (m6 _ (λ(x:CW)(p:Int)=>x.ka p C0) _);refine Vb (I:=CI P) ?_ λy i _ a=>a.ka _ C0;have l:CI P (m6 x.O0.D0.A0 (λ(x:CW)(p:Int)=>if(x.O0.J6 x.O0.D0.A0 p 0 C0).2.1=0 then CW.take {x with O0:=(x.O0.J6 x.O0.D0.A0 p 0 C0).2.2} (x.O0.J6 x.O0.D0.A0 p 0 C0).1 C0 else{x with O0:=(x.O0.J6 x.O0.D0.A0 p 0 C0).2.2}) x):=by
  refine Vb (I:=CI P) h λy i _ a=>?_;have k:=a.J6 y.O0.D0.A0 (i:Int) 0 C0;have g:=(a.Er.J6 y.O0.D0.A0 (i:Int) 0 C0).2;have m:y.O0.Ia y.O0.D0.A0=true:=Si O;rw[m]at g;split
  ·rename_i h0;have d:=g h0;refine k.take ?_ C0;rw[MB d.1];exact d
  ·exact k
 generalize m6 x.O0.D0.A0 (λ(x:CW)(p:Int)=>if(x.O0.J6 x.O0.D0.A0 p 0 C0).2.1=0 then CW.take {x with O0:=(x.O0.J6 x.O0.D0.A0 p 0 C0).2.2} (x.O0.J6 x.O0.D0.A0 p 0 C0).1 C0 else{x with O0:=(x.O0.J6 x.O0.D0.A0 p 0 C0).2.2}) x=z at l;have:=Uc (B0:=λ(x:CW)=>x.O1.B0) (r0:=qj) (f:=λ(x:CW)(tx:Int)(r:T4)=>if r.N2=0∧C0>=x.O0.D0.E5 r.I1 then x.decide tx r else x) (I:=λ(y:CW)=>CI P y∧∀j∈z.O1.B0.map (·.1),∃r,K0 y.O1.B0 j=some r) (s:=z) ⟨l,λj c=>ca c⟩ λy tx q⟨a,o⟩=>?_
 ·exact this.1
 obtain⟨r,b⟩:=o tx q;rw[b];simp only[Option.getD_some];split
 ·rename_i n;refine⟨a.decide b n.1,λj c=>?_⟩;obtain⟨r',e⟩:=yH y tx r;grind[G1,Y0]
 omega
theorem CI.V2(h:CI P x)(n:0<=P.A0)(l:P.A tx)(b:Int):CI P (x.V2 tx (P.J0 tx) b).2:=by
 unfold CW.V2;simp only;have d:CI P {x with O0:={x.O0 with R4:=(x.O0.R4.U6 tx (P.J0 tx) (x.O0.D0.E5 b)).2}}:=⟨h.X9,h.row,h.R4.U6 _ _ _,h.Er,h.D0⟩;have c:∃r,(K0 x.O1.B0 tx).getD (T4.new x.O0.D0.A0 (P.J0 tx) b)=r∧Ic P tx {r with J0:=P.J0 tx,I1:=b}:=by
  cases k:K0 x.O1.B0 tx with
  |some r=>have h0:=h.row tx r k;exact⟨r,rfl,h0.a,h0.T5,λ_=>rfl,h0.len,h0.Y4⟩
  |none=>
   refine⟨_,rfl,l,λe=>absurd e (by simp[T4.new]),λ_=>rfl,?_,λp v f _=>?_⟩
   ·show((List.replicate _ _).length:Int)=_;grind[D0]
   ·have f:(List.replicate x.O0.D0.A0.toNat (-1:Int))[p]? =some v:=f;grind
 obtain⟨r,e,c⟩:=c;rw[e];have hs:∀{y:CW}{q:T4},CI P y->Ic P tx q->CI P {y with O1:={y.O1 with B0:=R1 y.O1.B0 tx q}}:=λg i=>g.setRow i;split
 ·split
  ·grind
  ·exact d
 split
 ·grind
 ·rename_i h0;have h0:(({x.O0 with R4:=(x.O0.R4.U6 tx (P.J0 tx) (x.O0.D0.E5 b)).2}:J2).R4.o9 tx (leastOf (P.J0 tx)) 2199023255552).2=0:=by
   by_cases j:(({x.O0 with R4:=(x.O0.R4.U6 tx (P.J0 tx) (x.O0.D0.E5 b)).2}:J2).R4.o9 tx (leastOf (P.J0 tx)) 2199023255552).2=0
   ·exact j
   ·simp_all
  refine hs d ?_;split
  ·rename_i m;exact⟨c.a,λ_=>d.R4.o9 h0 m,λe=>absurd e Zb3,c.len,c.Y4⟩
  ·exact⟨c.a,λe=>absurd e Zb3,λe=>absurd e Zb3,c.len,c.Y4⟩
theorem CI.Xa(h:CI P x)(tx C0:Int):CI P (x.Xa tx C0).2:=by
 unfold CW.Xa;split
 ·exact h
 rename_i r a;split
 ·exact h
 ·exact h.setRow ((h.row tx r a).ka _ _ _ _)
theorem CI.T0(h:CI P x)(l:P.A 0)(C0:Int):CI P (x.T0 C0).2:=by
 unfold CW.T0;split
 ·exact h
 simp only;generalize i:(⟨[],(T3 x.O1.B0).filterMap λ(tx:Int)=>if((K0 x.O1.B0 tx).getD qj).N2=2∧((K0 x.O1.B0 tx).getD qj).G'=false then some ⟨tx,((K0 x.O1.B0 tx).getD qj).need,true,[]⟩else none⟩:x8)=st;have m:∀y∈st.L5,P.D y.n∧y.K2=[]:=by
  intro y c;rw[<-i]at c;obtain⟨tx,k,e⟩:=List.mem_filterMap.mp c;split at e
  ·rename_i f;injection e with e;obtain⟨r,b⟩:=ca ((i4 _).mem_iff.mp k);rw[b]at f;rw[<-e];exact⟨(h.row tx r b).T5 f.1,rfl⟩
  ·cases e
 have hb:st.N0=[]:=by rw[<-i]
 obtain⟨S0,p,f⟩:=h.X9;cases b:st.S0 with
 |none=>exact h
 |some g=>
  simp only;have o:∀q∈g,nf q∧P.Q q:=by
   unfold x8.S0 at b;split at b
   ·cases b
   injection b with b;rw[hb]at b;intro q a;rw[<-b]at a;rcases rh.1 a with a|a
   ·simp only[List.map_nil,List.append_nil,List.mem_singleton]at a;rw[a];exact⟨Yj,l,λe=>absurd e Zb3⟩
   ·obtain⟨y,c,a⟩:=xC.1 a;obtain⟨d,j⟩:=m y c;unfold xf.S0 at a;rw[j]at a;simp only[List.map_nil,List.nil_append,List.mem_append,List.mem_singleton]at a;rcases a with a|a
    ·rw[a];exact⟨Yj,d.1,λe=>absurd e Zb3⟩
    ·split at a
     ·rw[Gs]at a;rw[a];exact⟨Yj,d.1,λ_=>d⟩
     ·cases a
  by_cases h0:(x.O1.X9.T0 x.M6 g 0).1=0
  ·rw[S1 h0];grind[yW,s6.fa]
  simp_all[VH]
def lg(P:zf)(o:Option D8)(d:U2):Prop:=match o with
 |some c=>(∃S0,s6 d c.X9 S0∧∀r∈S0,P.Q r)∧∀tx r,K0 c.B0 tx=some r->Ic P tx r
 |none=>∃S0 l,s6 d l S0∧∀r∈S0,P.Q r
theorem lg.mono(h:P.Le P')(hs:lg P o d):lg P' o d:=by
 cases o with
 |none=>obtain⟨S0,l,e,b⟩:=hs;exact⟨S0,l,e,λr a=>(b r a).mono h⟩
 |some c=>obtain⟨⟨S0,e,b⟩,f⟩:=hs;exact⟨⟨S0,e,λr a=>(b r a).mono h⟩,λtx r a=>(f tx r a).mono h⟩
theorem CI.adf(h:CI P x):lg P (some x.O1) x.M6:=⟨h.X9,h.row⟩
theorem lg.ci{c:D8}(h:lg P (some c) d)(b:gF P k.R4)(e:Ze P.F k)(a:k.D0.A0=P.A0):CI P ⟨c,k,d⟩:=⟨h.1,h.2,b,e,a⟩
theorem lg.Gd(h:lg P o d)(Q6 O8:Int):lg P none (d.N6 Q6 O8):=by
 have:∃S0 l,s6 d l S0∧∀r∈S0,P.Q r:=by
  cases o with
  |none=>exact h
  |some c=>obtain⟨⟨S0,b,a⟩,_⟩:=h<;>grind
 obtain⟨S0,l,b,a⟩:=this;obtain⟨l',e,f,c1,_,c3,_,_⟩:=b.N6 Q6 O8;exact⟨e,l',c1,λr g=>a r Zb6⟩
theorem lg.S0(h:lg P o d):∃S0 l,I' d=some (l,S0)∧∀r∈S0,P.Q r:=by
 cases o with
 |none=>obtain⟨S0,l,b,a⟩:=h;exact⟨S0,l,b.Y9,a⟩
 |some c=>obtain⟨⟨S0,b,a⟩,_⟩:=h;exact⟨S0,c.X9,b.Y9,a⟩
def xh(X:Int->Prop)(p:Z1):Prop:=∀n w,K0 p.G0 n=some w->w.T1=true->X n
section
variable{X:Int->Prop}{p:Z1}
theorem xh.set(h:xh X p){w:ib}{a:List E2}{b:Int}{d:List E2}(g:w.T1=true->X tx):xh X ⟨a,R1 p.G0 tx w,b,d⟩:=by
 intro n v c f;have c:K0 (R1 p.G0 tx w) n=some v:=c;by_cases e:n=tx
 ·simp_all[G1]
 ·rw[Y0 e]at c;exact h n v c f
theorem xh.of(h:xh X p)(tx:Int):xh X (p.of tx).2∧((p.of tx).1.T1=true->X tx):=by
 unfold Z1.of;split
 ·rename_i w a;exact⟨h,λb=>h tx w a b⟩
 ·exact⟨h.set (λe=>by cases e),λe=>by cases e⟩
theorem xh.bb(h:xh X p):xh X p.bb:=by
 unfold Z1.bb;split
 ·intro n w a;cases a
 ·exact h
theorem xh.step(h:xh X p){r:A5}(d:r.W0=4->X r.tx)(b:Q8 p):xh X (step p r):=by
 unfold Go.Proofs.YtaaihojmcfaejaaGreatDoor.step;split
 ·unfold Z1.one;split
  ·exact xh.bb (p:={p with left:=(r.J0.toNat:Int),H9:=[]}) h
  split
  ·split
   ·exact xh.bb (p:={p with left:=p.left-1,H9:=p.H9++[⟨r.key,r.new⟩]}) h
   ·exact h
  simp only;obtain⟨g,f⟩:=xh.of (p:={p with left:= -1}) h r.tx;split
  ·grind[set]
  split
  ·grind[set]
  split
  ·grind[Z1.Zf,set]
  split
  ·intro n w a c;have a:K0 (U7 p.G0 r.tx) n=some w:=a;by_cases e:n=r.tx
   ·rw[e,V8 b]at a;cases a
   ·rw[C9 e]at a;exact h n w a c
  ·exact h
 ·exact h
theorem gN:∀(l:List A5)(p:Z1),xh X p->Q8 p->(∀r∈l,r.W0=4->X r.tx)->xh X (l.foldl Go.Proofs.YtaaihojmcfaejaaGreatDoor.step p)
 |[],_,h,_,_=>h
 |r::l,p,h,a,b=>by rw[Ti];exact gN l _ (h.step (b r (Ka ..)) a) (Tv [r] p a) (λq c=>b q (Ta _ c))
end
theorem RH{S0:List A5}{n:Int}{w:ib}(h:K0 (Tb S0).G0 n=some w)(d:w.T1=true):∃r∈S0,r.W0=4∧r.tx=n:=
 gN (X:=λn=>∃r∈S0,r.W0=4∧r.tx=n) S0 nc (λn w a=>by cases a) eu (λr b c=>⟨r,b,c,rfl⟩) n w h d
theorem lg.Y9(A:0<=P.A0){c:D8}(h:lg P none d)(b:D8.new P.A0 d=some c):lg P (some c) d:=by
 obtain⟨S0,l,m,k⟩:=h;unfold D8.new at b;rw[m.Y9]at b;simp only at b;injection b with b
 subst b;refine⟨⟨S0,m,k⟩,?_⟩;show∀tx r,K0 ((P6 S0).L5.foldl _ []) tx=some r->Ic P tx r;have z:∀x∈(P6 S0).L5,x.T1=true->P.D x.n:=by intro x f o;obtain⟨w,t,_,e⟩:=Md.mp f;have C:=V4 xf.T1 e;obtain⟨r,a,u,g⟩:=RH t Zb1;rw[<-g];exact(k r a).2 u
 have:∀(xs:List xf)(B0:List (Int×T4)),(∀x∈xs,x.T1=true->P.D x.n)->(∀tx r,K0 B0 tx=some r->Ic P tx r)->∀tx r,K0 (xs.foldl (λ(B0:List (Int×T4))(x:xf)=>if x.T1 then R1 B0 x.n {T4.new P.A0 x.J0 0 with N2:=2,need:=x.J0}else B0) B0) tx=some r->Ic P tx r:=by
  intro xs;induction xs with
  |nil=>simp
  |cons x xs q=>
   intro B0 f ann;rw[Ti];refine q _ (λy s=>f y (Ta _ s)) λtx r a=>?_;split at a
   ·rename_i o;have j:=f x (Ka ..) o;by_cases g:tx=x.n
    ·subst g;rw[G1]at a;injection a with a;rw[<-a];refine⟨j.1,λ_=>j,λe=>absurd e Zb3,?_,λp v i _=>?_⟩
     ·show((List.replicate _ _).length:Int)=_;grind
     ·have i:(List.replicate P.A0.toNat (-1:Int))[p]? =some v:=i;grind
    simp_all[Y0]
   simp[*]
 exact this _ [] z (λtx r a=>by cases a)
end
theorem dz{P Q:Prop}(q:Q)(f:Q->P:=by intro q;exact R2 func457 O (I2 h O λb1 w h=>sv [0,1,2,4,3,5,6,7,8,9,10,11] (q b1 w h))):P:=f q
theorem rI{P Q:Prop}(q:Q)(f:Q->P:=by intro q;exact U0 h 1 O O (U0 h 0 O O (RD.Ed eb h 5 O _ Zb9 λp1 h=>wg h.w5 λP4 D3 h=>Y6 h [0,1,2,3,4,5,7,6,58,109,10,11] λh=>m5 (U3 0 O O (U0 h 3 O O ⟨h,N1 (hH _ _ h) λw h=>m5 (U0 h 3 O O (q p1 P4 D3 w h))⟩))))):P:=f q
theorem BU{P:Prop}(h:P:=by replace h:Hp _ _ (M5 _ (r)::_):=Hp.E3 h;replace h:=Hp.F6 ‹_› h;exact⟨rfl,h.q 6 [2,3,4,5,0] O⟩):P:=h
structure CX(P:zf)(m:Nat)(x:CW):Prop where
 ci:CI P x
 kb:KB m x.O0
 pl:F8 x.O0.D0.A0 x.O0.D0.F0 x.O0.D0.L0
 B0:x.O1.B0.length<=3000
 Pu:∀tx r,K0 x.O1.B0 tx=some r->¬r.J0=0#16
section
variable{P:zf}
theorem CX.V3(h:CX P m ⟨⟨l,B0⟩,k,x⟩)(a:K0 B0 tx=some r):(r.V3.length:Int)=k.D0.A0∧r.V3.length<=6:=by have d:=(h.ci.row tx r a).len;have c:k.D0.A0=P.A0:=h.ci.D0;have b:1<=k.D0.A0∧k.D0.A0<=6:=h.pl.A0;omega
theorem CX.lok(h:CX P m ⟨⟨l,B0⟩,k,x⟩):∃S0,s6 x l S0:=by obtain⟨S0,a,_⟩:=h.ci.X9<;>grind
end
section
theorem afx{P:zf}{d pl kb:Nat}{y:P9}(h:Hp c w (bk b [Pt kb,Pt pl,.map (some m)] 321::J5 d pl l::M1 d x::K1 kb k::mr I M5 m B0::R))(z:CX P mm ⟨⟨l,B0⟩,k,x⟩)(D:0<=y.E0∧y.E0<k.D0.A0):Cr 457 #[Pt b,y.v,I C0] w c (.tuple #[]) (bk b [Pt kb,Pt pl,.map (some m)] 321::J5 d pl (CW.take ⟨⟨l,B0⟩,k,x⟩ y C0).O1.X9::M1 d (CW.take ⟨⟨l,B0⟩,k,x⟩ y C0).M6::K1 kb (CW.take ⟨⟨l,B0⟩,k,x⟩ y C0).O0::mr I M5 m (CW.take ⟨⟨l,B0⟩,k,x⟩ y C0).O1.B0::R):=by
 obtain⟨S0,E⟩:=z.lok;have C:k.Ok:=z.kb.ok;cases e:K0 B0 y.tx with
 |none=>
  have a:CW.take ⟨⟨l,B0⟩,k,x⟩ y C0=⟨⟨l,B0⟩,k,x⟩:=by unfold CW.take;simp only[e]
  rw[a];refine dz λb1 w h=>?_;replace h:=h.drew;exact U0 h 1 O O (U0 h 0 O O (RD.tn eb h 5 O _ Zb9 (Y6 h [0,1,2,3,4,5,7,6,58,109,10,11] λh=>Q5 ⟨h,Q5 ⟨rfl,h.q 6 [1,2,3,4,5] O⟩⟩)))
 |some r=>
  obtain⟨G,F⟩:=z.V3 e;obtain⟨q,i⟩:∃q,Qe (W r.J0) y.E0=q:=⟨_,rfl⟩;have hH:=λ(w:World)(R:List HP)(h:Hp c w R)=>SL (m:=r.J0) (p:=y.E0) h;rw[i]at hH;cases q with
  |false=>
   have a:CW.take ⟨⟨l,B0⟩,k,x⟩ y C0=⟨⟨l,B0⟩,k,x⟩:=by unfold CW.take;simp only[e];rw[S1 i]
   rw[a];refine dz λb1 w h=>?_;replace h:=h.drew;refine U0 h 1 O O (U0 h 0 O O (RD.Ed eb h 5 O _ Zb9 λp1 h=>wg h.w5 λP4 D3 h=>Y6 h [0,1,2,3,4,5,7,6,58,109,10,11] λh=>m5 (U3 0 O O (U0 h 3 O O ⟨h,N1 (hH _ _ h) λw h=>Q5 ?_⟩))));exact BU
  |true=>
   by_cases o:y.W0=1
   ·obtain⟨V,j⟩:∃V,tc k r y C0=V:=⟨_,rfl⟩;have a:CW.take ⟨⟨l,B0⟩,k,x⟩ y C0=⟨⟨l,R1 B0 y.tx V.1⟩,V.2,x⟩:=by unfold CW.take;simp only[e];rw[V0 (by rw[i];simp),S1 o,QC,j]
    have hVo:=λ(u:Nat)(v1 t:Value)(w:World)(R:List HP)(h:Hp c w (bk b [Pt kb,v1,t] 321::M5 u r::K1 kb k::R))=>pY (m:=y) (C0:=C0) h C m4 m4;rw[j]at hVo;rw[a];refine dz λb1 w h=>?_;replace h:=h.drew;refine rI λp1 P4 D3 w h=>?_;refine mf (O4 h 3 O O ?_);replace h:Hp _ _ (M5 _ (r)::_):=Hp.E3 h;refine N1 (pY (h.g [3,0,6] O) Zb9 m4 m4) λw h=>?_;replace h:=(h.g [1,3] O).V';refine⟨rfl,Hp.subst (h.q 6 [1,4,5,2,0] O) ?_⟩;subst j;rfl
   ·by_cases s:y.W0=2
    ·by_cases n:r.N2=0
     ·have a:CW.take ⟨⟨l,B0⟩,k,x⟩ y C0=⟨⟨l,B0⟩,k,x⟩:=by unfold CW.take;simp only[e];rw[V0 (by rw[i];simp),V0 o,S1 s,V0 (λk=>k n)]
      rw[a];refine dz λb1 w h=>?_;replace h:=h.drew;refine rI λp1 P4 D3 w h=>?_;refine Wa (mf (U0 h 0 O O (Mj ?_)));exact BU
     ·have a:CW.take ⟨⟨l,B0⟩,k,x⟩ y C0=⟨⟨l,R1 B0 y.tx {r with ka:=r.ka|||Lk y.E0}⟩,k,x⟩:=by unfold CW.take;simp only[e];rw[V0 (by rw[i];simp),V0 o,S1 s,S1 n];rfl
      rw[a];refine dz λb1 w h=>?_;replace h:=h.drew;refine rI λp1 P4 D3 w h=>?_;refine Wa (mf (U0 h 0 O O (xq (Y6 h [0,1,2,4,3,55,6,7,8,9,110] λh=>U3 0 O O (U0 h 3 O O ⟨h,km (WR.bit16 (bf.or16 O (J3 h 0 O O O λw h=>?_)))⟩)))));replace h:=Hp.E3 h;replace h:=h.V';exact⟨rfl,h.q 6 [2,3,4,5,0] O⟩
    ·by_cases n:y.W0=3
     ·obtain⟨V,j⟩:∃V,Re l x r y=V:=⟨_,rfl⟩;have a:CW.take ⟨⟨l,B0⟩,k,x⟩ y C0=⟨⟨V.2.1,R1 B0 y.tx V.1⟩,k,V.2.2⟩:=by unfold CW.take;simp only[e];rw[V0 (by rw[i];simp),V0 o,V0 s,S1 n,RT,j]
      have hVo:=λ(u:Nat)(A t:Value)(w:World)(R:List HP)(h:Hp c w (bk b [A,Pt pl,t] 321::M5 u r::J5 d pl l::M1 d x::R))=>oY (m:=y) h E D.1;rw[j]at hVo;rw[a];refine dz λb1 w h=>?_;replace h:=h.drew;refine rI λp1 P4 D3 w h=>?_;refine Wa (Wa (mf (O4 h 3 O O ?_)));replace h:Hp _ _ (M5 _ (r)::_):=Hp.E3 h;refine N1 (oY (h.g [3,0,4,5] O) Zb9 m4) λw h=>?_;replace h:=(h.g [1,4] O).V';refine⟨rfl,Hp.subst (h.q 6 [1,2,3,5,0] O) ?_⟩;subst j;rfl
     ·have a:CW.take ⟨⟨l,B0⟩,k,x⟩ y C0=⟨⟨l,B0⟩,k,x⟩:=by unfold CW.take;simp only[e];rw[V0 (by rw[i];simp),V0 o,V0 s,V0 n]
      rw[a];refine dz λb1 w h=>?_;replace h:=h.drew;refine rI λp1 P4 D3 w h=>?_;refine Wa (Wa (Wa ?_));exact BU
end
theorem UU{P Q:Prop}(q:Q)(f:Q->P:=by intro q;exact LD.qf h 3 O Zb9 Zb9 O q):P:=f q
theorem TU{P Q:Prop}(q:Q)(f:Q->P:=by intro q;exact K9 ((h.get 5 [0,1,2,3,4] O O).w5) (λP4 h=>h.elim (λD3 h=>q P4 D3 h))):P:=f q
theorem abt{P:Prop}(h:P:=by
 refine⟨(q-1),?_,_,rfl,?_,Hp.subst (h.get 4 [1,2,0,3] O O) ?_⟩
 ·omega
 ·omega
 ·grind[]):P:=h
def Je(B0:List (Int×T4))(E0 C0:Int)(k:J2)(tx:Int):J2:=
 if Qe (W ((K0 B0 tx).getD qj).ka) E0=false then k else
 let v:=k.R4.o9 tx E0 C0
 if v.2=0 then(k.Z6 k.D0.A0 E0 ⟨4,E0,tx,v.1⟩ C0).2 else k
theorem acJ(l:N7)(B0:List (Int×T4))(k:J2)(x:U2)(E0 C0:Int):CW.ka ⟨⟨l,B0⟩,k,x⟩ E0 C0=⟨⟨l,B0⟩,(T3 B0).foldl (Je B0 E0 C0) k,x⟩:=by
 unfold CW.ka Y8;simp only;generalize T3 B0=L;induction L generalizing k with
 |nil=>rfl
 |cons tx L a=>grind[Je,CW.Z6]
theorem NQ(h:KB m k)(a:m+1<=1000000)(B0:List (Int×T4))(E0 C0 tx:Int):KB (m+1) (Je B0 E0 C0 k tx)∧(Je B0 E0 C0 k tx).D0=k.D0:=by
 unfold Je;split
 ·exact⟨h.up (j' m),rfl⟩
 ·simp only;split
  ·simp_all[KB.Z6,Bf]
  ·exact⟨h.up (j' m),rfl⟩
theorem Aw(B0:List (Int×T4))(E0 C0:Int):∀(L:List Int){m:Nat}{k:J2},KB m k->m+L.length<=1000000->KB (m+L.length) (L.foldl (Je B0 E0 C0) k)∧(L.foldl (Je B0 E0 C0) k).D0=k.D0
 |[],_,_,h,_=>⟨h,rfl⟩
 |tx::L,m,k,h,a=>by rw[ze]at a⊢;obtain⟨b,e⟩:=NQ h m4 B0 E0 C0 tx;obtain⟨d,c⟩:=Aw B0 E0 C0 L b m4<;>grind
section
theorem afw{kb:Nat}(h:Hp c w (bk b [Pt kb,v1,.map (some m)] 321::K1 kb k::mr I M5 m B0::R))(L:KB mm k)(hm:mm<=900000)(hl:B0.length<=3000):Cr 459 #[Pt b,I E0,I C0] w c (.tuple #[]) (bk b [Pt kb,v1,.map (some m)] 321::K1 kb ((T3 B0).foldl (Je B0 E0 C0) k)::mr I M5 m B0::R):=by
 have V:(T3 B0).length=B0.length:=by rw[(i4 _).length_eq,H7]
 have hKs:∀n∈T3 B0,∃p,K0 B0 n=some p:=λn J=>ca ((i4 _).mem_iff.mp J);have C:=λ(w:World)(H v1:Value)(R:List HP)(h:Hp c w (bk b [H,v1,.map (some m)] 321::mr I M5 m B0::R))=>aR h m4;obtain⟨K,M⟩:∃K,T3 B0=K:=⟨_,rfl⟩;rw[M]at V hKs C⊢;refine Rn kn func459 O O ?_;refine od.by rfl (C _ _ _ _ (h.get 3 [0,2,1] O O)) ?_;rintro _ w ⟨a1,F,rfl,h⟩;refine p5.A6 kn [0,1,2,11,12,13] (λq vs w'=>∃(i:Int),vs=[Pt b,I E0,I C0,.slice a1 K.length F,I K.length,I i]∧(0<=i∧i+q=K.length)∧Hp c w' (bk b [Pt kb,v1,.map (some m)] 321::K1 kb ((K.take i.toNat).foldl (Je B0 E0 C0) k)::mr I M5 m B0::so 3 O5 a1 F K::R)) K.length ⟨0,rfl,m4,h.get 4 [1,3,2,0] O O⟩ ?_;rintro q _ w1 e0 ⟨i,rfl,hq,h⟩;refine BR.T5 (λS=>?_) (λS=>?_)
 ·obtain⟨tx,Y⟩:∃tx,i3 K i.toNat=some tx:=⟨K[i.toNat],by rw[Z0,d8]⟩;obtain⟨r,s⟩:=hKs tx (by grind[Z0]);have T:(i+1).toNat=i.toNat+1:=m4
  obtain⟨G,Z⟩:=Aw B0 E0 C0 (K.take i.toNat) L Zb1;have l:(K.take (i+1).toNat).foldl (Je B0 E0 C0) k=Je B0 E0 C0 ((K.take i.toNat).foldl (Je B0 E0 C0) k) tx:=by rw[T,O7 Y,Qh];rfl
  obtain⟨a,X⟩:∃a,(K.take i.toNat).foldl (Je B0 E0 C0) k=a:=⟨_,rfl⟩;rw[X]at G Z l h;have ZE:a.Ok:=G.ok;obtain⟨z,A⟩:∃z,Qe (W r.ka) E0=z:=⟨_,rfl⟩;have j:=λ(w:World)(R:List HP)(h:Hp c w R)=>SL (m:=r.ka) (p:=E0) h;rw[A]at j;cases z with
  |false=>
   have d:Je B0 E0 C0 a tx=a:=by unfold Je;rw[s];exact S1 A
   rw[d]at l;refine Jc.sl h 3 O m4 (λE x y=>?_);refine UU ?_;refine LD.hp h 0 O O ?_;refine RD.Ed eb h 2 O _ Zb9 (λu h=>?_);refine TU λP4 D3 h=>?_;refine LD.hp h 0 O O ?_;refine od.by rfl (j _ _ h) ?_;rintro _ w ⟨rfl,h⟩;refine BR.s9 O ?_;refine WR.vp (i64 m4) ?_;replace h:Hp _ _ (M5 _ (r)::_):=Hp.E3 (h.get 6 [0,1,2,3,4,5] O O);replace h:=Hp.F6 Zb9 (h.get 5 [0,1,2,3,4] O O);exact abt
  |true=>
   obtain⟨v,o⟩:∃v,a.R4.o9 tx E0 C0=v:=⟨_,rfl⟩;have N:=λ(g:Nat)(w:World)(R:List HP)(h:Hp c w (Ma g a.R4::R))=>yj (tx:=tx) (p:=E0) (C0:=C0) h;rw[o]at N;by_cases D:v.2=0
   ·have d:Je B0 E0 C0 a tx=(a.Z6 a.D0.A0 E0 ⟨4,E0,tx,v.1⟩ C0).2:=by unfold Je;rw[s];rw[V0 Zb6];simp only[o];rw[S1 D]
    rw[d]at l;refine Jc.sl h 3 O m4 (λE x y=>?_);refine UU ?_;refine LD.hp h 0 O O ?_;refine RD.Ed eb h 2 O _ Zb9 (λu h=>?_);refine TU λP4 D3 h=>?_;refine LD.hp h 0 O O ?_;refine od.by rfl (j _ _ h) ?_;rintro _ w ⟨rfl,h⟩;refine BR.no O ?_;refine LD.hp h 3 O O ?_;refine K9 ((h.get 6 [4,0,1,2,3,5] O O).d5) (λC7 h=>h.elim (λE7 h=>h.elim (λD5 h=>h.elim (λD7 h=>?_))));refine od.by rfl (Mp (h.get 9 [0,1,2,3,4,5,6,7,8] O O)) ?_;rintro _ w ⟨rfl,h⟩;refine od.by rfl (yj (h.get 9 [1,0,2,3,4,5,6,7,8] O O)) ?_;rintro _ w ⟨rfl,h⟩;refine BR.eq (λt=>?_) (λt=>?_)
    ·replace h:Hp _ _ (K1 _ (a)::_):=Hp.F3 (h.get 9 [1,0,2,3,4,5,6,7,8] O O);refine od.by rfl (FA (h.get 6 [4,0,1,2,3,5] O O) Zb9) ?_;rintro _ w ⟨rfl,h⟩;refine WR.vp (i64 m4) ?_;replace h:Hp _ _ (M5 _ (r)::_):=Hp.E3 (h.get 6 [2,3,0,1,4,5] O O);replace h:=Hp.F6 Zb9 (h.get 5 [0,3,1,2,4] O O);exact abt
    ·refine WR.vp (i64 m4) ?_;grind[]
   ·have d:Je B0 E0 C0 a tx=a:=by unfold Je;rw[s];rw[V0 Zb6];simp only[o];rw[V0 D]
    rw[d]at l;refine Jc.sl h 3 O m4 (λE x y=>?_);refine UU ?_;refine LD.hp h 0 O O ?_;refine RD.Ed eb h 2 O _ Zb9 (λu h=>?_);refine TU λP4 D3 h=>?_;refine LD.hp h 0 O O ?_;refine od.by rfl (j _ _ h) ?_;rintro _ w ⟨rfl,h⟩;refine BR.no O ?_;refine LD.hp h 3 O O ?_;refine K9 ((h.get 6 [4,0,1,2,3,5] O O).d5) (λC7 h=>h.elim (λE7 h=>h.elim (λD5 h=>h.elim (λD7 h=>?_))));refine od.by rfl (Mp (h.get 9 [0,1,2,3,4,5,6,7,8] O O)) ?_;rintro _ w ⟨rfl,h⟩;refine od.by rfl (yj (h.get 9 [1,0,2,3,4,5,6,7,8] O O)) ?_;rintro _ w ⟨rfl,h⟩;refine BR.eq (λt=>?_) (λt=>?_)
    ·replace h:Hp _ _ (K1 _ (a)::_):=Hp.F3 (h.get 9 [1,0,2,3,4,5,6,7,8] O O);refine od.by rfl (FA (h.get 6 [4,0,1,2,3,5] O O) Zb9) ?_;rintro _ w ⟨rfl,h⟩;refine WR.vp (i64 m4) ?_;grind[]
    ·refine WR.vp (i64 m4) ?_;replace h:Hp _ _ (K1 _ (a)::_):=Hp.F3 (h.get 9 [1,0,2,3,4,5,6,7,8] O O);replace h:Hp _ _ (M5 _ (r)::_):=Hp.E3 (h.get 6 [1,2,0,3,4,5] O O);replace h:=Hp.F6 Zb9 (h.get 5 [0,2,1,3,4] O O);refine⟨(q-1),?_,_,rfl,?_,Hp.subst (h.get 4 [2,1,0,3] O O) ?_⟩
     ·omega
     ·omega
     ·grind[]
 ·have e:K.take i.toNat=K:=sd m4;rw[e]at h;exact⟨rfl,h.get 4 [0,1,2] O O⟩
end
theorem OS:∀(f x:Nat),0<x->x<2^f->x.testBit (Lib.ctzFrom f x)=true∧∀j,j<Lib.ctzFrom f x->x.testBit j=false:=by intro f x h0 h;obtain⟨m,a,b⟩:=Lib.ctzFrom_spec f x h0 h<;>grind
theorem SO(m:BitVec 16)(h:¬m=0#16):(low (W m):Int)=leastOf m:=by
 have g:m.toNat≠0:=λe=>h (Sh (by simpa using e));have d:=m.isLt;have f:(W m).toNat=m.toNat:=by unfold W;rw[CC];omega
 obtain⟨c,b⟩:=OS 64 m.toNat m4 m4;have o:low (W m)=Lib.ctzFrom 64 m.toNat:=by unfold low Lib.ctz;rw[f,V0 g]
 rw[o];obtain⟨k,l⟩:∃k,Lib.ctzFrom 64 m.toNat=k:=⟨_,rfl⟩;rw[l]at c b⊢;have aoa:k<16:=by
  rcases Nat.lt_or_ge k 16 with a|a
  ·exact a
  ·have:m.toNat.testBit k=false:=sL (iz d (Fs m4 a));simp_all
 have p:(List.range 16).find? (λ(i:Nat)=>m.getLsbD i)=some k:=by rw[List.find?_range_eq_some];refine⟨c,Zb6,λj n=>?_⟩;have:=b j n;show(!m.getLsbD j)=true;unfold BitVec.getLsbD;rw[this];rfl
 grind[leastOf]
section
variable{κ σ:Type}[DecidableEq κ]{K:κ->Value}{Rr:Nat->σ->HP}{L:List HP}{xs:List (κ×σ)}{P:Program}{mt kt et:TypeId}
variable{dst:Option Nat}{ty:TypeId}{db:String}{af:Array Edge}{g:Option (Nat×Bool)}{ρ:Operand->Value}{Q:Value->World->Prop}{PQ:Y5}{m x y:Operand}
theorem A4.ZA{k:κ}{p:Nat}(T:V9 P mt kt et jk K)(h:Hp c w (mh K Rr b xs k p::L))(q:ρ m= .map (some b))(o:ρ x=K k)(n:ρ y=Pt p)
 (l:∀w',Hp c w' (mh K Rr b xs k p::L)->Q undef w'):A4 P ⟨dst,.mapUpdate mt m x y,ty,db,af,g⟩ ρ w Q PQ:=by
 obtain⟨d,a,e,rfl,i,r⟩:=h.jr;refine A4.Eb T r 0 O k p q o n O λw' j=>l w' ?_;rw[es (Ol.2 i)]at j;exact Hp.R8 (f:=λ(z:List (κ×Nat×σ)×σ×List (κ×Nat×σ))=>C5 [d6 (ks z.1++(k,z.2.1)::ks z.2.2=ks d++(k,e)::ks a∧K0 (ks z.1) k=none),mo K Pt b (kp z.1++(k,p)::kp z.2.2),ea Rr (ps z.1++ps z.2.2)]) (d,e,a) (Hp.C3 (A:=[d6 _,mo K Pt b (kp d++(k,p)::kp a),ea Rr (ps d++ps a)]) (Hp.T' ⟨rfl,i⟩ j))
end
section
theorem YY{m:BitVec 16}(h:Hp c w R)(f:ng c)(b:¬m=0#16):Cr 226 #[gb m] w c (I (leastOf m)) R:=by
 have g:¬W m=0#64:=by intro e;refine b (Sh ?_);have a:=V4 BitVec.toNat e;unfold W at a;rw[CC]at a;have:=m.isLt;simp at a⊢;omega
 have d:=λ(w:World)(R:List HP)(h:Hp c w R)=>HR h f g;rw[SO m b]at d;exact R2 func226 O (WR.W (N1 (d _ _ h) λw h=>⟨rfl,h⟩))
theorem ahu{kb:Nat}(h:Hp c w (bk b [Pt kb,v1,.map (some m)] 321::K1 kb k::mr I M5 m B0::R))(q:F8 k.D0.A0 k.D0.F0 k.D0.L0):Cr 174 #[Pt b,I tx,I C0] w c (I (CW.Xa ⟨⟨l,B0⟩,k,x⟩ tx C0).1) (bk b [Pt kb,v1,.map (some m)] 321::K1 kb k::mr I M5 m (CW.Xa ⟨⟨l,B0⟩,k,x⟩ tx C0).2.O1.B0::R):=by
 cases i:K0 B0 tx with
 |none=>
  have d:CW.Xa ⟨⟨l,B0⟩,k,x⟩ tx C0=(12,⟨⟨l,B0⟩,k,x⟩):=by unfold CW.Xa;simp only[i]
  rw[d];exact R2 func174 O (U0 h 0 O O (RD.tn eb h 2 O _ Zb9 (Q5 ⟨rfl,h⟩)))
 |some r=>
  have f:=λ(p:Nat)(v1 o:Value)(w:World)(R:List HP)(h:Hp c w (bk b [Pt kb,v1,o] 321::K1 kb k::M5 p r::R))=>gG h q;obtain⟨j,a⟩:∃j,k.D0.E5 r.I1=j:=⟨_,rfl⟩;rw[a]at f;by_cases n:¬r.N2=0∨C0>=j
  ·have d:CW.Xa ⟨⟨l,B0⟩,k,x⟩ tx C0=(19,⟨⟨l,B0⟩,k,x⟩):=by unfold CW.Xa;simp only[i,a];rw[S1 n]
   rw[d];refine R2 func174 O (U0 h 0 O O (RD.Ed eb h 2 O _ Zb9 λe h=>m5 (wg h.w5 λt u h=>U0 h 0 O O (BR.ne (λs=>?_) λs=>?_))))
   ·refine Q5 ?_;subst a;replace h:Hp _ _ (M5 _ (r)::_):=Hp.E3 h;replace h:=Hp.F6 Zb9 h;exact⟨rfl,h.g [1,2] O⟩
   ·replace h:Hp _ _ (M5 e r::_):=Hp.E3 h;refine N1 (f _ _ _ _ _ (h.g [2,3] O)) λw h=>Zt ?_;subst a;replace h:=Hp.F6 Zb9 (h.g [2,3] O);exact⟨rfl,h.g [1,2] O⟩
  ·have d:CW.Xa ⟨⟨l,B0⟩,k,x⟩ tx C0=(0,⟨⟨l,R1 B0 tx {r with Qc:=true}⟩,k,x⟩):=by unfold CW.Xa;simp only[i,a];rw[V0 n]
   rw[d];refine R2 func174 O (U0 h 0 O O (RD.Ed eb h 2 O _ Zb9 λe h=>m5 (wg h.w5 λt u h=>U0 h 0 O O (Mj ?_))));replace h:Hp _ _ (M5 e r::_):=Hp.E3 h;refine N1 (f _ _ _ _ _ (h.g [2,3] O)) λw h=>Te (wg ((h.g [2] O).w5) λy v h=>J3 h 0 O O O λw h=>?_);subst a;replace h:=Hp.E3 h;replace h:=(h.g [0,3] O).V';exact⟨rfl,h.g [1,2] O⟩
theorem aht{kb:Nat}(h:Hp c w (bk b [Pt kb,v1,.map (some m)] 321::K1 kb k::mr I M5 m B0::R))(f:ng c)(e:∀tx r,K0 B0 tx=some r->¬r.J0=0#16):Cr 175 #[Pt b,I tx,I C0] w c (.tuple #[I (CW.T9 ⟨⟨l,B0⟩,k,x⟩ tx C0).1,I (CW.T9 ⟨⟨l,B0⟩,k,x⟩ tx C0).2]) (bk b [Pt kb,v1,.map (some m)] 321::K1 kb k::mr I M5 m B0::R):=by
 cases a:K0 B0 tx with
 |none=>
  have d:CW.T9 ⟨⟨l,B0⟩,k,x⟩ tx C0=(0,12):=by unfold CW.T9;simp only[a]
  rw[d];exact R2 func175 O (U0 h 0 O O (RD.tn eb h 2 O _ Zb9 (Q5 ⟨rfl,h⟩)))
 |some r=>
  have d:CW.T9 ⟨⟨l,B0⟩,k,x⟩ tx C0=k.R4.o9 tx (leastOf r.J0) C0:=by unfold CW.T9;simp only[a]
  have i:=λ(w:World)(R:List HP)(h:Hp c w R)=>YY h f (e tx r a);rw[d];refine R2 func175 O (U0 h 0 O O (RD.Ed eb h 2 O _ Zb9 λj h=>m5 (wg h.w5 λn s h=>Y6 h [0,1,2,5,6,7,8,11,3,9,54,110,112,13,14,15,16] λh=>U3 3 O O (U3 0 O O (pg ((h.g [4] O).d5) λt o q p h=>N1 (Mp h) λw h=>⟨by replace h:Hp _ _ (K1 _ (k)::_):=Hp.F3 (h);exact h.g [1,2,3,4] O,N1 (i _ _ h) λw h=>?_⟩)))));refine N1 (yj (h.g [1] O)) λw h=>?_;replace h:Hp _ _ (K1 _ (k)::_):=Hp.F3 (h.g [1] O);replace h:Hp _ _ (M5 _ (r)::_):=Hp.E3 (h.g [1,2] O);replace h:=Hp.F6 Zb9 (h.g [0,2] O);exact⟨rfl,h.g [2,1] O⟩
end
theorem pC{P:Prop}(h:P:=by refine R2 func318 O ⟨km ⟨⟨km ⟨⟨⟨km ⟨⟨?_⟩⟩⟩⟩⟩⟩⟩⟩;exact⟨km ⟨⟨⟨⟨⟨km ⟨⟨⟨⟨rfl,h⟩⟩⟩⟩⟩⟩⟩⟩⟩⟩):P:=h
section
theorem agF{n:Int}(h:Hp c w R)(b:1<=n∧n<=6):Cr 318 #[.int .u64 1,.int .u64 n] w c (.tuple #[.int .u64 0,.int .u64 n]) R:=by
 have a:n=1∨n=2∨n=3∨n=4∨n=5∨n=6:=m4
 rcases a with rfl|rfl|rfl|rfl|rfl|rfl
 ·exact pC
 ·exact pC
 ·exact pC
 ·exact pC
 ·exact pC
 ·exact pC
end
def Uq(N j:Nat)(post:List Value):List Value:=List.replicate j (I (-1))++(List.replicate (N-j) (I 0)++post)
theorem Eu{N j:Nat}{post:List Value}(h:j+m<=N):m8 (Uq N j post) j (List.replicate m (I (-1)))=Uq N (j+m) post:=by
 unfold Uq;rw[vb _ _ _ Zb5];have b:(List.replicate j (I (-1):Value)++(List.replicate (N-j) (I 0)++post)).take j=List.replicate j (I (-1)):=by rw[vz Zb3]
 have a:(List.replicate j (I (-1):Value)++(List.replicate (N-j) (I 0)++post)).drop (j+(List.replicate m (I (-1):Value)).length)=List.replicate (N-(j+m)) (I 0)++post:=by rw[nz,List.drop_append,nz];rw[Dz Zb3,Bp];rw[show j+m-j=m by omega];rw[vL Zb5,List.drop_replicate];rw[show N-j-m=N-(j+m) by omega]
 simp_all
theorem JB(N:Nat)(v:Int):O5.P3 (List.replicate N v)=List.replicate N (I v):=by
 induction N with
 |zero=>rfl
 |succ N a=>rw[Bz,Qb.Dc,a,Bz];rfl
section
theorem agQ{n:Int}(h:Hp c w R)(a:1<=n∧n<=6):Cr 271 #[.int .u64 1,.int .u64 n] w c (.tuple #[.int .u64 0,.int .u64 n]) R:=by exact R2 func271 O (m5 (N1 (agF h a) λw h=>⟨rfl,h⟩))
theorem ahi{a N:Nat}(h:Hp c w (bk a [I (-1)] 3::R))(F:1<=N∧N<=6):Cs 213 #[.slice (some ⟨a,0,none⟩) 1 1,I N] w (λe w'=>∃f,e= .returned (.slice f N N)∧Hp c w' (so 3 O5 f N (List.replicate N (-1))::bk a [I (-1)] 3::R)):=by
 have r:=λ(w:World)(R:List HP)(h:Hp c w R)=>agQ (n:=(N:Int)) h m4;have g:IntKind.u64.wrap (N:Int)=N:=by
  have p:N=1∨N=2∨N=3∨N=4∨N=5∨N=6:=m4
  rcases p with rfl|rfl|rfl|rfl|rfl|rfl<;>decide
 refine R2 func213 O (Te (WR.vp O (WR.vp g (N1 (r _ _ h) λw h=>m5 (Te (i5 (A4.mks (E:=O5) (e:=3) (0:Int) (Ca.of (w9:=8) kn O O O O O O) O h O O m4 m4 Zb4 λb1 w h=>?_)))))));have C:List.replicate (N:Int).toNat (0:Int)≠[]:=by intro e;have:=V4 List.length e;simp at this;omega
 obtain⟨b2,pre,post,d,⟨f1,f2,t⟩,h⟩:=h.LR C;injection d with d
 injection d with z y;subst z;have A:pre=[]:=Dp y.symm;subst A;have x:([]++O5.P3 (List.replicate (N:Int).toNat 0)++post)=Uq N 0 post:=by rw[JB];simp[Uq]
 rw[x]at h;refine A4.copy (sz:=1) (n:=1) (Ca.of (w9:=8) kn O O O O O O) O O (h.tq (i:=1) (o:=0) (n:=1) (l2:=[I (-1)]) O Zb4 O) (Ue m4) (ST.ll h 0 O O O (by simp[Uq];omega) (Eu (j:=0) (m:=1) m4) O λw h=>p5.A6 kn [7,8] (λm vs w'=>∃j:Nat,vs=[.slice (some ⟨b1,0,none⟩) N N,I j]∧(1<=j∧j<=N∧j+m=N)∧Hp c w' (bk b1 (Uq N j post) 3::bk a [I (-1)] 3::R)) (N-1) ⟨1,rfl,m4,h⟩ ?_);rintro m _ w1 H ⟨j,rfl,G,h⟩;refine BR.T5 (λs=>?_) λs=>?_
 ·refine sv [0,1,2,3,4,5,6,107,8,9] ?_;replace h:=h.drew;refine RD.LH kn O O (l:=j) (m:=N) O O m4 m4 (RD.Vh kn O O O (m:=j) O m4 ?_);obtain⟨q,k⟩:∃q,min j (N-j)=q:=⟨_,rfl⟩;have hq1:1<=q∧j+q<=N∧q<=j:=m4
  refine A4.copy (sz:=1) (n:=q) (Ca.of (w9:=8) kn O O O O O O) O O (h.tq (i:=0) (o:=0) (n:=j) (l2:=List.replicate j (I (-1))) O (by simp[Uq]) (by simp[Uq])) k ?_;have b:(Value.agg ((List.replicate j (I (-1):Value)).take (q*1)).toArray).cells.toList=List.replicate q (I (-1)):=by show(List.replicate j (I (-1):Value)).take (q*1)=_;rw[List.take_replicate];congr 1;omega
  exact ST.ll (l':=Uq N (j+q) post) h 0 O (by rw[b];simp) (by rw[b];simp[Value.oneCell']) (by show 0+j*1+q*1<=(Uq N j post).length;simp[Uq];omega) (by rw[b];show m8 _ (0+j*1) _=_;rw[au,rz];grind[Eu]) O λw h=>i5 ⟨N-(j+q),m4,j+q,rfl,m4,h⟩
 ·have v:j=N:=m4
  subst v;have u:Uq j j post=[]++O5.P3 (List.replicate j (-1))++post:=by rw[JB];simp[Uq]
  rw[u]at h;have D:(List.replicate (j:Int).toNat (0:Int)).length=(List.replicate j (-1:Int)).length:=Zb3
  rw[D]at f1 f2;exact⟨_,rfl,h.uJ f1 f2 t⟩
end
theorem BN{P Q:Prop}(q:Q)(f:Q->P:=by intro q;exact R2 func170 O (U0 h 0 O O (RD.tn eb h 2 O _ Zb9 (Q5 (He (jZ h np) λpn w h=>wg h.w5 λP4 D3 h=>J3 h 0 O O O λw h=>J3 h 0 O O O λw h=>U0 h 2 O O (pg ((h.g [3] O).d5) λC7 E7 D5 D7 h=>N1 (Mp h) λw h=>N1 (AR (h.g [6,0,4] O) m4 m4) λw h=>q pn P4 D3 C7 E7 D5 D7 w h)))))):P:=f q
theorem AN{P Q:Prop}(q:Q)(f:Q->P:=by intro q;exact R2 func170 O (U0 h 0 O O (RD.Ed eb h 2 O _ Zb9 λp1 h=>m5 (wg h.w5 λP4 D3 h=>J3 h 0 O O O λw h=>J3 h 0 O O O λw h=>U0 h 3 O O (pg ((h.g [4] O).d5) λC7 E7 D5 D7 h=>N1 (Mp h) λw h=>N1 (AR (h.g [7,0,4] O) m4 m4) λw h=>N1 (JF (h.g [3] O)) λw h=>q p1 P4 D3 C7 E7 D5 D7 w h))))):P:=f q
theorem rv{P:Prop}(h:P:=by refine J3 h 4 O O O λw h=>?_;replace h:=Hp.F3 (h.g [3,0,5,6] O);replace h:=Hp.E3 (h.g [3,4] O);replace h:=(h.g [0,2] O).V';refine⟨rfl,Hp.subst (h.g [2,1] O) ?_⟩;first|(rw[qe];done)|(rw[qe];rfl)|rfl|(have e9:r0.G'=true:=g1;rw[e9];rfl)|(have e9:r0.G'=false:=g1;rw[e9];rfl)|(have e9:r0.G'=true:=g2;rw[e9];rfl)|(have e9:r0.G'=false:=g2;rw[e9];rfl)|(have e9:r0.G'=true:=g3;rw[e9];rfl)|(have e9:r0.G'=false:=g3;rw[e9];rfl)):P:=h
theorem oC{P:Prop}(h:P:=by subst RW;replace h:=Hp.F3 (h.g [3,0,5,6] O);replace h:=Hp.E3 (h.g [3,4] O);replace h:=(h.g [0,2] O).V';refine⟨rfl,Hp.subst (h.g [2,1] O) ?_⟩;simp[qe]):P:=h
theorem abs{P:Prop}(h:P:=by replace h:=Hp.F3 (h.g [3,0,5,6] O);replace h:=Hp.E3 (h.g [3,4] O);replace h:=(h.g [0,2] O).V';exact⟨rfl,h.g [2,1] O⟩):P:=h
section
theorem jZ{kb:Nat}{a:Value}{J0:BitVec 16}{bg:Int}(h:Hp c w (bk b [Pt kb,v1,a] 321::K1 kb k::R))(l:1<=k.D0.A0∧k.D0.A0<=6):Cs 165 #[Pt b,gb J0,I bg] w (λe w'=>∃p,e= .returned (Pt p)∧Hp c w' (M5 p (T4.new k.D0.A0 J0 bg)::bk b [Pt kb,v1,a] 321::K1 kb k::R)):=by
 obtain⟨N,d⟩:∃N:Nat,k.D0.A0=(N:Int):=⟨k.D0.A0.toNat,m4⟩;have hRp:=λ(j:Nat)(w:World)(R:List HP)(h:Hp c w (bk j [I (-1)] 3::R))=>ahi (N:=N) h m4;rw[<-d]at hRp;have i:T4.new k.D0.A0 J0 bg=⟨J0,0#16,0#16,0#16,bg,0,List.replicate N (-1),false,false⟩:=by unfold T4.new;rw[d];rfl
 rw[i];refine R2 func165 O (I2 h O λb1 w h=>U0 h 1 O O (pg ((h.g [2] O).d5) λr m o n h=>N1 (Qz h) λw h=>He (hRp _ _ _ (h.g [4] O)) λa1 w h=>I2 h O λb2 w h=>?_));have hl9:(List.replicate N (-1:Int)).length=N:=nz;have f:∀w',Hp c w' (bk b2 [gb J0,gb 0#16,gb 0#16,gb 0#16,I bg,I 0,.slice a1 N N,.bool false,.bool false] 325::so 3 O5 a1 N (List.replicate N (-1))::bk b [Pt kb,v1,a] 321::K1 kb k::R)->Hp c w' (bk b2 [gb J0,gb 0#16,gb 0#16,gb 0#16,I bg,I 0,.slice a1 (List.replicate N (-1:Int)).length N,.bool false,.bool false] 325::so 3 O5 a1 N (List.replicate N (-1))::bk b [Pt kb,v1,a] 321::K1 kb k::R):=by intro w' h;rw[hl9];exact h
 replace h:=Hp.F3 (h.q 8 [3,4,5,6,0,1,7] O);exact⟨b2,rfl,Hp.E3 (f _ (h.g [1,2,3] O))⟩
theorem ahx{kb:Nat}{bg:Int}{J0:BitVec 16}(h:Hp c w (bk b [Pt kb,v1,.map (some m)] 321::K1 kb k::mr I M5 m B0::R))(n:ng c)(j:¬J0=0#16)(i:F8 k.D0.A0 k.D0.F0 k.D0.L0):Cr 170 #[Pt b,I tx,gb J0,I bg] w c (I (CW.V2 ⟨⟨l,B0⟩,k,x⟩ tx J0 bg).1) (bk b [Pt kb,v1,.map (some m)] 321::K1 kb (CW.V2 ⟨⟨l,B0⟩,k,x⟩ tx J0 bg).2.O0::mr I M5 m (CW.V2 ⟨⟨l,B0⟩,k,x⟩ tx J0 bg).2.O1.B0::R):=by
 have d:=λ(w:World)(R:List HP)(h:Hp c w R)=>YY h n j;obtain⟨np,o,s,p⟩:=i;cases e:K0 B0 tx with
 |none=>
  obtain⟨r0,RW⟩:∃r0,T4.new k.D0.A0 J0 bg=r0:=⟨_,rfl⟩;have r:r0.J0=J0∧r0.I1=bg∧r0.G'=false:=by rw[<-RW];exact⟨rfl,rfl,rfl⟩
  by_cases a1:¬(k.R4.U6 tx J0 (k.D0.E5 bg)).1=0∧¬(k.R4.U6 tx J0 (k.D0.E5 bg)).1=13
  ·have a:CW.V2 ⟨⟨l,B0⟩,k,x⟩ tx J0 bg=((k.R4.U6 tx J0 (k.D0.E5 bg)).1,⟨⟨l,B0⟩,{k with R4:=(k.R4.U6 tx J0 (k.D0.E5 bg)).2},x⟩):=by
    unfold CW.V2;simp only[e,Option.isSome_none,Option.getD_none,RW];rw[S1 a1];rfl
   rw[a];refine BN λpn P4 D3 C7 E7 D5 D7 w h=>?_;refine N1 (JF (h.g [3] O)) λw h=>xq (xq ?_);subst RW;replace h:=Hp.F3 (h.g [2,0,4,5] O);exact⟨rfl,h.q 5 [1,0,4] O⟩
  ·by_cases a2:((k.R4.U6 tx J0 (k.D0.E5 bg)).2.o9 tx (leastOf J0) 2199023255552).2=0
   ·by_cases a3:((k.R4.U6 tx J0 (k.D0.E5 bg)).2.o9 tx (leastOf J0) 2199023255552).1=1
    ·have a:CW.V2 ⟨⟨l,B0⟩,k,x⟩ tx J0 bg=(0,⟨⟨l,R1 B0 tx ({r0 with J0:=J0,I1:=bg,N2:=2,ka:=J0,G':=true}:T4)⟩,{k with R4:=(k.R4.U6 tx J0 (k.D0.E5 bg)).2},x⟩):=by
      unfold CW.V2;simp only[e,Option.isSome_none,Option.getD_none,RW];rw[V0 a1,V0 (λk=>k a2),S1 a3];simp
     rw[a];refine BN λpn P4 D3 C7 E7 D5 D7 w h=>?_;refine N1 (JF (h.g [3] O)) λw h=>BR.ne (λg1=>?_) λg1=>?_
     ·refine Mj (U0 h 1 O O (A4.Wq ({T4.new k.D0.A0 J0 bg with J0:=J0,I1:=bg}:T4) eb (h.g [7] O) tx Zb9 O O O λw h=>N1 (d _ _ h) λw h=>N1 (yj (h.g [1] O)) λw h=>Mj (mf (J3 h 4 O O O λw h=>J3 h 4 O O O λw h=>U0 h 4 O O (m5 (J3 h 4 O O O λw h=>?_))))));exact oC
     ·refine m5 (U0 h 1 O O (A4.Wq ({T4.new k.D0.A0 J0 bg with J0:=J0,I1:=bg}:T4) eb (h.g [7] O) tx Zb9 O O O λw h=>N1 (d _ _ h) λw h=>N1 (yj (h.g [1] O)) λw h=>Mj (mf (J3 h 4 O O O λw h=>J3 h 4 O O O λw h=>U0 h 4 O O (m5 (J3 h 4 O O O λw h=>?_))))));exact oC
    ·have a:CW.V2 ⟨⟨l,B0⟩,k,x⟩ tx J0 bg=(0,⟨⟨l,R1 B0 tx ({r0 with J0:=J0,I1:=bg,N2:=1,G':=true}:T4)⟩,{k with R4:=(k.R4.U6 tx J0 (k.D0.E5 bg)).2},x⟩):=by
      unfold CW.V2;simp only[e,Option.isSome_none,Option.getD_none,RW];rw[V0 a1,V0 (λk=>k a2),V0 a3];simp
     rw[a];refine BN λpn P4 D3 C7 E7 D5 D7 w h=>?_;refine N1 (JF (h.g [3] O)) λw h=>BR.ne (λg1=>?_) λg1=>?_
     ·refine Mj (U0 h 1 O O (A4.Wq ({T4.new k.D0.A0 J0 bg with J0:=J0,I1:=bg}:T4) eb (h.g [7] O) tx Zb9 O O O λw h=>N1 (d _ _ h) λw h=>N1 (yj (h.g [1] O)) λw h=>Mj (Wa (J3 h 4 O O O λw h=>U0 h 4 O O (m5 (J3 h 4 O O O λw h=>?_))))));exact oC
     ·refine m5 (U0 h 1 O O (A4.Wq ({T4.new k.D0.A0 J0 bg with J0:=J0,I1:=bg}:T4) eb (h.g [7] O) tx Zb9 O O O λw h=>N1 (d _ _ h) λw h=>N1 (yj (h.g [1] O)) λw h=>Mj (Wa (J3 h 4 O O O λw h=>U0 h 4 O O (m5 (J3 h 4 O O O λw h=>?_))))));exact oC
   ·have a:CW.V2 ⟨⟨l,B0⟩,k,x⟩ tx J0 bg=(0,⟨⟨l,R1 B0 tx ({r0 with J0:=J0,I1:=bg}:T4)⟩,{k with R4:=(k.R4.U6 tx J0 (k.D0.E5 bg)).2},x⟩):=by
     unfold CW.V2;simp only[e,Option.isSome_none,Option.getD_none,RW];rw[V0 a1,S1 a2]
    rw[a];refine BN λpn P4 D3 C7 E7 D5 D7 w h=>?_;refine N1 (JF (h.g [3] O)) λw h=>BR.ne (λg1=>?_) λg1=>?_
    ·refine Mj (U0 h 1 O O (A4.Wq ({T4.new k.D0.A0 J0 bg with J0:=J0,I1:=bg}:T4) eb (h.g [7] O) tx Zb9 O O O λw h=>N1 (d _ _ h) λw h=>N1 (yj (h.g [1] O)) λw h=>xq ?_));exact oC
    ·refine m5 (U0 h 1 O O (A4.Wq ({T4.new k.D0.A0 J0 bg with J0:=J0,I1:=bg}:T4) eb (h.g [7] O) tx Zb9 O O O λw h=>N1 (d _ _ h) λw h=>N1 (yj (h.g [1] O)) λw h=>xq ?_));exact oC
 |some r0=>
  by_cases a1:¬(k.R4.U6 tx J0 (k.D0.E5 bg)).1=0∧¬(k.R4.U6 tx J0 (k.D0.E5 bg)).1=13
  ·have a:CW.V2 ⟨⟨l,B0⟩,k,x⟩ tx J0 bg=((k.R4.U6 tx J0 (k.D0.E5 bg)).1,⟨⟨l,R1 B0 tx ({r0 with J0:=J0,I1:=bg}:T4)⟩,{k with R4:=(k.R4.U6 tx J0 (k.D0.E5 bg)).2},x⟩):=by
    unfold CW.V2;simp only[e,Option.isSome_some,Option.getD_some];rw[S1 a1];rfl
   rw[a];refine AN λp1 P4 D3 C7 E7 D5 D7 w h=>?_;refine xq (xq ?_);replace h:=Hp.F3 (h.g [2,0,4,5] O);replace h:=Hp.E3 (h.g [2,3] O);replace h:=(h.g [0,3] O).V';exact⟨rfl,h.g [2,1] O⟩
  ·by_cases a2:((k.R4.U6 tx J0 (k.D0.E5 bg)).2.o9 tx (leastOf J0) 2199023255552).2=0
   ·by_cases a3:((k.R4.U6 tx J0 (k.D0.E5 bg)).2.o9 tx (leastOf J0) 2199023255552).1=1
    ·have a:CW.V2 ⟨⟨l,B0⟩,k,x⟩ tx J0 bg=(0,⟨⟨l,R1 B0 tx ({r0 with J0:=J0,I1:=bg,N2:=2,ka:=J0}:T4)⟩,{k with R4:=(k.R4.U6 tx J0 (k.D0.E5 bg)).2},x⟩):=by
      unfold CW.V2;simp only[e,Option.isSome_some,Option.getD_some];rw[V0 a1,V0 (λk=>k a2),S1 a3];simp
     rw[a];refine AN λp1 P4 D3 C7 E7 D5 D7 w h=>?_;refine BR.ne (λg1=>?_) λg1=>?_
     ·refine Mj (U0 h 1 O O (A4.ZA eb (h.g [7] O) O O O λw h=>N1 (d _ _ h) λw h=>N1 (yj (h.g [1] O)) λw h=>Mj (mf (J3 h 4 O O O λw h=>J3 h 4 O O O λw h=>U0 h 4 O O (BR.O' (λg2=>?_) λg2=>?_)))))
      ·exact rv
      ·exact rv
     ·refine m5 (U0 h 1 O O (A4.ZA eb (h.g [7] O) O O O λw h=>N1 (d _ _ h) λw h=>N1 (yj (h.g [1] O)) λw h=>Mj (mf (J3 h 4 O O O λw h=>J3 h 4 O O O λw h=>U0 h 4 O O (BR.O' (λg2=>?_) λg2=>?_)))))
      ·exact rv
      ·exact rv
    ·have a:CW.V2 ⟨⟨l,B0⟩,k,x⟩ tx J0 bg=(0,⟨⟨l,R1 B0 tx ({r0 with J0:=J0,I1:=bg,N2:=1}:T4)⟩,{k with R4:=(k.R4.U6 tx J0 (k.D0.E5 bg)).2},x⟩):=by
      unfold CW.V2;simp only[e,Option.isSome_some,Option.getD_some];rw[V0 a1,V0 (λk=>k a2),V0 a3];simp
     rw[a];refine AN λp1 P4 D3 C7 E7 D5 D7 w h=>?_;refine BR.ne (λg1=>?_) λg1=>?_
     ·refine Mj (U0 h 1 O O (A4.ZA eb (h.g [7] O) O O O λw h=>N1 (d _ _ h) λw h=>N1 (yj (h.g [1] O)) λw h=>Mj (Wa (J3 h 4 O O O λw h=>U0 h 4 O O (BR.O' (λg2=>?_) λg2=>?_)))))
      ·exact rv
      ·exact rv
     ·refine m5 (U0 h 1 O O (A4.ZA eb (h.g [7] O) O O O λw h=>N1 (d _ _ h) λw h=>N1 (yj (h.g [1] O)) λw h=>Mj (Wa (J3 h 4 O O O λw h=>U0 h 4 O O (BR.O' (λg2=>?_) λg2=>?_)))))
      ·exact rv
      ·exact rv
   ·have a:CW.V2 ⟨⟨l,B0⟩,k,x⟩ tx J0 bg=(0,⟨⟨l,R1 B0 tx ({r0 with J0:=J0,I1:=bg}:T4)⟩,{k with R4:=(k.R4.U6 tx J0 (k.D0.E5 bg)).2},x⟩):=by
     unfold CW.V2;simp only[e,Option.isSome_some,Option.getD_some];rw[V0 a1,S1 a2]
    rw[a];refine AN λp1 P4 D3 C7 E7 D5 D7 w h=>?_;refine BR.ne (λg1=>?_) λg1=>?_
    ·refine Mj (U0 h 1 O O (A4.ZA eb (h.g [7] O) O O O λw h=>N1 (d _ _ h) λw h=>N1 (yj (h.g [1] O)) λw h=>xq ?_));exact abs
    ·refine m5 (U0 h 1 O O (A4.ZA eb (h.g [7] O) O O O λw h=>N1 (d _ _ h) λw h=>N1 (yj (h.g [1] O)) λw h=>xq ?_));exact abs
end
theorem vC{P Q:Prop}(q:Q)(f:Q->P:=by intro q;exact R2 func405 O (I2 h O λb1 w h=>Y6 h [0,1,2,3,4,55,56,107,8,9,110] λh=>U3 1 O O (O4 h 0 O O ⟨h,I2 h O λb2 w h=>⟨h.q 9 [1,2,3,4,5,6,7,8] O,A4.Yb (u:=⟨_,_,_,_⟩) (Ca.of (w9:=32) kn O O O O O O) h 8 O O 0 O O O m4 (λ_ _=>rfl) λa1 V1 w h=>J3 h 2 O O O λw h=>sv [0,1,2,4,3,5,6,7,8,9,10,11] (q b1 b2 a1 V1 w h)⟩⟩))):P:=f q
theorem YU{P Q:Prop}(q:Q)(f:Q->P:=by intro q;exact U0 h 2 O O (U0 h 1 O O (RD.Ed wm h 7 O _ Zb9 λp1 h=>m5 (U0 h 3 O O (Wa (mf (Y6 h [0,1,2,4,3,55,106,7] λh=>U3 4 O O (U0 h 3 O O ⟨h,N1 (bp (h.g [7] O)) λw h=>q p1 w h⟩)))))))):P:=f q
section
variable{B6:Option Addr}{cs:Nat}
set_option maxHeartbeats 1000000 in
theorem agb{d kp pl pk:Nat}{me:Int}{s:E1}{B0:List (Int×E6)}{seen:List P9}{y:P9}(h:Hp c w (bk b [Pt kp,I me,Pt pl,Pt pk,.map (some m),.slice B6 seen.length cs] 162::J5 d pl l::M1 d x::T2 pk s::K1 kp k::mr I r5 m B0::so 55 j8 B6 cs seen::R))(p:PX n mm ⟨⟨me,l,s,B0⟩,k,x⟩)(H:n<=20000000)(T:seen.length<=100000000):Cs 405 #[Pt b,y.v,I C0] w (λe w'=>∃as' cs',e= .returned (I (PW.take ⟨⟨me,l,s,B0⟩,k,x⟩ y C0).1)∧Hp c w' (bk b [Pt kp,I me,Pt pl,Pt pk,.map (some m),.slice as' (seen++[y]).length cs'] 162::J5 d pl (PW.take ⟨⟨me,l,s,B0⟩,k,x⟩ y C0).2.E0.X9::M1 d (PW.take ⟨⟨me,l,s,B0⟩,k,x⟩ y C0).2.M6::T2 pk (PW.take ⟨⟨me,l,s,B0⟩,k,x⟩ y C0).2.E0.U1::K1 kp (PW.take ⟨⟨me,l,s,B0⟩,k,x⟩ y C0).2.O0::mr I r5 m (PW.take ⟨⟨me,l,s,B0⟩,k,x⟩ y C0).2.E0.B0::so 55 j8 as' cs' (seen++[y])::R)):=by
 obtain⟨S0,M,_⟩:=p.pt.ok;have N:s6 x l S0:=M.X9;have L:SS n s:=p.ss;have S:k.Ok:=p.kb.ok;cases i:K0 B0 y.tx with
 |none=>
  have a:PW.take ⟨⟨me,l,s,B0⟩,k,x⟩ y C0=(0,⟨⟨me,l,s,B0⟩,k,x⟩):=by unfold PW.take;simp only[i]
  rw[a];refine vC λb1 b2 a1 V1 w h=>?_;replace h:=h.drew;exact U0 h 2 O O (U0 h 1 O O (RD.tn wm h 7 O _ Zb9 (Q5 ⟨_,_,rfl,h.q 9 [2,3,4,5,6,7,8] O⟩)))
 |some r=>
  by_cases o:y.W0=5
  ·have a:PW.take ⟨⟨me,l,s,B0⟩,k,x⟩ y C0=(0,⟨⟨me,l,s,R1 B0 y.tx {r with Dn:=r.z7}⟩,k,x⟩):=by unfold PW.take;simp only[i];rw[S1 o]
   rw[a];refine vC λb1 b2 a1 V1 w h=>?_;replace h:=h.drew;refine U0 h 2 O O (U0 h 1 O O (RD.Ed wm h 7 O _ Zb9 λp1 h=>m5 (U0 h 3 O O (mf ?_))));replace h:=h.L7;refine U0 h 0 O O (J3 h 0 O O O λw h=>?_);replace h:=Hp.Z5 h;replace h:=h.V';exact⟨_,_,rfl,h.q 9 [3,4,5,6,7,0,8] O⟩
  ·by_cases t:y.W0=4
   ·obtain⟨st,C⟩:∃st,s.N9 y.tx=st:=⟨_,rfl⟩;have J:=λ(w:World)(R:List HP)(h:Hp c w (T2 pk s::R))=>bp (tx:=y.tx) h;rw[C]at J;by_cases K:st=3
    ·subst K;obtain⟨D,j⟩:∃D,fe s l x y.tx r (Decidable.decide (y.H8=1))=D:=⟨_,rfl⟩;have hDD:=λ(G:Nat)(w:World)(R:List HP)(F E:Value)(h:Hp c w (bk b [Pt kp,I me,Pt pl,Pt pk,F,E] 162::r5 G r::J5 d pl l::M1 d x::T2 pk s::R))=>fR (tx:=y.tx) (s9:=Decidable.decide (y.H8=1)) h N L H;have a:PW.take ⟨⟨me,l,s,B0⟩,k,x⟩ y C0=if¬D.1=0 then(D.1,⟨⟨me,D.2.2.1,D.2.2.2.2,R1 B0 y.tx D.2.1⟩,k,D.2.2.2.1⟩)else(0,⟨⟨me,D.2.2.1,D.2.2.2.2,R1 B0 y.tx D.2.1⟩,(k.Z6 me k.D0.A0 ⟨3,me,y.tx,0⟩ C0).2,D.2.2.2.1⟩):=by unfold PW.take;simp only[i];rw[V0 o,S1 t,S1 C];simp only[AH i,j];rfl
     rw[j]at hDD;rw[a];by_cases A:D.1=0
     ·rw[V0 (show¬¬D.1=0 from λk=>k A)];refine vC λb1 b2 a1 V1 w h=>?_;replace h:=h.drew;refine YU λp1 w h=>?_;refine mf (U0 h 4 O O (U0 h 4 O O (N1 (fR (h.g [5,1,6,7] O) Zb9 Zb9 Zb9) λw h=>BR.ne (λz=>?_) λz=>?_)))
      ·grind[]
      ·refine U0 h 7 O O (N1 (xu (h.g [0,8] O) Zb9) λw h=>?_);subst j;replace h:=Hp.V' (h.g [2,6] O);exact⟨_,_,rfl,h.q 9 [1,3,4,5,2,0,8] O⟩
     ·rw[S1 A];refine vC λb1 b2 a1 V1 w h=>?_;replace h:=h.drew;refine YU λp1 w h=>?_;refine mf (U0 h 4 O O (U0 h 4 O O (N1 (fR (h.g [5,1,6,7] O) Zb9 Zb9 Zb9) λw h=>BR.ne (λz=>?_) λz=>?_)))
      ·subst j;replace h:=Hp.V' (h.g [1,5] O);exact⟨_,_,rfl,h.q 9 [1,2,3,4,7,0,8] O⟩
      ·refine U0 h 7 O O (N1 (xu (h.g [0,8] O) Zb9) λw h=>?_);grind[]
    ·have a:PW.take ⟨⟨me,l,s,B0⟩,k,x⟩ y C0=(0,⟨⟨me,l,s,B0⟩,(k.Z6 me k.D0.A0 ⟨3,me,y.tx,0⟩ C0).2,x⟩):=by
      unfold PW.take;simp only[i];rw[V0 o,S1 t,V0 m4];rfl
     rw[a];refine vC λb1 b2 a1 V1 w h=>?_;replace h:=h.drew;refine YU λp1 w h=>?_;refine Wa (U0 h 4 O O (N1 (xu (h.g [5,8] O) Zb9) λw h=>?_));replace h:=Hp.F6 Zb9 (h.g [3,4] O);exact⟨_,_,rfl,h.q 9 [1,6,7,3,2,0,8] O⟩
   ·have a:PW.take ⟨⟨me,l,s,B0⟩,k,x⟩ y C0=(0,⟨⟨me,l,s,B0⟩,k,x⟩):=by unfold PW.take;simp only[i];rw[V0 o,V0 t]
    rw[a];refine vC λb1 b2 a1 V1 w h=>?_;replace h:=h.drew;refine U0 h 2 O O (U0 h 1 O O (RD.Ed wm h 7 O _ Zb9 λp1 h=>m5 (U0 h 3 O O (Wa (Wa ?_)))));replace h:=Hp.F6 Zb9 h;exact⟨_,_,rfl,h.q 9 [3,4,5,6,7,0,8] O⟩
end
end Go.Proofs.YtaaihojmcfaejaaGreatDoor
