/- Lemmas for the tops: the walk of the house and its laws. No condition is added. -/
import Derived.Test.YtaaihojmcfaejaaGreatDoorQbb
import Derived.Test.YtaaihojmcfaejaaGreatDoorQah
import Derived.Test.YtaaihojmcfaejaaGreatDoorQaf
import Derived.Test.YtaaihojmcfaejaaGreatDoorQay
import Derived.Test.YtaaihojmcfaejaaGreatDoorQar
import Derived.Test.YtaaihojmcfaejaaGreatDoorQaj
import Derived.Test.YtaaihojmcfaejaaGreatDoorQaz
import Derived.Test.YtaaihojmcfaejaaGreatDoorQba
import Derived.Test.YtaaihojmcfaejaaGreatDoorQag
import Derived.Test.YtaaihojmcfaejaaGreatDoorQau
set_option linter.all false
namespace Go.Proofs.YtaaihojmcfaejaaGreatDoor
open Go Go.RowKit Tryz
variable{g:HG}{h h0:I0}{R0 n tx x:Int}{L R:List HP}{N b cap i:Nat}{a:Option Addr}{p:R9}{c w:World}
theorem Inv.aed(a:Inv (G6 h) h)(ev:Ev):(h.di ev).2.D0=h.D0∧(h.di ev).2.M3=h.M3:=by
 have hs:∀{b:I0},G9 h b->b.D0=h.D0∧b.M3=h.M3:=λs=>⟨s.D0,s.M3⟩;unfold I0.di;split
 ·refine⟨?_,(a.I1 ev).2⟩;unfold I0.I1;simp only;split
  ·rfl
  ·cases h.O1<;>rfl
 split
 ·unfold I0.op<;>grind
 split
 ·simp_all[Xa]
 split
 ·unfold I0.T9<;>grind
 split
 ·exact hs a.vj.2
 split
 ·unfold I0.zb<;>grind
 split
 ·simp_all[A9]
 split
 ·simp
 split
 ·simp_all[N6]
 split
 ·simp_all[xd]
 split
 ·exact hs a.fa.2
 simp
structure HH(N:Nat)(h:I0):Prop where
 hb:HB (G6 h) N h
 rl:h.M3.length<=N
theorem HH.da(a:HH N h)(b:N<=900000)(ev:Ev)(c:M7 ev.op.n):HH (N+2) (h.da ev).2:=by refine⟨a.hb.da b ev c,?_⟩;show((h.di ev).2.M3++[_]).length<=N+2;have:=a.rl;rw[(a.hb.A6.aed ev).2,j7,Gm];omega
theorem HH.D0(a:HH N h)(ev:Ev):(h.da ev).2.D0=h.D0:=(a.hb.A6.aed ev).1
theorem HH.up{M:Nat}(a:HH N h)(b:N<=M)(hM2:M<=1000000):HH M h:=⟨HX.hb (a.hb.hx.up b) a.hb.A6 hM2,j9 a.rl b⟩
theorem adv{ev:Ev}:(h.di ev).1.tx=0∨ev.W0≠2∨0<=ev.N3:=by
 by_cases a:ev.W0=2
 ·by_cases b:0<=ev.N3
  ·omega
  ·left;unfold I0.di;rw[V0 m4,S1 a];unfold I0.op;rw[S1 m4];rfl
 omega
theorem kO{ev:Ev}(c:ev.W0=11)(a:(h.di ev).1.Ge=0):0<=ev.N3:=by
 unfold I0.di at a
 iterate 9 rw[V0 m4]at a
 rw[S1 c]at a;unfold I0.xd at a;by_cases b:h.Vg ev.N3=false
 ·rw[S1 b]at a;cases a
 simp_all[I0.Vg]
theorem qo{a:Type}(f:a->a):∀(n:Nat)(s:a),Zi f (n+1) s=f (Zi f n s)
 |0,_=>rfl
 |n+1,s=>qo f n (f s)
theorem eE(a:HH N h)(p:Int)(up:Bool):(h.p6.Ot p up).length<=16:=by
 unfold O6.Ot;cases hb:K0 h.p6.S8 ⟨p,up⟩with
 |none=>simp
 |some l=>exact(a.hb.S8 p up l hb).1
def WD(p:Int)(up:Bool):Ev:={tH with W0:=7,N3:=p,up:=up}
def carryN(p:Int)(up:Bool)(n:Nat)(h:I0):I0:=Zi (λ(h:I0)=>(h.da (WD p up)).2) n h
theorem mU(h:I0)(p:Int)(up:Bool):h.all p up=carryN p up (h.p6.Ot p up).length h:=rfl
theorem jv(h:I0)(p:Int)(up:Bool)(n:Nat):carryN p up (n+1) h=((carryN p up n h).da (WD p up)).2:=qo _ _ _
theorem xm:M7 0:=by unfold M7;omega
theorem HH.carryN{N:Nat}{h:I0}(a:HH N h)(p:Int)(up:Bool):∀n:Nat,N+2*n<=900000->HH (N+2*n) (carryN p up n h)∧(Go.Proofs.YtaaihojmcfaejaaGreatDoor.carryN p up n h).D0=h.D0
 |0,_=>⟨a,rfl⟩
 |n+1,d=>by obtain⟨b,c⟩:=HH.carryN a p up n m4;rw[jv];exact⟨b.da m4 _ xm,(b.D0 _).trans c⟩
theorem HH.all(a:HH N h)(c:N+32<=900000)(p:Int)(up:Bool):HH (N+32) (h.all p up)∧(h.all p up).D0=h.D0:=by have b:=eE a p up;obtain⟨e,d⟩:=a.carryN p up (h.p6.Ot p up).length m4;grind[mU,up]
def VD(n:Int):Ev:={tH with W0:=11,N3:=n}
def aaf:Ev:={tH with W0:=5}
def OT:Ev:={tH with W0:=6}
def set1(h:I0):I0:=if h.up (h.D0.K6 h.C0)then h else(h.da (VD (h.D0.K6 h.C0))).2
def set2(h:I0):I0:=((set1 h).da aaf).2
def set3(h:I0)(i:Nat):I0:=(List.range i).foldl (λ(h:I0)(p:Nat)=>(h.all (p:Int) true).all (p:Int) false) (set2 h)
theorem SA(h:I0)(i:Nat):set3 h (i+1)=((set3 h i).all (i:Int) true).all (i:Int) false:=by simp[set3,List.range_succ]
theorem Gw(h:I0):h.yd=((set3 h (set2 h).A0.length).da OT).2:=by unfold I0.yd set3 m6;simp only[Int.toNat_natCast];rfl
theorem HH.set1(a:HH N h)(b:N<=900000):HH (N+2) (set1 h)∧(Go.Proofs.YtaaihojmcfaejaaGreatDoor.set1 h).D0=h.D0:=by
 unfold Go.Proofs.YtaaihojmcfaejaaGreatDoor.set1;split
 ·exact⟨a.up m4 m4,rfl⟩
 ·exact⟨a.da b _ xm,a.D0 _⟩
theorem HH.set2(b:HH N h)(c:N+2<=900000):HH (N+4) (set2 h)∧(Go.Proofs.YtaaihojmcfaejaaGreatDoor.set2 h).D0=h.D0:=by obtain⟨a,d⟩:=b.set1 m4;exact⟨a.da c _ xm,(a.D0 _).trans d⟩
theorem HH.set3{N:Nat}{h:I0}(a:HH N h):∀i:Nat,N+4+64*i<=900000->HH (N+4+64*i) (set3 h i)∧(Go.Proofs.YtaaihojmcfaejaaGreatDoor.set3 h i).D0=h.D0
 |0,b=>a.set2 m4
 |i+1,b=>by obtain⟨d,c⟩:=HH.set3 a i m4;grind[all,SA]
theorem HH.len(a:HH N h):(h.A0.length:Int)=h.D0.A0∧1<=h.D0.A0∧h.D0.A0<=6:=⟨a.hb.A6.Ae,a.hb.A6.pp⟩
theorem HH.yd(a:HH N h)(f:N+400<=900000):HH (N+400) h.yd∧h.yd.D0=h.D0:=by obtain⟨d,g⟩:=a.set2 m4;have e:=d.len;obtain⟨b,c⟩:=a.set3 (Go.Proofs.YtaaihojmcfaejaaGreatDoor.set2 h).A0.length m4;rw[Gw];exact⟨(b.da m4 _ xm).up m4 m4,(b.D0 _).trans c⟩
theorem HH.Mg{N:Nat}{h:I0}(a:HH N h):∀n:Nat,N+400*n<=900000->HH (N+400*n) (Zi I0.yd n h)∧(Zi I0.yd n h).D0=h.D0
 |0,_=>⟨a,rfl⟩
 |n+1,b=>by obtain⟨d,c⟩:=HH.Mg a n m4;grind[qo,yd]
theorem HX.Y9(a:HX N h){l:N7}{S0:List A5}(b:s6 (h.U4 n) l S0):HX N (h.L6 n).2:=by
 unfold I0.L6;split
 ·split
  ·exact a
  ·rename_i e _ C c;rw[e]at b c;obtain⟨g,f⟩:=D8.zD b c;refine HX.G7 (o:=some C) (k:=h.O0) (d:=h.s7) a a.kb O λr q=>?_;grind
 ·split
  ·exact a
  ·rename_i p i;obtain⟨g,f⟩:=d4.zD b i;refine HX.qg (o:=some p) (k:=h.O0) (d:=h.s7) (M:=N) a (V7 N) a.kb O λj m=>?_;grind[SS.up]
section
theorem bD{ev:Ev}(h:Hp c w (G3 b N h0::R))(a:HH N h0)(f:ng c)(g:N<=900000)(l:M7 ev.op.n):Cr 13 #[Pt b,ev.v] w c (h0.da ev).1.v (G3 b (N+2) (h0.da ev).2::R):=by refine alr h a.hb (λd e=>?_) a.rl adv kO f g;subst e;obtain⟨k,j⟩:=a.hb.A6.aed ev;refine⟨(a.hb.ajr ev).kb.ok,k,λn d i=>?_,j⟩;exact(a.hb.A6.da ev l).M6 (n:=n) ⟨d,i⟩
end
theorem HS.TT{pk:Nat}{s:HS}(u:i<=s.q.length)(h:Hp c w (rl (M4 pk N) s.q::Lf pk s.dc s.xc s.oc::L)):∃(d:Nat)(K:HP),i3 (s.q.map (·.d)++[s.dc]) i=some d∧Hp c w (M1 d (s.J1.U4 (i:Int))::K::L)∧∀(w':World)(L':List HP),Hp c w' (M1 d (s.J1.U4 (i:Int))::K::L')->Hp c w' (rl (M4 pk N) s.q::Lf pk s.dc s.xc s.oc::L'):=by
 obtain⟨D,R0,C0,k,t,C,q,dc,xc,oc,r⟩:=s;simp only at u h⊢;have v:∀j:Nat,(HS.J1 ⟨D,R0,C0,k,t,C,q,dc,xc,oc,r⟩).U4 (j:Int)=(q.map (·.x)++[xc]).getD j xH:=λj=>by unfold I0.U4;rw[kg];rfl
 rw[v];by_cases e:i=q.length
 ·subst e;have b:i3 (q.map (·.d)++[dc]) q.length=some dc:=by rw[Z0];simp
  have n:(q.map (·.x)++[xc]).getD q.length xH=xc:=by rw[Xo];simp
  rw[n];cases oc with
  |none=>exact⟨dc,rl (M4 pk N) q,b,h.g [1] O,λw' L' h=>h.g [1] O⟩
  |some y=>
   refine⟨dc,C5 [r6 pk dc y.1 y.2,rl (M4 pk N) q],b,?_,λw' L' h=>?_⟩
   ·have l:Hp c w (M1 dc xc::r6 pk dc y.1 y.2::rl (M4 pk N) q::L):=Hp.R6 (A:=[M1 dc xc,r6 pk dc y.1 y.2]) (h.g [1] O);have a:Hp c w (C5 [r6 pk dc y.1 y.2,rl (M4 pk N) q]::M1 dc xc::L):=Hp.C3 (A:=[r6 pk dc y.1 y.2,rl (M4 pk N) q]) (l.g [1,2] O);exact a.g [1] O
   ·have a:Hp c w' (r6 pk dc y.1 y.2::rl (M4 pk N) q::M1 dc xc::L'):=Hp.R6 (A:=[r6 pk dc y.1 y.2,rl (M4 pk N) q]) (h.g [1] O);have f:Hp c w' (C5 [M1 dc xc,r6 pk dc y.1 y.2]::rl (M4 pk N) q::L'):=Hp.C3 (A:=[M1 dc xc,r6 pk dc y.1 y.2]) (a.g [2] O);exact f.g [1] O
 ·have E:i<q.length:=m4
  obtain⟨y,m⟩:∃y,i3 q i=some y:=⟨q[i],by rw[Z0,d8]⟩;have p:q[i]? =some y:=by rw[<-Z0];exact m
  have b:i3 (q.map (·.d)++[dc]) i=some y.d:=by rw[Z0,Hm Zb1,We,p];rfl
  have n:(q.map (·.x)++[xc]).getD i xH=y.x:=by rw[Xo,Hm Zb1,We,p];rfl
  rw[n];have l:=h.rf m;obtain⟨d,x,o⟩:=y;have z:∀(w':World)(L':List HP),Hp c w' (M4 pk N ⟨d,x,o⟩::rl (M4 pk N) (i6 q i)::Lf pk dc xc oc::L')->Hp c w' (rl (M4 pk N) q::Lf pk dc xc oc::L'):=λw' L' h=>h.ij m;cases o with
  |none=>
   refine⟨d,C5 [rl (M4 pk N) (i6 q i),Lf pk dc xc oc],b,?_,λw' L' h=>?_⟩
   ·have a:Hp c w (C5 [rl (M4 pk N) (i6 q i),Lf pk dc xc oc]::M1 d x::L):=Hp.C3 (A:=[rl (M4 pk N) (i6 q i),Lf pk dc xc oc]) (l.g [1,2] O);exact a.g [1] O
   ·have a:Hp c w' (rl (M4 pk N) (i6 q i)::Lf pk dc xc oc::M1 d x::L'):=Hp.R6 (A:=[rl (M4 pk N) (i6 q i),Lf pk dc xc oc]) (h.g [1] O);exact z w' L' (a.g [2] O)
  |some y=>
   refine⟨d,C5 [B7 pk d N y.1 y.2,rl (M4 pk N) (i6 q i),Lf pk dc xc oc],b,?_,λw' L' h=>?_⟩
   ·have a:Hp c w (M1 d x::B7 pk d N y.1 y.2::rl (M4 pk N) (i6 q i)::Lf pk dc xc oc::L):=Hp.R6 (A:=[M1 d x,B7 pk d N y.1 y.2]) l;have f:Hp c w (C5 [B7 pk d N y.1 y.2,rl (M4 pk N) (i6 q i),Lf pk dc xc oc]::M1 d x::L):=Hp.C3 (A:=[B7 pk d N y.1 y.2,rl (M4 pk N) (i6 q i),Lf pk dc xc oc]) (a.g [1,2,3] O);exact f.g [1] O
   ·have a:Hp c w' (B7 pk d N y.1 y.2::rl (M4 pk N) (i6 q i)::Lf pk dc xc oc::M1 d x::L'):=Hp.R6 (A:=[B7 pk d N y.1 y.2,rl (M4 pk N) (i6 q i),Lf pk dc xc oc]) (h.g [1] O);have f:Hp c w' (M4 pk N ⟨d,x,some y⟩::rl (M4 pk N) (i6 q i)::Lf pk dc xc oc::L'):=Hp.C3 (A:=[M1 d x,B7 pk d N y.1 y.2]) (a.g [3] O);simp[*]
theorem aaz{P:Prop}(h:P:=by refine⟨So ?_,h⟩;rw[S1 (by omega),Z0,List.getElem?_eq_none (by omega)]at hz;subst hz;rfl):P:=h
theorem aay{P:Prop}(h:P:=by rw[S1 (by omega),hy]at hz;subst hz;exact LD.qf h 1 O U9 hy O ⟨rfl,h⟩):P:=h
section
variable{s:HS}
theorem aho(h:Hp c w (bk b (O9 s g) 90::R)):Cr 20 #[Pt b] w c (I s.C0) (bk b (O9 s g) 90::R):=by exact R2 func20 O (U0 h 0 O O ⟨rfl,h⟩)
theorem ZV(h:Hp c w (bk b (O9 s g) 90::R)):Cr 23 #[Pt b] w c (Pt g.pd) (bk b (O9 s g) 90::R):=by exact R2 func23 O (U0 h 0 O O ⟨rfl,h⟩)
theorem IR(h:Hp c w (bk b (O9 s g) 90::R)):Cr 16 #[Pt b] w c (Pt g.pk) (bk b (O9 s g) 90::R):=by exact R2 func16 O (U0 h 0 O O ⟨rfl,h⟩)
theorem alq{z:Option Nat}(hz:(if 0<=n then(i3 (s.q.map S2.pp) n.toNat).getD none else none)=z)(h:Hp c w (bk b (O9 s g) 90::so 61 Pg g.ap g.cp (s.q.map S2.pp)::R)):Cr 21 #[Pt b,I n] w c (la z) (bk b (O9 s g) 90::so 61 Pg g.ap g.cp (s.q.map S2.pp)::R):=by
 refine R2 func21 O (BR.T5 (λd=>?_) λd=>?_)
 ·refine Q5 ⟨So ?_,h⟩;rw[V0 m4]at hz;subst hz;rfl
 ·refine U0 h 0 O O (BR.T5 (λa=>?_) λa=>?_)
  ·exact aaz
  ·refine U0 h 0 O O (jd h 1 O λb1 e U9=>?_);obtain⟨y,hy⟩:∃y,i3 (s.q.map S2.pp) n.toNat=some y:=⟨_,by rw[Z0];exact d8 m4⟩;exact aay
theorem acW{z:Option Nat}(hz:(if 0<=n then i3 (s.q.map (·.d)++[s.dc]) n.toNat else none)=z)(h:Hp c w (bk b (O9 s g) 90::so 99 am g.ad g.cd (s.q.map (·.d)++[s.dc])::R)):Cr 40 #[Pt b,I n] w c (la z) (bk b (O9 s g) 90::so 99 am g.ad g.cd (s.q.map (·.d)++[s.dc])::R):=by
 refine R2 func40 O (BR.T5 (λe=>?_) λe=>?_)
 ·refine Q5 ⟨So ?_,h⟩;rw[V0 m4]at hz;subst hz;rfl
 ·refine U0 h 0 O O (BR.T5 (λa=>?_) λa=>?_)
  ·exact aaz
  ·refine U0 h 0 O O (jd h 1 O λb1 f U9=>?_);obtain⟨y,hy⟩:∃y,i3 (s.q.map (·.d)++[s.dc]) n.toNat=some y:=⟨_,by rw[Z0];exact d8 m4⟩;exact aay
end
section
theorem HH.S0(c:HH N h0)(b:0<=n∧n<=h0.D0.A0):∃l S0,s6 (h0.U4 n) l S0∧Xj h0 n=(S0,true):=by obtain⟨l,S0,a⟩:=c.hb.A6.M6 b;refine⟨l,S0,a,?_⟩;unfold Xj;rw[a.Y9]
theorem akX{l:N7}{S0:List A5}(h:Hp c w (G3 b N h0::R))(p:0<=n∧n<=h0.D0.A0)(k:s6 (h0.U4 n) l S0):Cs 72 #[Pt b,I n] w (λe w'=>∃a cap,e= .returned (.tuple #[.slice a S0.length cap,.bool true])∧Hp c w' (so 195 za a cap S0::G3 b N h0::R)):=by
 obtain⟨s,g,f,o,A,h⟩:=h.C4;obtain⟨i,rfl⟩:∃i:Nat,n=i:=⟨n.toNat,m4⟩;have u:s.D0=h0.D0:=by rw[f];rfl
 have m:i<=s.q.length:=by rw[<-u]at p;omega
 obtain⟨d,K,r,h,j⟩:=HS.TT m (h.g [9,10] rfl);rw[<-f]at h j;obtain⟨x,hx⟩:∃x,h0.U4 (i:Int)=x:=⟨_,rfl⟩;rw[hx]at h j k;have C:=k.sj.size;have ajJ:(if 0<=(i:Int)then i3 (s.q.map (·.d)++[s.dc]) (i:Int).toNat else none)=some d:=by rw[S1 m4];exact r
 have t:=λ(w:World)(R:List HP)(h:Hp c w (M1 d x::R))=>KR h m4 k.Y9;refine R2 func72 O (N1 (acW (s:=s) (g:=g) (z:=some d) ajJ (h.g [2,6] O)) λw h=>tg.un O (m5 (xb (t _ _ (h.g [2] O)) ?_)));rintro _ w ⟨pl,y,v,rfl,h⟩;replace h:=j _ _ (h.q 13 [2,5,1,3,4,6,7,8,9,10,11,12] O);replace h:=Hp.F1 (h0:=h0) (s:=s) (g:=g) f o A (h.g [3,5,6,7,4,8,9,10,11] O);exact⟨y,v,rfl,h.g [1] O⟩
def isC(r:A5):Bool:=decide (r.W0=4)
def ri(N0:List Int)(S0:List A5)(i:Nat):List Int:=N0++((S0.take i).filter isC).map (·.tx)
theorem dJ{N0:List Int}{S0:List A5}{x:A5}(hx:i3 S0 i=some x):ri N0 S0 (i+1)=if x.W0=4 then ri N0 S0 i++[x.tx]else ri N0 S0 i:=by
 unfold ri;rw[O7 hx,uv,ic,<-N'];by_cases e:x.W0=4
 ·simp[isC,e]
 ·simp[isC,e]
theorem xt{S0:List A5}(a:Xj h0 n=(S0,true)):K8 h0 n=ri ((P6 S0).dr true) S0 S0.length:=by unfold K8 ri;rw[a,jg];rfl
theorem ali(h:Hp c w (G3 b N h0::R))(F:HH N h0)(s:0<=n∧n<=h0.D0.A0):Cs 41 #[Pt b,I n] w (λe w'=>∃a cap,e= .returned (.slice a (K8 h0 n).length cap)∧(K8 h0 n).length<=10000∧Hp c w' (so 3 O5 a cap (K8 h0 n)::G3 b N h0::R)):=by
 obtain⟨l,S0,A,z⟩:=F.S0 s;have Z:=A.few;obtain⟨PZ,_⟩:=xo S0;have k:(K8 h0 n).length<=10000:=by rw[xt z];unfold ri x8.dr;rw[j7,H7,H7];have r:=Rh isC (S0.take S0.length);have L:=Rh (λ(x:xf)=>x.T1==true) (P6 S0).L5;have K:=yE S0.length S0;omega
 rw[xt z]at k⊢;obtain⟨N0,C⟩:∃N0,(P6 S0).dr true=N0:=⟨_,rfl⟩;rw[C]at k⊢;have H:=λ(w:World)(R:List HP)(h:Hp c w (G3 b N h0::R))=>akX h s A;have J:=λ(w:World)(a:Option Addr)(cap:Nat)(hs:Sx za w a S0.length cap S0)=>acT (P0:=S0) hs m4;have G:∀(w:World)(L5:List Dd)(ab j:Option Addr)(nb cb o:Nat)(R:List HP),L5.map Dd.tx=(P6 S0).L5->Hp c w (so 260 Hq j o L5::R)->Cs 73 #[.agg #[.slice ab nb cb,.slice j L5.length o]] w (λe w'=>∃d f,e= .returned (.slice d N0.length f)∧Hp c w' (so 3 O5 d f N0::so 260 Hq j o L5::R)):=by
  intro w L5 ab j nb cb o R e h;have r:=akW (ab:=ab) (nb:=nb) (cb:=cb) h Zb1;have S:((L5.map Dd.tx).filter λx=>x.T1==true).map (·.n)=N0:=by rw[e];exact C
  rw[S]at r;exact r
 refine R2 func41 O (ga (H _ _ h) λy v w h=>xb (J _ _ _ (h.Z4 0 O)) ?_);rintro _ w ⟨ab,cb,j,o,L5,rfl,Y,M⟩;replace h:=h.H6 M;refine ga (G _ L5 _ _ _ _ _ _ Y (h.g [1] O)) λa1 T w h=>?_;have e00:ri N0 S0 0=N0:=by simp[ri]
 refine p5.A6 kn [7,19,20,21] (λm vs w'=>∃(i:Nat)(d:Option Addr)(f:Nat),vs=[.slice d (ri N0 S0 i).length f,.slice y S0.length v,I S0.length,I i]∧i+m=S0.length∧Hp c w' (so 3 O5 d f (ri N0 S0 i)::so 195 za y v S0::G3 b N h0::R)) S0.length ⟨0,a1,T,by rw[e00];rfl,m4,(h.q 6 [0,4,5] O).subst (by rw[e00])⟩ ?_;rintro m _ w1 e0 ⟨i,d,f,rfl,hm,h⟩;refine BR.T5 (λQ=>?_) λQ=>?_
 ·obtain⟨x,E⟩:∃x,i3 S0 i=some x:=⟨_,by rw[Z0];exact d8 m4⟩;have p:=dJ (N0:=N0) E;have hFl:(ri N0 S0 i).length<=20000:=by
   have L:=Rh isC (S0.take i);have K:=yE i S0;have h4:N0.length<=10000:=by unfold ri at k;rw[j7]at k;omega
   unfold ri;rw[j7,H7];omega
  by_cases t:x.W0=4
  ·rw[S1 t]at p;refine jd h 1 O λb1 D V=>Oa.sl h 1 O Zb9 Zb9 (I2 h O λb2 w h=>J3 h 0 O O O λw h=>U0 h 0 O O (mf (U0 h 0 O O (I2 h O λb3 w h=>A4.Yb (u:=_) (Ca.of (w9:=8) kn O O O O O O) h 2 O O 0 O O O m4 (λ_ _=>rfl) λa2 E4 w h=>i5 ⟨(m-1),?_,_,_,_,vs4 (V4 (λn=>Value.slice _ n _) ?_) O O O,?_,Hp.subst (h.q 5 [2,3,4] O) ?_⟩))))
   ·omega
   ·grind[]
   ·grind[]
   ·grind[]
  ·rw[V0 t]at p;exact jd h 1 O λb1 D V=>Oa.sl h 1 O Zb9 Zb9 (I2 h O λb2 w h=>J3 h 0 O O O λw h=>U0 h 0 O O (Wa (i5 ⟨m-1,m4,i+1,d,f,by rw[p];rfl,m4,by rw[p];exact h.q 4 [1,2,3] O⟩)))
 ·have X:i=S0.length:=m4
  subst X;exact⟨d,f,rfl,k,h.q 3 [0,2] O⟩
end
theorem aax{P:Prop}(h:P:=by replace h:Hp _ _ (K1 _ (s.O0)::_):=Hp.F3 (h.g [1] O);exact⟨m,Nat.lt_succ_self m,i+1,rfl,by omega,SZ,h.g [2,1] O⟩):P:=h
theorem bf.aku{x y:BitVec 16}{b:Int}{K:Value->Prop}(a:b=(y.toNat:Int))(k:K (gb (x&&&y))):bf .and .u16 (x.toNat:Int) b K:=by subst a;refine bf.of ?_ k;show IntKind.u16.wrap ((BitVec.ofInt 16 (x.toNat:Int)&&&BitVec.ofInt 16 (y.toNat:Int)).toNat:Int)=_;rw[io,io,kw]
theorem IX(s:BitVec 16)(p:Nat):(((s>>>p)&&&1#16).toNat:Int)=1↔s.getLsbD p=true:=by
 have e:((s>>>p)&&&1#16).toNat=s.toNat/2^p%2:=by rw[rE,mz,pz];exact Nat.and_one_is_mod _
 rw[e,BitVec.getLsbD,Nat.testBit_eq_decide_div_mod_eq,xI];omega
section
variable{s:HS}
theorem acV{e:Pc}(h:Hp c w (bk b (O9 s g) 90::K1 g.pk s.O0::R)):Cr 44 #[Pt b,I tx,e.v] w c (.bool (wc s.J1 tx e 6 0)) (bk b (O9 s g) 90::K1 g.pk s.O0::R):=by
 refine R2 func44 O (I2 h O λb1 w h=>?_);obtain⟨q,j⟩:∃q,wc s.J1 tx e 6 0=q:=⟨_,rfl⟩;rw[j];refine p5.A6 kn [0,1,5,10] (λm vs w'=>∃i:Nat,vs=[Pt b,I tx,Pt b1,I i]∧i+m=6∧wc s.J1 tx e m i=q∧Hp c w' (bk b1 [I e.Z3,I e.I1,gb e.J0] 102::bk b (O9 s g) 90::K1 g.pk s.O0::R)) 6 ⟨0,rfl,m4,j,h⟩ ?_;rintro m _ w1 u ⟨i,rfl,t,SZ,h⟩;cases m with
 |zero=>
  refine Te ?_;have:q=false:=by rw[<-SZ];rfl
  subst this;exact⟨rfl,h.q 3 [1,2] O⟩
 |succ m=>
  unfold wc at SZ;simp only at SZ;refine Zt ?_;obtain⟨⟨v,l⟩,a⟩:∃V,s.O0.R4.o9 tx (i:Int) 2199023255552=V:=⟨_,rfl⟩;have hV2:s.J1.O0.R4.o9 tx (i:Int) 2199023255552=(v,l):=a;rw[hV2]at SZ;simp only[Int.toNat_natCast]at SZ;have k:=λ(w:World)(b:Nat)(R:List HP)(h:Hp c w (Ma b s.O0.R4::R))=>yj (tx:=tx) (p:=(i:Int)) (C0:=2199023255552) h;rw[a]at k;simp only at k;refine N1 (IR (h.g [1] O)) λw h=>pg ((h.g [2] O).d5) λC x A z h=>N1 (Mp h) λw h=>N1 (yj (h.g [1] O)) λw h=>U0 h 5 O O (km (Bv.u16 ?_));have n:=IX e.J0 i;refine bf.aku (y:=1#16) O ?_;by_cases f:e.J0.getLsbD i=true
  ·have r:=n.mpr f;refine BR.QT Zb9 (BR.eq (λd=>?_) λd=>?_)
   ·replace h:Hp _ _ (K1 _ (s.O0)::_):=Hp.F3 (h.g [1] O);refine⟨A8 O ?_,h.q 3 [1,0] O⟩;grind[]
   ·refine i5 ?_;have o:¬l=0:=by rw[a]at d;exact d
    rw[V0 (λe=>o e.2)]at SZ;exact aax
  ·have r:¬(((e.J0>>>i)&&&1#16).toNat:Int)=1:=λe=>f (n.mp e);rw[V0 (λe=>f e.1)]at SZ;refine BR.eqN Zb9 (m5 (i5 ?_));exact aax
end
section
variable{b1:Nat}{s:HS}
theorem afD(h:Hp c w (bk b1 [Pt b] 27::bk b (O9 s g) 90::z6 g.pd s.P2::R))(a:s.P2.P0.length<=64):Cr 45 #[I tx,Pt b1] w c (I (s.P2.entry tx).1.I1) (bk b1 [Pt b] 27::bk b (O9 s g) 90::z6 g.pd s.P2::R):=by exact R2 func45 O (U0 h 0 O O (N1 (ZV (h.g [1] O)) λw h=>N1 (nO (h.g [2] O) Zb9) λw h=>I2 h O λb2 w h=>J3 h 0 O O O λw h=>U0 h 0 O O ⟨rfl,h.q 4 [3,2,1] O⟩))
theorem afp(h:Hp c w R):Cr 76 #[I x] w c (.bool false) R:=by refine R2 func76 O ⟨A8 O ?_,h⟩;grind[]
theorem alf{y:Int}(h:Hp c w R):Cr 48 #[I x,I y] w c (I (if x<y then -1 else if x>y then 1 else 0)) R:=by
 refine R2 func48 O (N1 (afp h) λw h=>N1 (afp h) λw h=>m5 (m5 (BR.T5 (λb=>?_) λb=>?_)))
 ·refine⟨Ya O ?_,h⟩;omega
 ·refine BR.T5 (λa=>?_) λa=>?_
  ·refine⟨Ya O ?_,h⟩;omega
  ·refine⟨Ya O ?_,h⟩;omega
theorem alg{y:Int}{b2:Nat}{M:HP}(h:Hp c w (M::bk b2 [.func (.func 45) #[] #[Pt b1]] 91::bk b1 [Pt b] 27::bk b (O9 s g) 90::z6 g.pd s.P2::R))(a:s.P2.P0.length<=64):Cr 47 #[I x,I y,Pt b2] w c (I (if(s.P2.entry x).1.I1<(s.P2.entry y).1.I1 then -1 else if(s.P2.entry x).1.I1>(s.P2.entry y).1.I1 then 1 else 0)) (M::bk b2 [.func (.func 45) #[] #[Pt b1]] 91::bk b1 [Pt b] 27::bk b (O9 s g) 90::z6 g.pd s.P2::R):=by exact R2 func47 O (Y6 h [1,4,0,3,52,105,106,7] λh=>U3 1 O O (U3 1 O O (N1 (afD (h.g [2,3,4] O) Zb9) λw h=>⟨h.g [3,4] O,N1 (afD h Zb9) λw h=>N1 (alf h) λw h=>⟨rfl,h.g [3,4] O⟩⟩)))
end
theorem acf{P Q:Prop}(q:Q)(f:Q->P:=by intro q;exact I2 h O λb4 w h=>A4.Yb (u:=_) (Ca.of (w9:=8) kn O O O O O O) h 13 O O 0 O O O m4 (λ_ _=>rfl) λa1 V1 w h=>i5 (q b4 a1 V1 w h)):P:=f q
theorem aaw{P:Prop}(h:P:=by refine i5 ?_;rw[V0 (by simp_all)]at gK;replace h:=Hp.F1 (h0:=h0) (s:=s2) (g:=g2) e4 Ox Yz (h.q 15 [0,1,4,3,5,6,7,8,9,10,11,12,13,14] O);exact⟨m-1,by omega,i+1,a,cap,by rw[gK];rfl,by omega,by rw[gK];exact h.g [1] O⟩):P:=h
theorem aav{P:Prop}(h:P:=by replace h:=Hp.F1 (h0:=h0) (s:=s2) (g:=g2) e4 Ox Yz (h.q 16 [1,2,5,4,6,7,8,9,10,11,12,13,14,15] O);exact⟨m-1,by omega,i+1,a1,V1,by rw[gK];rfl,by omega,by rw[gK];exact h.g [1] O⟩):P:=h
def Cnt(a:List (Int×Int))(l:List Int):Prop:=∀tx,0<=(K0 a tx).getD 0∧(K0 a tx).getD 0<=l.length∧(0<(K0 a tx).getD 0↔tx∈l)
theorem Cnt.nil:Cnt [] []:=λtx=>⟨lm 0,lm 0,⟨λh=>absurd h (Int.lt_irrefl 0),λh=>(by cases h)⟩⟩
theorem Cnt.oO{a:List (Int×Int)}{l:List Int}(h:Cnt a l)(x:Int):Cnt (R1 a x ((K0 a x).getD 0+1)) (l++[x]):=by intro tx;have b:=h tx;grind[G1,Y0]
section
theorem amG{b1 b2:Nat}{s:HS}(a:s.P2.P0.length<=64):Ks 47 [Pt b2] I (λtx=>(s.P2.entry tx).1.I1) c (bk b2 [.func (.func 45) #[] #[Pt b1]] 91::bk b1 [Pt b] 27::bk b (O9 s g) 90::z6 g.pd s.P2::R):=by refine⟨rfl,λx y w M h=>?_⟩;refine(alg h a).mono ?_;grind
def lI(h:I0)(i:Nat):List Int:=(List.range i).flatMap λ(n:Nat)=>K8 h (n:Int)
theorem iC(h:I0)(i:Nat):lI h (i+1)=lI h i++K8 h (i:Int):=by simp[lI,List.range_succ]
def sG(h:I0)(tx:Int):Bool:=(lI h h.s7.length).contains tx||wc h tx (h.P2.entry tx).1 6 0
def nx(h:I0)(i:Nat):List Int:=((List.range i).map λ(n:Nat)=>(n:Int)+1).filter (sG h)
theorem HO(h:I0)(i:Nat):nx h (i+1)=if sG h ((i:Int)+1)=true then nx h i++[(i:Int)+1]else nx h i:=by grind[nx,List.range_succ]
theorem fm(h:I0):T7 h=J7 (λ(a b:Int)=>Decidable.decide ((h.P2.entry a).1.I1<=(h.P2.entry b).1.I1)) (nx h h.P2.P0.length):=rfl
theorem Ex(b:HH N h0)(a:0<=n∧n<=h0.D0.A0):(K8 h0 n).length<=10000:=by obtain⟨l,S0,d,c⟩:=b.S0 a;have e:=d.few;obtain⟨f,_⟩:=xo S0;rw[xt c];unfold ri x8.dr<;>grind
theorem kI(a:HH N h0):∀i:Nat,(i:Int)<=h0.D0.A0+1->(lI h0 i).length<=10000*i
 |0,_=>V7 0
 |i+1,b=>by have c:=kI a i m4;grind[Ex,iC]
set_option maxHeartbeats 2000000 in
theorem aig(h:Hp c w (G3 b N h0::R))(o:HH N h0):Cs 11 #[Pt b] w (λe w'=>∃a cap,e= .returned (.slice a (T7 h0).length cap)∧Hp c w' (so 3 O5 a cap (T7 h0)::G3 b N h0::R)):=by
 obtain⟨hl0,np,kh⟩:=o.len;have amp:=o.hb.P2.l;have amo:(h0.s7.length:Int)=h0.D0.A0+1:=by have H:=o.hb.A6.Be;have G:=o.hb.A6.D0;rw[H,G]
 refine R2 func11 O (I2 h O λb1 w h=>A4.Xp I I h λb2 w h=>p5.A6 kn [1,3,4] (λm vs w'=>∃(i:Nat)(k:List (Int×Int)),vs=[Pt b1,.map (some b2),I i]∧i+m=h0.s7.length∧Cnt k (lI h0 i)∧Hp c w' (mo I I b2 k::bk b1 [Pt b] 27::G3 b N h0::R)) h0.s7.length ⟨0,[],rfl,m4,Cnt.nil,h⟩ ?_);rintro m _ w1 p ⟨i,k,rfl,V,n,h⟩;have hal:=kI o i m4;obtain⟨s,g,p,v,L,h⟩:=(h.g [2] rfl).C4;have e1:s.D0=h0.D0:=by rw[p];rfl
 have Wx:(s.q.map (·.d)++[s.dc]).length=h0.s7.length:=by rw[j7,H7,Gm];rw[e1]at v;omega
 cases m with
 |succ m=>
  obtain⟨d,X⟩:∃d,i3 (s.q.map (·.d)++[s.dc]) i=some d:=⟨_,by rw[Z0];exact d8 m4⟩;have A:(if 0<=(i:Int)then i3 (s.q.map (·.d)++[s.dc]) (i:Int).toNat else none)=some d:=by rw[S1 m4];exact X
  have F:0<=(i:Int)∧(i:Int)<=h0.D0.A0:=m4
  have r7:=Ex o F;refine U0 h 12 O O (N1 (acW (s:=s) (g:=g) (z:=some d) A (h.g [0,4] O)) λw h=>?_);replace h:=Hp.F1 (h0:=h0) (s:=s) (g:=g) p v L (h.g [0,2,3,4] O);refine tg.un O (Q5 (U0 h 2 O O (xb (ali h o F) ?_)));rintro _ w ⟨K,cl,rfl,_,h⟩;refine p5.A6 kn [1,3,4,22,23,24] (λm vs w'=>∃(j:Nat)(k:List (Int×Int)),vs=[Pt b1,.map (some b2),I i,.slice K (K8 h0 i).length cl,I (K8 h0 i).length,I j]∧j+m=(K8 h0 i).length∧Cnt k (lI h0 i++(K8 h0 i).take j)∧Hp c w' (mo I I b2 k::so 3 O5 K cl (K8 h0 i)::G3 b N h0::bk b1 [Pt b] 27::R)) (K8 h0 i).length ⟨0,k,rfl,m4,Zb7,h.g [2] O⟩ ?_;clear n;rintro E _ w1 e5 ⟨j,k,rfl,II,n,h⟩;refine BR.T5 (λC=>?_) λC=>?_
  ·obtain⟨x,hx⟩:∃x,i3 (K8 h0 i) j=some x:=⟨_,by rw[Z0];exact d8 m4⟩;have S:=n x;have AB:(lI h0 i++(K8 h0 i).take j).length<=100000:=by have:=yE j (K8 h0 (i:Int));rw[j7];omega
   refine jd h 1 O λt o1 U9=>LD.qf h 1 O Zb9 Zb9 O (RD.xK tW h 0 O _ (λg2=>?_) λM g2=>?_)
   ·refine i5 (A4.Eb tW h 0 O x _ O O O O λw h=>i5 ⟨(E-1),?_,_,_,rfl,?_,?_,h⟩)
    ·omega
    ·grind[]
    ·(have:=n.oO x;simp_all[O7])
   ·refine WR.vp (i64 Zb1) (A4.Eb tW h 0 O x _ O O O O λw h=>i5 ⟨(E-1),?_,_,_,rfl,?_,?_,h⟩)
    ·omega
    ·grind[]
    ·(have:=n.oO x;simp_all[O7])
  ·have hjn:j=(K8 h0 i).length:=m4
   subst hjn;rw[jg,<-iC]at n;exact i5 ⟨m,m4,i+1,k,rfl,m4,n,h.q 4 [0,3,2] O⟩
 |zero=>
  have A:(if 0<=(i:Int)then i3 (s.q.map (·.d)++[s.dc]) (i:Int).toNat else none)=none:=by rw[S1 m4,Z0,List.getElem?_eq_none m4]
  refine U0 h 12 O O (N1 (acW (s:=s) (g:=g) (z:=none) A (h.g [0,4] O)) λw h=>tg.un O (m5 (U0 h 12 O O (N1 (ZV h) λw h=>N1 (afU (h.g [4] O)) λw h=>?_))));have D:i=h0.s7.length:=m4
  subst D;replace h:=Hp.F1 (h0:=h0) (s:=s) (g:=g) p v L (h.g [1,3,4] O);replace h:=h.G4 3 O5;have e2:s.P2=h0.P2:=by rw[p];rfl
  refine p5.A6 kn [1,3,7,35,36] (λm vs w'=>∃(i:Nat)(a:Option Addr)(cap:Nat),vs=[Pt b1,.map (some b2),.slice a (nx h0 i).length cap,I s.P2.P0.length,I i]∧i+m=h0.P2.P0.length∧Hp c w' (so 3 O5 a cap (nx h0 i)::G3 b N h0::mo I I b2 k::bk b1 [Pt b] 27::R)) h0.P2.P0.length ⟨0,none,0,rfl,m4,h⟩ ?_;rintro m _ w1 e3 ⟨i,a,cap,rfl,V,h⟩;have mK:i<=h0.P2.P0.length:=m4
  have CV:(nx h0 i).length<=i:=by unfold nx;refine j9 (Rh _ _) ?_;rw[H7,yz];exact V7 i
  have aoc:(s.P2.P0.length:Int)=h0.P2.P0.length:=by rw[e2]
  obtain⟨s2,g2,e4,Ox,Yz,h⟩:=(h.g [1] rfl).C4;have e5:s2.P2=h0.P2:=by rw[e4];rfl
  refine BR.T5 (λC=>?_) λC=>?_
  ·have gK:=HO h0 i;have Z:=λ(w:World)(R:List HP)(h:Hp c w (z6 g2.pd s2.P2::R))=>nO (tx:=(i:Int)+1) h Zb7;have S:=n ((i:Int)+1);have T:=λ(w:World)(R:List HP)(e:Pc)(h:Hp c w (bk b (O9 s2 g2) 90::K1 g2.pk s2.O0::R))=>acV (tx:=(i:Int)+1) (e:=e) h;rw[<-e4]at T;have hT1:0<(K0 k ((i:Int)+1)).getD 0->sG h0 ((i:Int)+1)=true:=λh=>by simp_all[sG]
   have hT2:wc s2.J1 ((i:Int)+1) (s2.P2.entry ((i:Int)+1)).1 6 0=true->sG h0 ((i:Int)+1)=true:=λh=>by simp_all[sG]
   have hF:¬0<(K0 k ((i:Int)+1)).getD 0->wc s2.J1 ((i:Int)+1) (s2.P2.entry ((i:Int)+1)).1 6 0=false->sG h0 ((i:Int)+1)=false:=λH G=>by simp_all[sG]
   refine i5 (U0 h 13 O O (N1 (ZV h) λw h=>N1 (Z _ _ (h.g [3] O)) λw h=>I2 h O λt w h=>J3 h 0 O O O λw h=>RD.xK tW h 13 O _ (λg3=>?_) λM g3=>?_))
   ·refine m5 (U0 h 14 O O (O4 h 0 O O (N1 (acV (h.g [2,3] O)) λw h=>BR.O' (λr=>?_) λr=>?_)))
    ·refine acf λb4 a1 V1 w h=>?_;rw[S1 (hT2 r)]at gK;exact aav
    ·exact aaw
   ·refine BR.T5 (λr=>?_) λr=>?_
    ·refine Q5 (I2 h O λb4 w h=>A4.Yb (u:=_) (Ca.of (w9:=8) kn O O O O O O) h 13 O O 0 O O O m4 (λ_ _=>rfl) λa1 V1 w h=>i5 ?_);rw[S1 (hT1 Zb1)]at gK;replace h:=Hp.F1 (h0:=h0) (s:=s2) (g:=g2) e4 Ox Yz (h.q 16 [3,4,5,2,6,7,8,9,10,11,12,13,14,15] O);exact⟨m-1,m4,i+1,a1,V1,by rw[gK];rfl,m4,by rw[gK];exact h.g [1] O⟩
    ·refine U0 h 14 O O (O4 h 0 O O (N1 (acV (h.g [2,3] O)) λw h=>BR.O' (λJ=>?_) λJ=>?_))
     ·refine acf λb4 a1 V1 w h=>?_;rw[S1 (hT2 J)]at gK;exact aav
     ·exact aaw
  ·refine I2 h O λt w h=>J3 h 0 O O O λw h=>?_;have D:i=h0.P2.P0.length:=m4
   subst D;replace h:=h.g [12,0,14,1,4] O;have Y:=amG (c:=c) (b:=b) (b1:=b1) (b2:=t) (s:=s2) (g:=g2) (R:=K1 g2.pk s2.O0::x5 g2.pl s2.p6::so 99 am g2.ad g2.cd (s2.q.map (·.d)++[s2.dc])::so 61 Pg g2.ap g2.cp (s2.q.map S2.pp)::so 42 I9 g2.ar g2.cr s2.M3::so 215 jl g2.B6 g2.cs g2.sl::rl (sh.mem N) g2.sl::rl (M4 g2.pk N) s2.q::Lf g2.pk s2.dc s2.xc s2.oc::mo I I b2 k::R) Zb7;refine N1 (alh (lb:=[Pt t]) (le:=λ(a b:Int)=>Decidable.decide ((h0.P2.entry a).1.I1<=(h0.P2.entry b).1.I1)) h Y (λx y=>Zb6) O m4) λw h=>?_;replace h:=Hp.F1 (h0:=h0) (s:=s2) (g:=g2) e4 Ox Yz (h.q 15 [3,5,6,4,7,8,9,10,11,12,13,0] O);rw[<-fm]at h;have FV:(T7 h0).length=(nx h0 h0.P2.P0.length).length:=by rw[fm];exact(H5 _).length_eq
   exact⟨a,cap,by rw[FV];rfl,h.g [1] O⟩
end
section
theorem Inv.begun{c:Int}(F:1<=p.A0∧p.A0<=6)(hs:1<=c∧c<=128):Inv (G6 (I0.start p c R0)) (I0.start p c R0):=by
 unfold I0.start;simp only;obtain⟨h0,a⟩:∃h0:I0,h0=⟨p,R0,0,J2.new p,O6.new p.A0.toNat,⟨p,[],List.replicate 8 0⟩,List.replicate (p.A0.toNat+1) (U2.new c.toNat),List.replicate p.A0.toNat none,none,[]⟩:=⟨_,rfl⟩;have o:∀q T,¬(G6 h0).C q T:=by rintro q T ⟨r,b,_⟩;rw[a]at b;cases b
 have k:∀n:Nat,n<=p.A0.toNat->h0.U4 (n:Int)=U2.new c.toNat:=by intro n j;rw[a];show(List.replicate _ _).getD _ _=_;rw[Xo,List.getElem?_replicate,S1 m4];rfl
 have g:(G6 h0).A0=p.A0:=by rw[a];rfl
 have f:Inv (G6 h0) h0:=by
  refine⟨m4,by rw[g,a],by rw[g,a];rfl,?_,?_,λn j=>?_,?_,?_,?_,?_,Zb6,?_,λq T u=>absurd u (o q T)⟩
  ·grind
  ·grind
  ·rw[g]at j;rw[k n m4];have e:h0.G5 n=none:=by rw[a];show(List.replicate _ none).getD _ _=_;rw[Xo,List.getElem?_replicate];split<;>rfl
   rw[e];exact⟨[],_,s6.new m4 m4,⟨rfl,rfl⟩,FL.nil,λr b=>(by cases b),λtx w t=>(by cases t),λT y=>absurd y (o _ T)⟩
  ·rw[g];have e:h0.O1=none:=by rw[a]
   have s:=k p.A0.toNat (V7 _);have z:((p.A0.toNat:Nat):Int)=p.A0:=m4
   rw[z]at s;rw[e,s];exact⟨[],_,s6.new m4 m4,λr b=>(by cases b)⟩
  ·intro tx r b;rw[a]at b;cases b
  ·intro x d;rw[a]at d;obtain⟨i,_,f⟩:=xC.1 d<;>grind
  ·intro x d m G;rw[a]at d;obtain⟨i,_,f⟩:=xC.1 d<;>grind
  ·simp[*]
 have:∀(l:List Nat)(h:I0),(∀n∈l,(n:Int)<=h.D0.A0)->Inv (G6 h) h->Inv (G6 (l.foldl (λ(h:I0)(n:Nat)=>(h.L6 (n:Int)).2) h)) (l.foldl (λ(h:I0)(n:Nat)=>(h.L6 (n:Int)).2) h):=by
  intro l;induction l with
  |nil=>simp
  |cons n l E=>intro h v f;rw[Ti];obtain⟨D,A⟩:=f.L6 (n:=(n:Int)) ⟨m4,v n (Ka ..)⟩;grind[G9.D0]
 grind
def zj(h:I0)(l:List Ev):I0:=l.foldl (λ(h:I0)(ev:Ev)=>(h.da ev).2) h
theorem fp{g:I0}{tx:Int}{e:Pc}:∀(f:Nat)(p:Int),wc g tx e f p=true->∃q,(g.O0.R4.o9 tx q 2199023255552).2=0∧(g.O0.R4.o9 tx q 2199023255552).1=1
 |0,_,a=>by cases a
 |f+1,p,a=>by
  unfold wc at a;simp only at a;split at a
  ·grind
  ·exact fp f (p+1) a
theorem Inv.S0(a:Inv (G6 h) h){n:Nat}(c:n<h.s7.length):∃S0 l,I' (h.U4 (n:Int))=some (l,S0)∧∀r∈S0,(G6 h).Q r:=by
 have f:=a.Be;have d:=a.D0;by_cases b:(n:Int)<(G6 h).A0
 ·exact(a.E0 n b).S0
 ·have e:(n:Int)=(G6 h).A0:=m4
  rw[e];exact a.O1.S0
theorem Inv.Uf(m:Inv (G6 h) h){n:Nat}(k:n<h.s7.length){T:Int}(a:T∈K8 h (n:Int)):(G6 h).D T:=by
 obtain⟨S0,l,o,g⟩:=m.S0 k;unfold K8 Xj at a;rw[o]at a;simp only at a;rcases rh.1 a with a|a
 ·obtain⟨x,c,e⟩:=Un.1 a;obtain⟨c,f⟩:=Aq.1 c;have f:x.T1=true:=by simpa using f
  obtain⟨w,j,_,p⟩:=Md.1 c;have i:=V4 xf.T1 p;rw[f]at i;obtain⟨r,b,d,q⟩:=RH j i.symm;have:=(g r b).2 d;grind
 ·obtain⟨r,b,e⟩:=Un.1 a;obtain⟨b,d⟩:=Aq.1 b;rw[<-e];exact(g r b).2 (Vn d)
theorem Inv.T1(b:Inv (G6 h) h){T:Int}(a:T∈T7 h):(G6 h).D T:=by
 unfold T7 at a;simp only at a;have a:=(H5 _).mem_iff.1 a;obtain⟨_,a⟩:=Aq.1 a;rw[aeM]at a;rcases a with a|a
 ·grind[Uf]
 ·obtain⟨q,d,c⟩:=fp _ _ a;exact b.R4.o9 d c
theorem Inv.aew(a:Inv (G6 h) h){r:Wk}(c:r∈h.M3)(e:fU r):¬r.tx∈T7 h:=by intro f;have d:=a.T1 f;have b:(G6 h).C r.N3 r.tx:=⟨r,c,e,rfl,rfl⟩;obtain⟨j,i,k,g⟩:=a.GP _ _ b;exact d.2 _ j i g (.inl b)
def aon(p:E2):List E2->List E2
 |[]=>[p]
 |y::r9=>if kN y.key<kN p.key then y::aon p r9 else if y.key=p.key then p::r9 else p::y::r9
def aoo(l:List E2):List E2:=l.foldl (λ(r9:List E2)(p:E2)=>aon p r9) []
def aoy(l:List E2):List E2:=(aoo l).filter λp=>p.val.K3
def aou(b d:List E2):List E2:=aoy (b++d)
def aop(l:List E2)(k:w4):Ba:=l.foldl (λ(v:Ba)(p:E2)=>if p.key=k then p.val else v) X0
theorem aoz{p q:E2}:∀{l:List E2},q∈aon p l->q=p∨q∈l
 |[],a=> .inl (Gs.1 a)
 |y::l,a=>by
  unfold aon at a;split at a
  ·rcases Vk.1 a with e|a
   ·simp[*]
   ·rcases aoz a with e|a<;>grind
  grind
theorem aos{p:E2}:∀{l:List E2},ia l->ia (aon p l)
 |[],_=>List.pairwise_singleton _ _
 |y::l,b=>by
  unfold aon;obtain⟨h,c⟩:=List.pairwise_cons.1 b;split
  ·rename_i d;refine List.pairwise_cons.2 ⟨λq a=>?_,aos c⟩;grind[aoz]
  split
  ·rename_i _ e;refine List.pairwise_cons.2 ⟨λq a=>?_,c⟩;simp_all
  ·rename_i g f;have d:kN p.key<kN y.key:=by have:kN y.key≠kN p.key:=λe=>f (Hx e);omega
   refine List.pairwise_cons.2 ⟨λq a=>?_,b⟩;grind
theorem aov{p:E2}{k:w4}:∀{l:List E2},ia l->(aon p l).find? (J9 k)=if p.key=k then some p else l.find? (J9 k)
 |[],_=>by simp[aon,J9]
 |y::l,b=>by
  unfold aon;obtain⟨g,c⟩:=List.pairwise_cons.1 b;split
  ·rename_i a;rw[ig,ig,aov c];by_cases e:p.key=k
   ·have f:J9 k y=false:=by
     unfold J9;refine Em λd=>?_;rw[e,<-d]at a;omega
    grind
   simp[*]
  split
  ·rename_i _ h;rw[ig,ig];by_cases e:p.key=k
   ·simp_all[J9]
   simp_all[J9]
  ·rw[ig];by_cases e:p.key=k
   ·simp_all[J9]
   simp_all[J9]
theorem aoF(l:List E2):∀r9,ia r9->ia (l.foldl (λ(r9:List E2)(p:E2)=>aon p r9) r9)∧∀k,(l.foldl (λ(r9:List E2)(p:E2)=>aon p r9) r9).find? (J9 k)=(l.reverse.find? (J9 k)).or (r9.find? (J9 k)):=by
 induction l with
 |nil=>simp
 |cons p l b=>
  intro r9 a;rw[Ti];obtain⟨d,c⟩:=b _ (aos (p:=p) a);refine⟨d,λk=>?_⟩;rw[c k,aov a,List.reverse_cons,List.find?_append];cases l.reverse.find? (J9 k)with
  |some q=>simp
  |none=>
   by_cases e:p.key=k
   ·simp[J9,e]
   ·simp[J9,e]
theorem aoB:∀(l:List E2)(v:Ba)(k:w4),ia l->l.foldl (λ(v:Ba)(p:E2)=>if p.key=k then p.val else v) v=match l.find? (J9 k)with
  |some p=>p.val
  |none=>v
 |[],_,_,_=>rfl
 |x::l,v,k,a=>by
  rw[Ti,aoB l _ k a.tail,ig];by_cases e:x.key=k
  ·have:J9 k x=true:=Si e;rw[S1 e,this];grind[ia.wD]
  simp_all[J9]
theorem aot(k:w4):∀l:List E2,Yl k l=match l.find? (J9 k)with
  |some p=>p.val
  |none=>X0
 |[]=>rfl
 |x::l=>by
  unfold Yl;rw[ig];by_cases e:x.key=k
  ·simp_all[J9]
  ·have:J9 k x=false:=Em e;rw[V0 e,this];exact aot k l
theorem aoK{s:E1}{w:I7}{k:w4}(j:∀p∈s.N0,p.val.K3=true)(f:Jj w.I3)(h:∀y∈w.I3,y.2.right=true):aop (aou s.N0 (Z2 w.I3)) k=s.ajR w k:=by
 obtain⟨e,i⟩:=aoF (s.N0++Z2 w.I3) [] List.Pairwise.nil;have g:ia (aou s.N0 (Z2 w.I3)):=ia.filter e _;unfold aop;rw[aoB _ _ _ g];unfold aou aoy aoo;rw[Jn k _ _ e,i k];simp only[List.find?_nil,Option.or_none];rw[List.reverse_append,List.find?_append];unfold E1.ajR Hb;rw[aot];cases d:K0 w.I3 k with
 |some v=>
  have hp:(Z2 w.I3).reverse.find? (J9 k)=some ⟨k,v⟩:=by rw[JT (Og f),Wl,d];rfl
  rw[hp];simp only[Option.some_or];have c:=h _ (Q7 d);have c:v.right=true:=c;unfold Ba.right at c;cases hth:v.K3 with
  |true=>grind
  |false=>rw[hth]at c;simp only[Bool.false_or,decide_eq_true_eq]at c;simp only[Option.filter,hth];obtain⟨a,b⟩:=v;simp only at hth c;rw[hth,c];rfl
 |none=>
  have hp:(Z2 w.I3).reverse.find? (J9 k)=none:=by rw[JT (Og f),Wl,d];rfl
  grind
end
def h00(p:R9)(s R0:Int):I0:=⟨p,R0,0,J2.new p,O6.new p.A0.toNat,⟨p,[],List.replicate 8 0⟩,List.replicate (p.A0.toNat+1) (U2.new s.toNat),List.replicate p.A0.toNat none,none,[]⟩
def Bh(p:R9)(s R0:Int)(i:Nat):I0:=(List.range i).foldl (λ(h:I0)(n:Nat)=>(h.L6 (n:Int)).2) (h00 p s R0)
theorem start_eq(p:R9)(s R0:Int):I0.start p s R0=Bh p s R0 (p.A0.toNat+1):=rfl
theorem vu(p:R9)(s R0:Int)(i:Nat):Bh p s R0 (i+1)=((Bh p s R0 i).L6 (i:Int)).2:=by simp[Bh,List.range_succ]
theorem ox(h:I0)(n:Int):(h.L6 n).2.s7=h.s7∧(h.L6 n).2.O0=h.O0∧(h.L6 n).2.D0=h.D0∧(h.L6 n).2.R0=h.R0∧(h.L6 n).2.M3=h.M3∧(h.L6 n).2.p6=h.p6∧(h.L6 n).2.P2=h.P2∧(h.L6 n).2.C0=h.C0∧(h.L6 n).2.A0.length=h.A0.length:=by unfold I0.L6<;>grind
theorem KO{n j:Nat}(d:j≠n):(h.L6 (n:Int)).2.up (j:Int)=h.up (j:Int):=by
 have c:=(ox h (n:Int)).2.2.1;unfold I0.up;rw[c];by_cases a:(j:Int)=h.D0.A0
 ·rw[S1 a,S1 a];unfold I0.L6<;>grind
 ·rw[V0 a,V0 a];unfold I0.L6;by_cases b:(n:Int)=h.D0.A0
  ·rw[S1 b];split<;>rfl
  ·rw[V0 b];split
   ·rfl
   ·show(List.getD (h.A0.set _ _) _ _).isSome=_;rw[Sd,V0 m4];rfl
theorem yP:gc []=[]:=by unfold gc;simp[J7,D6]
theorem LO{s:Int}(c:h.U4 n=U2.new s.toNat)(hs:1<=s∧s<=128)(e:1<=h.R0∧h.R0<=1000):(h.L6 n).1=0:=by
 have b:=(s6.new (n:=s.toNat) m4 m4).Y9;have a:P6 []=⟨[],[]⟩:=rfl;have g:D8.new h.D0.A0 (h.U4 n)=some ⟨⟨1,1,1⟩,[]⟩:=by unfold D8.new;rw[c,b];simp only;rw[a];rfl
 have d:E1.new h.R0 []=some ⟨[],⟨h.R0,[],[]⟩,[]⟩:=by unfold E1.new;rw[V0 m4,yP];rfl
 have f:d4.new n h.R0 (h.U4 n)=some ⟨n,⟨1,1,1⟩,⟨[],⟨h.R0,[],[]⟩,[]⟩,[]⟩:=by unfold d4.new;rw[c,b];simp only;rw[a];simp only;rw[d];rfl
 grind[I0.L6]
theorem sA:∀{n:Nat}{p:Nat}{d:Int},p<n->d=0∨d=1->K0 (dj n) ⟨(p:Int),d⟩=some (nF p)
 |n+1,p,d,b,a=>by
  rw[<-IL];by_cases e:p=n
  ·subst e;rcases a with rfl|rfl
   ·rw[Y0 Zb3,G1]
   ·rw[G1]
  ·rw[Y0 Zb5,Y0 Zb5];exact sA m4 a
theorem LC{n:Nat}{e:End}{x:Way}(h:K0 (dj n) e=some x):∃p:Nat,p<n∧e.E0=p∧x=nF p:=by have c:=Q7 h;unfold dj at c;obtain⟨i,b,a⟩:=xC.1 c;have b:=aeK.1 b;simp only[List.mem_cons,List.not_mem_nil,or_false]at a;rcases a with a|a<;>injection a with f d<;>exact⟨i,b,by rw[f],d⟩
theorem J2.zD(g:1<=p.A0∧p.A0<=6):KB 0 (J2.new p):=by
 refine⟨⟨g,?_,λe x b=>?_,λq f c=>?_⟩,λe x b=>?_,λe x b=>?_⟩
 ·show((List.range p.A0.toNat).map _++[_]).length=_;rw[j7,H7,yz,Gm];rfl
 ·obtain⟨q,f,c,a⟩:=LC (n:=p.A0.toNat) (e:=e) (x:=x) b;subst a;refine⟨⟨m4,?_⟩,ye _,ye _⟩;show e.E0<p.A0;omega
 ·obtain⟨n,i⟩:∃n:Nat,q=n:=⟨q.toNat,m4⟩;subst i;have c:(n:Int)<p.A0:=c;have a:∀d:Int,d=0∨d=1->(K0 (J2.new p).ways ⟨(n:Int),d⟩).isSome=true:=λd j=>by have:K0 (J2.new p).ways ⟨(n:Int),d⟩=some (nF n):=sA (n:=p.A0.toNat) m4 j;grind
  simp[*]
 ·obtain⟨q,f,c,a⟩:=LC (n:=p.A0.toNat) (e:=e) (x:=x) b;subst a;exact V7 0
 ·obtain⟨q,f,c,a⟩:=LC (n:=p.A0.toNat) (e:=e) (x:=x) b;subst a;exact lm 8
theorem O6.zD{n:Nat}{p:Int}{up:Bool}{l:List P9}(h:K0 (O6.new n).S8 ⟨p,up⟩=some l):l=[]∧0<=p∧p<n:=by have a:=Q7 h;unfold O6.new at a<;>grind
structure aeN(p:R9)(s R0:Int)(i:Nat)(h:I0):Prop where
 hx:HX 0 h
 M6:∀n:Nat,n<=p.A0.toNat->h.U4 (n:Int)=U2.new s.toNat
 O0:h.O0=J2.new p
 D0:h.D0=p
 R0:h.R0=R0
 x9:h.M3=[]
 len:h.A0.length=p.A0.toNat
 Gd:∀n:Nat,i<=n->n<=p.A0.toNat->h.up (n:Int)=false
theorem Zn{p:R9}{s R0:Int}(b:F8 p.A0 p.F0 p.L0)(hs:1<=s∧s<=128):∀i:Nat,i<=p.A0.toNat+1->aeN p s R0 i (Bh p s R0 i)
 |0,_=>by
  have x:=b.A0;refine⟨⟨b,rfl,J2.zD x,λq up l t=>?_,⟨b,ye _,nz⟩,λe u=>(by cases u),λn q d=>?_,λC v=>(by cases v)⟩,λn c=>?_,rfl,rfl,rfl,rfl,nz,λn _ c=>?_⟩
  ·obtain⟨g,f,F⟩:=O6.zD (n:=p.A0.toNat) t;subst g;refine⟨ye _,f,?_⟩;show q<p.A0;omega
  ·have d:(List.replicate p.A0.toNat (none:Option d4)).getD _ none=some q:=d;grind
  ·show(List.replicate _ _).getD _ _=_;grind
  ·unfold I0.up;split
   ·rfl
   ·show((List.replicate p.A0.toNat (none:Option d4)).getD _ none).isSome=_;grind
 |i+1,E=>by
  have a:=Zn b hs (R0:=R0) i m4;rw[vu];obtain⟨D,r,o,m,k,A,z,y,j⟩:=ox (Bh p s R0 i) (i:Int);have w:s6 ((Bh p s R0 i).U4 (i:Int)) ⟨1,1,1⟩ []:=by rw[a.M6 i m4];exact s6.new m4 m4
  refine⟨a.hx.Y9 w,λn c=>?_,r.trans a.O0,o.trans a.D0,m.trans a.R0,k.trans a.x9,j.trans a.len,λn g f=>?_⟩
  ·have:=a.M6 n c;simp_all[I0.U4]
  grind[KO,aeN.Gd]
theorem HH.start{s:Int}(a:F8 p.A0 p.F0 p.L0)(hs:1<=s∧s<=128):HH 0 (I0.start p s R0):=by have b:=Zn (R0:=R0) a hs (p.A0.toNat+1) (V7 _);rw[start_eq];refine⟨HX.hb b.hx ?_ (ye _),yq (by rw[b.x9];rfl)⟩;rw[<-start_eq];exact Inv.begun a.A0 hs
section
theorem ZR(X:U2)(pk N:Nat){ds:List Nat}{n:Nat}(h:ds.length=n+1):∃(q:List S2)(a:Nat),ds=q.map (·.d)++[a]∧q.length=n∧q.map (·.x)=List.replicate n X∧q.map S2.E0=List.replicate n none∧q.map S2.pp=List.replicate n none∧∀(c w:World)(L:List HP),Hp c w (rl (λd=>M1 d X) ds::L)->Hp c w (rl (M4 pk N) q::Lf pk a X none::L):=by
 obtain⟨qs,a,rfl⟩:∃qs a,ds=qs++[a]:=⟨ds.dropLast,ds.getLast (λe=>Zb7),(List.dropLast_concat_getLast _).symm⟩;have b:qs.length=n:=by rw[j7,Gm]at h;omega
 refine⟨qs.map λd=>⟨d,X,none⟩,a,?_,?_,?_,?_,?_,λc w L h=>?_⟩
 ·rw[Ph];congr 1;exact(lE qs).symm
 ·simp[*]
 ·rw[Ph,<-b];exact UK
 ·rw[Ph,<-b];exact UK
 ·rw[Ph,<-b];exact UK
 ·have f:Hp c w ((qs++[a]).map (λd=>M1 d X)++L):=h.R6;rw[ic,N']at f;have e:qs.map (λd=>M1 d X)=(qs.map λd=>(⟨d,X,none⟩:S2)).map (M4 pk N):=by rw[Ph];rfl
  rw[e]at f;exact Hp.C3 f
theorem Hp.tM{a:Type}{f:a->HP}{x:a}(b:∀L,Hp c w L->Hp c w (f x::L)){L:List HP}(h:Hp c w L):∀n:Nat,Hp c w (rl f (List.replicate n x)::L)
 |0=>h.eS
 |n+1=>by
  rw[List.replicate_succ']
  exact Hp.sM (b _ (Hp.tM b h n))
theorem ale{s:Int}(h:Hp c w R)(T:ng c)(l:F8 p.A0 p.F0 p.L0)(hs:1<=s∧s<=128)(G:1<=R0∧R0<=1000):Cs 49 #[Fp p.A0 p.F0 p.L0,I s,I R0] w (λe w'=>∃b,e= .returned (.tuple #[Pt b,I 0])∧Hp c w' (G3 b 0 (I0.start p s R0)::R)):=by
 have D:=l.A0;obtain⟨A0,F0,L0⟩:=p;simp only at D l⊢;obtain⟨n,rfl⟩:∃n:Nat,A0=n:=⟨A0.toNat,m4⟩;refine R2 func49 O (I2 h O λb1 w h=>O4 h 0 O O (He (akU (p:=⟨_,_,_⟩) h Zb9 Zb9) λb2 w h=>m5 (O4 h 1 O O (I2 h O λk w h=>U0 h 2 O O (He (akT h Zb9) λv w h=>J3 h 1 O O O λw h=>O4 h 3 O O (He (akS (p:=⟨_,_,_⟩) h Zb9) λb5 w h=>?_))))));refine J3 h 2 O O O λw h=>U0 h 4 O O (A4.mks (E:=Pg) (e:=61) (none:Option Nat) (Ca.of (w9:=8) kn O O O O O O) O h O O m4 Zb4 Zb4 λt w h=>J3 h 3 O O O λw h=>U0 h 5 O O (A4.mks (E:=jl) (e:=215) (⟨none,0,[]⟩:sh) (Ca.of (w9:=24) kn O O O O O O) O h O O m4 Zb4 Zb4 λr w h=>J3 h 4 O O O λw h=>U0 h 6 O O (i5 ?_)));replace h:=h.G4 99 am;replace h:=h.eS (f:=λd=>M1 d (U2.new s.toNat));refine p5.A6 kn [1,3,10,59,60] (λm vs w'=>∃(i:Nat)(ds:List Nat)(a:Option Addr)(cap:Nat),vs=[I s,Pt b1,Pt k,I ((n:Int)+1),I i]∧(i+m=n+1∧ds.length=i)∧Hp c w' (rl (λd=>M1 d (U2.new s.toNat)) ds::so 99 am a cap ds::bk k [I (n:Int),I F0,I L0,I R0,I 0,Pt b2,Pt v,Pt b5,.slice a ds.length cap,.slice (some ⟨t,0,none⟩) n n,.pointer none,.slice none 0 0,.slice (some ⟨r,0,none⟩) n n] 90::bk b1 [I (n:Int),I F0,I L0] 84::so 215 jl (some ⟨r,0,none⟩) n (List.replicate n ⟨none,0,[]⟩)::so 61 Pg (some ⟨t,0,none⟩) n (List.replicate n none)::z6 b5 ⟨⟨n,F0,L0⟩,[],List.replicate 8 0⟩::x5 v (O6.new n)::K1 b2 (J2.new ⟨n,F0,L0⟩)::R)) (n+1) ⟨0,[],none,0,rfl,Zb3,h.g [0,1,6,8] O⟩ ?_;rintro m _ w1 X ⟨i,ds,a,cap,rfl,⟨J,y⟩,h⟩;refine BR.T5 (λo=>?_) λo=>?_
 ·refine He (akR h m4) λC w h=>m5 (U0 h 3 O O (I2 h O λY w h=>A4.Yb (u:=_) (Ca.of (w9:=8) kn O O O O O O) h 3 O O 0 O O O m4 (λ_ _=>rfl) λa1 M w h=>J3 h 4 O O O λw h=>i5 ?_));replace h:=Hp.sM (f:=λd=>M1 d (U2.new s.toNat)) (x:=C) (h.q 11 [1,2,3,4,5,6,7,8,9,10] O);exact⟨m-1,m4,i+1,ds++[C],a1,M,rfl,⟨m4,Zb6⟩,h⟩
 ·refine U0 h 3 O O (i5 ?_);have N:i=n+1:=m4
  rw[N]at y;obtain⟨q,K,rfl,H,S,hpa,alT,Q⟩:=ZR (U2.new s.toNat) b2 0 y;replace h:=Q _ _ _ h;rw[<-alT]at h;have F:(q.map S2.pp).length=n:=by rw[H7];exact H
  replace h:=Hp.tM (f:=sh.mem 0) (x:=⟨none,0,[]⟩) (λL h=>Hp.C3 (A:=[so 214 cN none 0 [],d6 (([]:List SG).length<=0)]) ((Hp.T' (V7 0) (h.G4 214 cN)).g [1] O)) h n;replace h:=h.G4 42 I9;replace h:Hp c w1 (G3 k 0 (Bh ⟨n,F0,L0⟩ s R0 0)::bk b1 [I (n:Int),I F0,I L0] 84::R):=by
   refine Hp.F1 (s:=⟨⟨n,F0,L0⟩,R0,0,J2.new ⟨n,F0,L0⟩,O6.new n,⟨⟨n,F0,L0⟩,[],List.replicate 8 0⟩,q,K,U2.new s.toNat,none,[]⟩) (g:=⟨b2,v,b5,a,cap,some ⟨t,0,none⟩,n,none,0,some ⟨r,0,none⟩,n,List.replicate n ⟨none,0,[]⟩⟩) ?_ Zb1 Zb6 ((h.g [5,11,10,9,4,8,0,7] O).subst ?_)
   ·simp_all[Bh,HS.J1,h00,List.replicate_succ']
   ·simp only[O9,F,List.length_replicate];rfl
  refine p5.A6 kn [3,10,83,84] (λm vs w'=>∃i:Nat,vs=[Pt b1,Pt k,I ((n:Int)+1),I i]∧i+m=n+1∧Hp c w' (G3 k 0 (Bh ⟨n,F0,L0⟩ s R0 i)::bk b1 [I (n:Int),I F0,I L0] 84::R)) (n+1) ⟨0,rfl,m4,h⟩ ?_;rintro m _ w1 V ⟨i,rfl,J,h⟩;refine BR.T5 (λo=>?_) λo=>?_
  ·have j:=Zn (p:=⟨n,F0,L0⟩) (s:=s) (R0:=R0) l hs i Zb1;have hop:=LO (h:=Bh ⟨n,F0,L0⟩ s R0 i) (n:=(i:Int)) (j.M6 i Zb1) hs (by rw[j.R0];exact G);have z:=λ(w:World)(R:List HP)(h:Hp c w (G3 k 0 (Bh ⟨n,F0,L0⟩ s R0 i)::R))=>afo (n:=(i:Int)) h (by grind[aeN.D0]) (by rw[j.D0];exact D) (by rw[j.O0,j.D0];rfl) ⟨_,_,by rw[j.M6 i Zb1];exact s6.new m4 m4⟩ (j.Gd i (V7 i) Zb1);rw[hop,<-vu]at z;refine N1 (z _ _ h) λw h=>m5 (i5 ⟨(m-1),?_,_,rfl,?_,h⟩)
   ·omega
   ·grind[]
  ·refine⟨_,rfl,Hp.subst (h.q 2 [0] O) ?_⟩;have amj:i=n+1:=m4
   rw[amj];rfl
end
theorem aau{P:Prop}(h:P:=by
 refine jd h 1 O λb1 o1 U9=>LD.qf h 1 O Zb9 Zb9 O (N1 (IR (h.g [2] O)) λw h=>pg ((h.g [3] O).d5) λC7 E7 D5 D7 h=>N1 (Mp h) λw h=>N1 (aho (h.g [4] O)) λw h=>N1 (yj (h.g [2] O)) λw h=>BR.ne (λg3=>?_) λg3=>?_)
 ·refine i5 (I2 h O λb2 w h=>A4.Yb (u:=_) (Ca.of (w9:=8) kn O O O O O O) h 6 O O 0 O O O m4 (λ_ _=>rfl) λa1 V1 w h=>i5 ?_);replace h:Hp _ _ (K1 _ (s.O0)::_):=Hp.F3 (h.g [3,1,4,5] O);refine⟨(m-1),?_,_,_,_,vs6 O O (V4 (λn=>Value.slice _ n _) ?_) O O O,?_,Hp.subst (h.q 14 [3,4,2,0,5,6,7,8,9,10,11,12,13] O) ?_⟩
  ·omega
  ·grind[]
  ·grind[]
  ·grind[]
 ·refine WR.vp (i64 Zb1) (I2 h O λb2 w h=>A4.Yb (u:=_) (Ca.of (w9:=8) kn O O O O O O) h 6 O O 0 O O O m4 (λ_ _=>rfl) λa1 V1 w h=>i5 ?_);replace h:Hp _ _ (K1 _ (s.O0)::_):=Hp.F3 (h.g [3,1,4,5] O);refine⟨(m-1),?_,_,_,_,vs6 O O (V4 (λn=>Value.slice _ n _) ?_) O O O,?_,Hp.subst (h.q 14 [3,4,2,0,5,6,7,8,9,10,11,12,13] O) ?_⟩
  ·omega
  ·grind[]
  ·grind[]
  ·grind[]):P:=h
section
theorem adb{s:Int}(h:Hp c w R)(f:ng c)(d:F8 p.A0 p.F0 p.L0)(hs:1<=s∧s<=128)(a:1<=R0∧R0<=1000):Cs 12 #[.agg #[I p.A0,I p.F0,I p.L0,I s,I R0]] w (λe w'=>∃b,e= .returned (Pt b)∧Hp c w' (G3 b 0 (I0.start p s R0)::R)):=by exact R2 func12 O (I2 h O λb1 w h=>U0 h 0 O O (U0 h 0 O O (U0 h 0 O O (U0 h 0 O O (U0 h 0 O O (He (ale h Zb9 Zb9 Zb9 Zb9) λb2 w h=>m5 ⟨_,rfl,h.q 2 [0] O⟩))))))
def br(h:I0)(E0:Int)(i:Nat):List Int:=((h.P2.De E0).take i).map λ(tx:Int)=>
 let v:=h.O0.R4.o9 tx E0 h.C0
 if v.2=0 then v.1+1 else 0
theorem LJ{E0:Int}(hx:i3 (h.P2.De E0) i=some tx):br h E0 (i+1)=br h E0 i++[if(h.O0.R4.o9 tx E0 h.C0).2=0 then(h.O0.R4.o9 tx E0 h.C0).1+1 else 0]:=by unfold br;rw[O7 hx,ic];rfl
theorem lW(h:I0)(E0:Int):Dg h E0=br h E0 (h.P2.De E0).length:=by unfold br Dg<;>grind
theorem aK(d:E9)(p:Int):(d.De p).length<=d.P0.length:=by unfold E9.De;rw[H7];refine j9 (Rh _ _) ?_;simp
theorem AT{g:M9}{p C0:Int}:0<=(g.o9 tx p C0).1∧(g.o9 tx p C0).1<=1:=by grind[M9.o9]
theorem alo{E0:Int}(h:Hp c w (G3 b N h0::R))(C:HH N h0):Cs 32 #[Pt b,I E0] w (λe w'=>∃a cap,e= .returned (.slice a (Dg h0 E0).length cap)∧Hp c w' (so 3 O5 a cap (Dg h0 E0)::G3 b N h0::R)):=by
 have amp:=C.hb.P2.l;have K:=aK h0.P2 E0;obtain⟨s,g,j,A,H,h⟩:=h.C4;have o:s.P2=h0.P2:=by rw[j];rfl
 have hIn:=λ(w:World)(R:List HP)(h:Hp c w (z6 g.pd s.P2::R))=>ala (p:=E0) h Zb7;rw[o]at hIn;rw[o]at h;refine R2 func32 O (N1 (ZV h) λw h=>ga (hIn _ _ (h.g [3] O)) λy x w h=>?_);obtain⟨n,L⟩:∃n,(h0.P2.De E0).length=n:=⟨_,rfl⟩;replace h:=h.G4 3 O5;have G:s.O0=h0.O0:=by rw[j];rfl
 have F:s.C0=h0.C0:=by rw[j];rfl
 refine p5.A6 kn [0,1,5,13,14,15] (λm vs w'=>∃(i:Nat)(a:Option Addr)(cap:Nat),vs=[Pt b,I E0,.slice a (br h0 E0 i).length cap,.slice y (h0.P2.De E0).length x,I (h0.P2.De E0).length,I i]∧i+m=n∧Hp c w' (so 3 O5 a cap (br h0 E0 i)::so 3 O5 y x (h0.P2.De E0)::bk b (O9 s g) 90::K1 g.pk s.O0::z6 g.pd h0.P2::x5 g.pl s.p6::so 99 am g.ad g.cd (s.q.map (·.d)++[s.dc])::so 61 Pg g.ap g.cp (s.q.map S2.pp)::so 42 I9 g.ar g.cr s.M3::so 215 jl g.B6 g.cs g.sl::rl (sh.mem N) g.sl::rl (M4 g.pk N) s.q::Lf g.pk s.dc s.xc s.oc::R)) n ⟨0,none,0,rfl,m4,h.g [0,1,3,4] O⟩ ?_;rintro m _ w1 Q ⟨i,a,cap,rfl,M,h⟩;have S:(br h0 E0 i).length<=64:=by unfold br;rw[H7];have:=yE i (h0.P2.De E0);have:=List.length_take_le' i (h0.P2.De E0);omega
 refine BR.T5 (λD=>?_) λD=>?_
 ·obtain⟨tx,z⟩:∃tx,i3 (h0.P2.De E0) i=some tx:=⟨_,by rw[Z0];exact d8 m4⟩;have f:=LJ z;have hgl:=AT (g:=s.O0.R4) (tx:=tx) (p:=E0) (C0:=s.C0);obtain⟨⟨v,E⟩,k⟩:∃V,s.O0.R4.o9 tx E0 s.C0=V:=⟨_,rfl⟩;rw[<-G,<-F,k]at f;rw[k]at hgl;simp only at f hgl;have r:=λ(w:World)(b:Nat)(R:List HP)(h:Hp c w (Ma b s.O0.R4::R))=>yj (tx:=tx) (p:=E0) (C0:=s.C0) h;rw[k]at r;simp only at r;by_cases t:E=0
  ·rw[S1 t]at f;exact aau
  ·rw[V0 t]at f;exact aau
 ·have J:i=(h0.P2.De E0).length:=m4
  subst J;rw[<-lW]at h⊢;exact⟨a,cap,rfl,(Hp.F1 (h0:=h0) (s:=s) (g:=g) j A H (by rw[o];exact h.q 13 [2,3,5,4,6,7,8,9,10,11,12,0] O)).g [1] O⟩
theorem agH{xs ys:List Int}{a1 a2:Option Addr}{c1 c2:Nat}(h:Hp c w (so 3 O5 a1 c1 xs::so 3 O5 a2 c2 ys::R))(a:xs.length<=1000000):Cr 31 #[.slice a1 xs.length c1,.slice a2 ys.length c2] w c (.bool (decide (xs=ys))) (so 3 O5 a1 c1 xs::so 3 O5 a2 c2 ys::R):=by
 refine R2 func31 O (BR.ne (λf=>?_) λf=>?_)
 ·refine⟨A8 O ?_,h⟩;grind[]
 ·have j:xs.length=ys.length:=m4
  refine p5.A6 kn [0,1,5] (λm vs w'=>∃i:Nat,vs=[.slice a1 xs.length c1,.slice a2 ys.length c2,I i]∧i+m=xs.length∧xs.take i=ys.take i∧Hp c w' (so 3 O5 a1 c1 xs::so 3 O5 a2 c2 ys::R)) xs.length ⟨0,rfl,m4,rfl,h⟩ ?_;rintro m _ w1 p ⟨i,rfl,o,g,h⟩;refine BR.T5 (λe=>?_) λe=>?_
  ·obtain⟨x,a⟩:∃x,i3 xs i=some x:=⟨_,by rw[Z0];exact d8 m4⟩;obtain⟨y,b⟩:∃y,i3 ys i=some y:=⟨_,by rw[Z0];exact d8 m4⟩;have tx:=O7 a;have ty:=O7 b;refine sv [0,1,2,4,5,6,3,7,8] ?_;replace h:=h.drew;refine jd h 0 O λb1 n q=>jd h 1 O λb2 l r=>LD.qf h 0 O Zb9 Zb9 O (LD.qf h 1 O Zb9 Zb9 O (BR.ne (λd=>?_) λd=>?_))
   ·refine⟨A8 O ?_,h⟩;grind[]
   ·exact i5 ⟨m-1,m4,i+1,rfl,m4,Zb6,h⟩
  ·have k:i=xs.length:=m4
   subst k;rw[jg,j,jg]at g;refine⟨A8 O ?_,h⟩;grind
end
theorem rU{P:Prop}(h:P:=by rintro m _ w1 e0 ⟨rfl,h⟩;exact m5 (U0 h 0 O O (m5 (m5 ⟨rfl,h.q 1 [] O⟩)))):P:=h
abbrev rm:List Value:=[I 6,I 0,I 0,I 0,I 0,I 0,I 0,.int .u16 0,.bool false,.bool false,I 0,I 0,.int .u8 0,.int .u8 0,.int .u8 0,.int .u8 0,I 0]
section
theorem afr(h:Hp c w R):Cs 64 #[] w (λe w'=>∃b,e= .returned (.slice (some ⟨b,0,none⟩) 13 13)∧Hp c w' (bk b [.string "".toUTF8,.string "begin".toUTF8,.string "op".toUTF8,.string "want".toUTF8,.string "status".toUTF8,.string "run".toUTF8,.string "tick".toUTF8,.string "carry".toUTF8,.string "drop".toUTF8,.string "crash".toUTF8,.string "halt".toUTF8,.string "start".toUTF8,.string "checkpoint".toUTF8] 9::R)):=by exact R2 func64 O (I2 h O λb1 w h=>⟨_,rfl,h⟩)
theorem akN{l:Nat}(h:Hp c w R):Cr 95 #[I n,.slice a l cap] w c (.bool (decide (n>0∧n<l))) R:=by
 refine R2 func95 O (BR.T5 (λb=>?_) λb=>?_)
 ·refine⟨A8 O ?_,h⟩;grind[]
 ·refine⟨A8 O ?_,h⟩;grind[]
theorem mO(h:Hp c w (bk b rm 47::R)):Cr 65 #[Pt b] w c (.slice none 0 0) (bk b rm 47::R):=by exact R2 func65 O (U0 h 0 O O (m5 (m5 (m5 (m5 (m5 (m5 (m5 (m5 (m5 ⟨rfl,h⟩))))))))))
set_option maxHeartbeats 1000000 in
theorem acQ(h:Hp c w R):Cr 96 #[.agg rm.toArray] w c (.agg rm.toArray) R:=by refine R2 func96 O (I2 h O λb1 w h=>I2 h O λb2 w h=>U0 h 1 O O (I2 h O λa w h=>J3 h 0 O O O λw h=>N1 (mO h) λw h=>N1 (mO (h.g [2] O)) λw h=>p5.A6 kn [1,2,3,12,13] (λm vs w'=>vs=[Pt b1,Pt b2,Pt a,I 0,I 0]∧Hp c w' (bk b1 rm 47::bk a rm 47::bk b2 [I 0,I 0,I 0,I 0,I 0,I 0,I 0,.int .u16 0,.bool false,.bool false,I 0,I 0,.int .u8 0,.int .u8 0,.int .u8 0,.int .u8 0,I 0] 47::R)) 0 ⟨rfl,h⟩ ?_));rintro m _ w1 b ⟨rfl,h⟩;exact m5 (U0 h 0 O O (m5 (m5 (m5 (m5 (O4 h 1 O O (J3 h 2 O O O λw h=>O4 h 2 O O ⟨rfl,h.q 3 [] O⟩)))))))
set_option maxHeartbeats 1000000 in
theorem akZ(h:Hp c w R):Cr 63 #[.agg rm.toArray] w c (.bool true) R:=by
 refine R2 func63 O (I2 h O λb1 w h=>Bs h (qs [0,1] (ws [2] (vs [3] (qs [4,5] (.v2 6 (.v2 7 (vs [8] (qs [9,10] .done)) 8 (vs [7] (qs [9,10] .done))) 8 (vs [6,7] (qs [9,10] .done))))))) λh=>U3 0 O O (He (afr h) λb2 w h=>⟨h.q 2 [1] O,N1 (akN h) λw h=>⟨?_,?_⟩⟩))
 ·refine m5 (O4 h 1 O O ⟨?_,?_⟩)
  ·refine N1 (acQ h) λw h=>O4 h 1 O O (RD.xV Zb2 Zb2 O O (m5 (N1 (mO (h.g [1] O)) λw h=>p5.A6 kn [1,17,18] (λm vs w'=>vs=[Pt b1,I 0,I 0]∧Hp c w' (bk b1 rm 47::R)) 0 ⟨rfl,h.q 2 [0] O⟩ ?_)));exact rU
  ·refine O4 h 1 O O (N1 (acQ h) λw h=>RD.xV Zb2 Zb2 O O (m5 (N1 (mO (h.g [1] O)) λw h=>p5.A6 kn [1,17,18] (λm vs w'=>vs=[Pt b1,I 0,I 0]∧Hp c w' (bk b1 rm 47::R)) 0 ⟨rfl,h.q 2 [0] O⟩ ?_)));exact rU
 ·refine m5 (O4 h 1 O O (O4 h 1 O O (N1 (acQ h) λw h=>RD.xV Zb2 Zb2 O O (m5 (N1 (mO (h.g [1] O)) λw h=>p5.A6 kn [1,17,18] (λm vs w'=>vs=[Pt b1,I 0,I 0]∧Hp c w' (bk b1 rm 47::R)) 0 ⟨rfl,h.q 2 [0] O⟩ ?_)))));exact rU
theorem akY(h:Hp c w (bk b [.string "tick".toUTF8] 9::R)):Cr 70 #[.slice (some ⟨b,0,none⟩) 1 1,.string " ".toUTF8] w c (.string "tick".toUTF8) (bk b [.string "tick".toUTF8] 9::R):=by exact R2 func70 O (m5 (Q5 (Jc.mk ⟨_,rfl,m4,m4,U0 h 0 O O ⟨rfl,h⟩⟩)))
theorem aln(h:Hp c w R):Cr 33 #[.agg rm.toArray] w c (.string "tick".toUTF8) R:=by refine R2 func33 O (I2 h O λb1 w h=>O4 h 0 O O (N1 (akZ h) λw h=>m5 (Y6 h [1,2,50,3,54,105,6] λh=>U3 0 O O (He (afr h) λb2 w h=>⟨h.q 2 [1] O,Jc.mk ⟨_,rfl,m4,m4,U0 h 0 O O ⟨h.q 2 [1] O,?_⟩⟩⟩))));refine I2 h O λa w h=>N1 (mO (h.g [2] O)) λw h=>p5.A6 kn [1,3,16,17] (λm vs w'=>vs=[Pt b1,.slice (some ⟨a,0,none⟩) 1 1,I 0,I 0]∧Hp c w' (bk b1 rm 47::bk a [.string "tick".toUTF8] 9::R)) 0 ⟨rfl,h.q 3 [0,1] O⟩ ?_;rintro m _ w1 b ⟨rfl,h⟩;exact m5 (U0 h 0 O O (m5 (m5 (m5 (m5 (U0 h 0 O O (m5 (N1 (akY (h.g [1] O)) λw h=>⟨rfl,h.q 2 [] O⟩))))))))
end
theorem HS.iO{pk:Nat}{s:HS}{p:d4}(e:s.J1.G5 (i:Int)=some p)(h:Hp c w (rl (M4 pk N) s.q::L)):∃(pp b:Nat)(D C v u t:Value)(K:HP),i3 (s.q.map S2.pp) i=some (some pp)∧Hp c w (bk pp [D,C,v,Pt b,u,t] 162::T2 b p.U1::K::L)∧∀(w':World)(L':List HP),Hp c w' (bk pp [D,C,v,Pt b,u,t] 162::T2 b p.U1::K::L')->Hp c w' (rl (M4 pk N) s.q::L'):=by
 obtain⟨X,R0,C0,k,S,T,q,V,P,R,Q⟩:=s;simp only at h⊢;have e:(q.map S2.E0).getD (i:Int).toNat none=some p:=e;rw[kg,Xo,We]at e;cases n:q[i]? with
 |none=>simp_all
 |some y=>
  rw[n]at e;obtain⟨d,x,o⟩:=y;cases o with
  |none=>cases e
  |some z=>
   obtain⟨pp,a⟩:=z;injection e with e
   have e:a=p:=e;subst e;have E:i3 q i=some ⟨d,x,some (pp,a)⟩:=by rw[Z0];exact n
   have M:Hp c w (M4 pk N ⟨d,x,some (pp,a)⟩::rl (M4 pk N) (i6 q i)::L):=h.rf E;have J:Hp c w (M1 d x::B7 pk d N pp a::rl (M4 pk N) (i6 q i)::L):=Hp.R6 (A:=[M1 d x,B7 pk d N pp a]) M;obtain⟨j,b,m,l,f,Hd,H⟩:=(J.g [1] rfl).Lg;refine⟨pp,b,Pt pk,I a.me,Pt j,.map (some m),.slice l Hd.length f,C5 [J5 d j a.X9,mr I r5 m a.B0,so 55 j8 l f Hd,d6 (Hd.length<=N),M1 d x,rl (M4 pk N) (i6 q i)],?_,?_,λw' L' h=>?_⟩
   ·rw[Z0,We,n];rfl
   ·have r:Hp c w (C5 [J5 d j a.X9,mr I r5 m a.B0,so 55 j8 l f Hd,d6 (Hd.length<=N),M1 d x,rl (M4 pk N) (i6 q i)]::bk pp [Pt pk,I a.me,Pt j,Pt b,.map (some m),.slice l Hd.length f] 162::T2 b a.U1::L):=Hp.C3 (A:=[J5 d j a.X9,mr I r5 m a.B0,so 55 j8 l f Hd,d6 (Hd.length<=N),M1 d x,rl (M4 pk N) (i6 q i)]) (H.g [1,3,4,5,6,7] O);exact r.g [1,2] O
   ·have r:Hp c w' (J5 d j a.X9::mr I r5 m a.B0::so 55 j8 l f Hd::d6 (Hd.length<=N)::M1 d x::rl (M4 pk N) (i6 q i)::bk pp [Pt pk,I a.me,Pt j,Pt b,.map (some m),.slice l Hd.length f] 162::T2 b a.U1::L'):=Hp.R6 (A:=[J5 d j a.X9,mr I r5 m a.B0,so 55 j8 l f Hd,d6 (Hd.length<=N),M1 d x,rl (M4 pk N) (i6 q i)]) (h.g [2] O);have G:Hp c w' (B7 pk d N pp a::M1 d x::rl (M4 pk N) (i6 q i)::L'):=Hp.yf (r.g [6,0,7] O);have F:Hp c w' (M4 pk N ⟨d,x,some (pp,a)⟩::rl (M4 pk N) (i6 q i)::L'):=Hp.C3 (A:=[M1 d x,B7 pk d N pp a]) (G.g [1] O);exact F.ij E
def evA:Ev:={tH with W0:=1,J0:=1#16}
def evB:Ev:={tH with W0:=2,op:=⟨2,0,Y3,5⟩}
def evC:Ev:={tH with W0:=3}
theorem mI:∃(a g f e b:I0)(r:Wk)(p:d4),I0.start ⟨1,1,3⟩ 32 5=a∧(a.da evA).2=g∧g.da evB=(r,f)∧(f.da evC).2=e∧e.X8 6=b∧r.Ge=0∧r.tx=1∧b.G5 0=some p∧p.U1.N0.length=1∧T7 b=[1]∧Dg b 0=[2]:=by
 have h:=nI;unfold nU at h;obtain⟨⟨b,r⟩,c⟩:∃z,iE=z:=⟨_,rfl⟩;rw[c]at h;simp only at h;unfold iE at c;injection c with hA1 hA2
 cases hp:b.G5 0 with
 |none=>simp_all
 |some p=>rw[hp]at h;simp only[Bool.and_eq_true,decide_eq_true_eq]at h;obtain⟨⟨⟨⟨m,l⟩,k⟩,j⟩,i⟩:=h;obtain⟨a,d⟩:∃a,I0.start ⟨1,1,3⟩ 32 5=a:=⟨_,rfl⟩;rw[d]at hA1 hA2;exact⟨a,(a.da evA).2,((a.da evA).2.da evB).2,(((a.da evA).2.da evB).2.da evC).2,b,r,p,d,rfl,Prod.ext hA2 O,rfl,hA1,m,l,hp,k,j,i⟩
theorem aaA{P:Prop}(h:P:=by
 rw[<-e5]at h;refine N1 (bD (ev:=aaf) h k1 hl m4 xm) λw h=>?_;replace h:Hp c _ (G3 b (M+4) (set2 H)::R):=h;obtain⟨s2,g2',e6,Ox,Yz,h⟩:=h.C4;obtain⟨j0,j1,j2⟩:=k3.len;have Mm:(s2.q.map S2.pp).length=(set2 H).A0.length:=by rw[e6];simp[HS.J1]
 refine U0 h 0 O O ?_;replace h:=Hp.F1 (h0:=set2 H) (s:=s2) (g:=g2') e6 Ox Yz h;refine p5.A6 kn [0,21,22,52,53] (λm vs w'=>∃j:Nat,vs=[Pt b,I (r*(s.D0.A0+1)),I i,I (s2.q.map S2.pp).length,I j]∧j+m=(s2.q.map S2.pp).length∧Hp c w' (G3 b (M+4+64*j) (set3 H j)::R)) (s2.q.map S2.pp).length ⟨0,rfl,m4,h⟩ ?_;rintro m2 _ w1 e7 ⟨j,rfl,II,h⟩;obtain⟨q1,q2⟩:=hi.set3 j m4;refine BR.T5 (λg3=>?_) λg3=>?_
 ·obtain⟨q3,q4⟩:=q1.all m4 (j:Int) true;refine N1 (agh (p:=(j:Int)) (up:=true) h q1 hl m4) λw h=>N1 (agh (p:=(j:Int)) (up:=false) h q3 hl m4) λw h=>?_;rw[<-SA]at h;exact i5 ⟨m2-1,m4,j+1,rfl,m4,h⟩
 ·have hjn:j=(set2 H).A0.length:=m4
  subst hjn;refine N1 (bD (ev:=OT) h q1 hl m4 xm) λw h=>?_;have e8:H.yd=Zi I0.yd (i+1) h0:=by rw[qo,hH]
  rw[<-Gw,e8]at h;exact i5 ⟨m-1,m4,i+1,rfl,m4,Hp.se m4 h⟩):P:=h
section
theorem agh{p:Int}{up:Bool}(h:Hp c w (G3 b N h0::R))(f:HH N h0)(t:ng c)(A:N+32<=900000):Cr 38 #[Pt b,I p,.bool up] w c (.tuple #[]) (G3 b (N+32) (h0.all p up)::R):=by
 have o:=eE f p up;have amt:∀l,K0 h0.p6.S8 ⟨p,up⟩=some l->l.length<=16:=λl e=>(f.hb.S8 p up l e).1;obtain⟨n,d⟩:∃n,(h0.p6.Ot p up).length=n:=⟨_,rfl⟩;rw[mU,d];rw[d]at o;obtain⟨s,g,k,r,x,h⟩:=h.C4;have j:s.p6=h0.p6:=by rw[k];rfl
 rw[j]at h;refine R2 func38 O (U0 h 0 O O (ga (ada (p:=p) (up:=up) (h.g [2] O) amt) λa cap w h=>?_));rw[d];replace h:=Hp.F1 (h0:=h0) (s:=s) (g:=g) k r x (by rw[j];exact h.q 12 [2,3,1,4,5,6,7,8,9,10,11] O);refine p5.A6 kn [0,1,2,13,14] (λm vs w'=>∃i:Nat,vs=[Pt b,I p,.bool up,I n,I i]∧i+m=n∧Hp c w' (G3 b (N+2*i) (carryN p up i h0)::R)) n ⟨0,rfl,m4,h⟩ ?_;rintro m _ w1 C ⟨i,rfl,z,h⟩;obtain⟨u,_⟩:=f.carryN p up i m4;refine BR.T5 (λv=>?_) λv=>?_
 ·refine N1 (bD (ev:=WD p up) h u t m4 xm) λw h=>?_;rw[<-jv]at h;exact i5 ⟨m-1,m4,i+1,rfl,m4,h⟩
 ·have y:i=n:=m4
  subst y;exact⟨rfl,Hp.se m4 h⟩
theorem sp9{r:Int}(h:Hp c w (G3 b N h0::R))(o:HH N h0)(hl:ng c)(Y:0<=r∧r<=100)(hN:N+400*700<=900000):Cr 9 #[Pt b,I r] w c (.tuple #[]) (G3 b (N+400*(r*(h0.D0.A0+1)).toNat) (h0.X8 r)::R):=by
 obtain⟨hl0,S,T⟩:=o.len;obtain⟨n,f⟩:∃n:Nat,r*(h0.D0.A0+1)=n:=⟨(r*(h0.D0.A0+1)).toNat,(Int.toNat_of_nonneg (Int.mul_nonneg m4 m4)).symm⟩;have hn7:n<=700:=by have:r*(h0.D0.A0+1)<=100*7:=TK m4 m4 m4 m4;omega
 have E:h0.X8 r=Zi I0.yd n h0:=by unfold I0.X8;rw[f];rfl
 rw[E,f];obtain⟨s,g,u,A,J,h⟩:=h.C4;have F:s.D0=h0.D0:=by rw[u];rfl
 refine R2 func9 O (Te (Te (U0 h 0 O O (WR.vp (i64 Zb1) (WR.vp (i64 Zb1) ?_)))));have NW:r*(s.D0.A0+1)=n:=by rw[F];exact f
 replace h:=Hp.F1 (h0:=h0) (s:=s) (g:=g) u A J h;refine p5.A6 kn [0,21,22] (λm vs w'=>∃i:Nat,vs=[Pt b,I (r*(s.D0.A0+1)),I i]∧i+m=n∧Hp c w' (G3 b (N+400*i) (Zi I0.yd i h0)::R)) n ⟨0,rfl,m4,h⟩ ?_;rintro m _ w1 e2 ⟨i,rfl,Z,h⟩;obtain⟨hi,hip⟩:=o.Mg i m4;refine BR.T5 (λD=>?_) λD=>?_
 ·obtain⟨M,C⟩:∃M,N+400*i=M:=⟨_,rfl⟩;obtain⟨H,hH⟩:∃H,Zi I0.yd i h0=H:=⟨_,rfl⟩;rw[C,hH]at h hi;rw[hH]at hip;have hM2:M+400<=900000:=m4
  obtain⟨hL0,hL1,hL2⟩:=hi.len;obtain⟨z,e⟩:∃z,H.D0.K6 H.C0=z:=⟨_,rfl⟩;have x:=Zg (p:=H.D0) (t:=H.C0) m4 hi.hb.A6.C0;rw[e]at x;obtain⟨a,Q,l,hq1,G,h⟩:=h.C4;have K:ce a.D0.A0 a.C0=z:=by rw[<-e,l];rfl
  have Ms:a.D0.A0=H.D0.A0:=by rw[l];rfl
  have y:=λ(w:World)(R:List HP)(h:Hp c w R)=>HF (p:=a.D0.A0) (wd:=a.D0.F0) (d:=a.D0.L0) (t:=a.C0) h m4;rw[K]at y;have amw:=λ(w:World)(R:List HP)(h:Hp c w (G3 b M H::R))=>ED (n:=z) h x;obtain⟨k1,X⟩:=hi.set1 m4;obtain⟨k3,V⟩:=hi.set2 m4;refine Y6 h [0,1,2,4,5,6,3,57,108,9] λh=>xg 0 O O (U0 h 0 O O ⟨h,N1 (y _ _ h) λw h=>?_⟩);replace h:=Hp.F1 (h0:=H) (s:=a) (g:=Q) l hq1 G h;refine He (amw _ _ h) λv w h=>BR.not (BR.O' (λk=>?_) λk=>?_)
  ·have e5:set1 H=H:=by unfold set1;rw[e,k];rfl
   replace h:=Hp.se (M:=M+2) m4 h;exact aaA
  ·have e5:set1 H=(H.da (VD z)).2:=by unfold set1;rw[e,k];rfl
   refine N1 (bD (ev:=VD z) h hi hl m4 xm) λw h=>?_;exact aaA
 ·have L:i=n:=m4
  subst L;exact⟨rfl,h⟩
end
theorem RD.akL{C:World->Prop}{a b:ByteArray}{v:Bool}{K:Value->Prop}(c:(a==b)=v)(k:K (.bool v)):RD prog C (Bind.bind (Sem.pure ()) λ_=>binOp .eql 9 (.string a) (.string b)) K:=by subst c;refine⟨_,λw _=>?_,k⟩;simp[binOp,Op.stringOp,beq_toListBytes]
theorem HH.X8{r:Int}(a:HH N h)(d:0<=r∧r<=100)(e:N+280000<=900000):HH (N+280000) (h.X8 r)∧N+400*(r*(h.D0.A0+1)).toNat<=N+280000:=by
 obtain⟨_,b,c⟩:=a.len;have g:r*(h.D0.A0+1)<=100*7:=TK m4 m4 m4 m4;have f:400*(r*(h.D0.A0+1)).toNat<=280000:=m4
 exact⟨(a.Mg _ m4).1.up m4 m4,m4⟩
section
theorem sp6(h:Hp c w R)(a:ng c):Cr 6 #[] w c (.bool true) R:=by
 obtain⟨S,A,Q,N,M,r,p,z,y,x,u,t,j,f,l,Kz,F,hou⟩:=mI;have J:F8 (1:Int) 1 3:=⟨m4,m4,m4⟩;have hh0:HH 0 S:=by rw[<-z];exact HH.start J m4
 have e:HH 2 A:=by rw[<-y];exact hh0.da m4 _ xm
 have k:HH 4 Q:=by have:=e.da m4 evB (by unfold M7;decide);rw[x]at this;exact this
 have hh3:HH 6 N:=by rw[<-u];exact k.da m4 _ xm
 obtain⟨kd,tk,cl,V,rtx,op,er,vl⟩:=r;simp only at j f;subst j f;have d:=λ(w:World)(R:List HP)(b:Nat)(h:Hp c w (G3 b 2 A::R))=>bD (ev:=evB) h e a m4 (by unfold M7;decide);rw[x]at d;simp only at d;refine R2 func6 O (He (adb (p:=⟨1,1,3⟩) h Zb9 Zb9 m4 m4) λb1 w h=>tg.un O (m5 ?_));rw[z]at h;refine N1 (bD (ev:=evA) h hh0 a m4 xm) λw h=>?_;rw[y]at h;refine N1 (d _ _ _ h) λw h=>I2 h O λb2 w h=>J3 h 0 O O O λw h=>N1 (bD (ev:=evC) (h.g [1] O) k a m4 xm) λw h=>?_;rw[u]at h;refine N1 (sp9 (r:=6) h hh3 a m4 m4) λw h=>?_;rw[t]at h;obtain⟨hh4,H⟩:=hh3.X8 (r:=6) m4 m4;rw[t]at hh4;replace h:=Hp.se H h;obtain⟨s,g,o,C,L,h⟩:=h.C4;rw[o]at l;obtain⟨pp,ug,v0,v1,Z,Y,X,K,T,h,G⟩:=HS.iO (i:=0) l (h.g [9] rfl);have D:(if(0:Int)<=0 then(i3 (s.q.map S2.pp) (0:Int).toNat).getD none else none)=some pp:=by rw[S1 (lm 0)];show(i3 (s.q.map S2.pp) 0).getD none=some pp;rw[T];rfl
 refine N1 (alq (s:=s) (g:=g) D (h.g [3,8] O)) λw h=>U0 h 13 O O (Q5 (U0 h 13 O O (Q5 (tg.un O (Q5 (N1 (alp (h.g [2] O)) λw h=>ga (acY (h.g [3] O) m4) λab cb w h=>mf ?_))))));replace h:=G _ _ (h.g [2,1,5] O);replace h:=Hp.F1 (h0:=M) (s:=s) (g:=g) o C L (h.q 13 [2,4,5,6,7,3,8,9,10,0,11] O);have n:=aig h hh4;rw[F]at n;refine ga n λa1 c1 w h=>I2 h O λb3 w h=>?_;replace h:=Hp.vg (E:=O5) [1] h O (by rw[Gm];decide);refine N1 (agH (xs:=[1]) (ys:=[1]) (h.g [1] O) Zb3) λw h=>Q5 ?_;have m:=alo (E0:=0) (h.q 3 [2] O) hh4;rw[hou]at m;refine ga m λa2 c2 w h=>I2 h O λb4 w h=>?_;replace h:=Hp.vg (E:=O5) [2] h O (by rw[Gm];decide);exact N1 (agH (xs:=[2]) (ys:=[2]) (h.g [1] O) Zb3) λw h=>Q5 (N1 (aln h) λw h=>RD.akL (v:=true) Zb4 ⟨rfl,h.q 3 [] O⟩)
end
structure sV(p:R9)(s R0:Int):Prop where
 p:F8 p.A0 p.F0 p.L0
 s:1<=s∧s<=128
 w:1<=R0∧R0<=1000
section
variable{s:Int}
theorem alm{n:Nat}(h:Hp c w R):Cr 34 #[.slice a n cap] w c (.bool (decide ((n:Int)>150))) R:=by exact R2 func34 O ⟨rfl,h⟩
theorem alk(h:Hp c w R):Cs 35 #[.agg #[I p.A0,I p.F0,I p.L0,I s,I R0]] w (λe w'=>∃q,e= .returned (.bool q)∧(q=false->sV p s R0)∧Hp c w' R):=by
 refine R2 func35 O (I2 h O λb1 w h=>U0 h 0 O O (BR.T5 (λl=>?_) λl=>?_))
 ·refine Q5 (Q5 (Q5 (Q5 (Q5 (Q5 (Q5 (Q5 ⟨_,rfl,?_,h.q 1 [] O⟩)))))));grind[]
 ·refine U0 h 0 O O (BR.T5 (λk=>?_) λk=>?_)
  ·refine Q5 (Q5 (Q5 (Q5 (Q5 (Q5 (Q5 ⟨_,rfl,?_,h.q 1 [] O⟩))))));grind[]
  ·refine U0 h 0 O O (BR.T5 (λj=>?_) λj=>?_)
   ·refine Q5 (Q5 (Q5 (Q5 (Q5 (Q5 ⟨_,rfl,?_,h.q 1 [] O⟩)))));grind[]
   ·refine U0 h 0 O O (BR.T5 (λi=>?_) λi=>?_)
    ·refine Q5 (Q5 (Q5 (Q5 (Q5 ⟨_,rfl,?_,h.q 1 [] O⟩))));grind[]
    ·refine U0 h 0 O O (U0 h 0 O O (BR.T5 (λg=>?_) λg=>?_))
     ·refine Q5 (Q5 (Q5 (Q5 ⟨_,rfl,?_,h.q 1 [] O⟩)));grind[]
     ·refine U0 h 0 O O (BR.T5 (λf=>?_) λf=>?_)
      ·refine Q5 (Q5 (Q5 ⟨_,rfl,?_,h.q 1 [] O⟩));grind[]
      ·refine U0 h 0 O O (BR.T5 (λd=>?_) λd=>?_)
       ·refine Q5 (Q5 ⟨_,rfl,?_,h.q 1 [] O⟩);grind[]
       ·refine U0 h 0 O O (BR.T5 (λb=>?_) λb=>?_)
        ·refine Q5 ⟨_,rfl,?_,h.q 1 [] O⟩;grind[]
        ·refine U0 h 0 O O (BR.T5 (λa=>?_) λa=>?_)
         ·exact⟨_,rfl,λe=>(by cases e),h.q 1 [] rfl⟩
         ·refine U0 h 0 O O ⟨_,rfl,λe=>?_,h.q 1 [] O⟩;have e:=wE e;exact⟨⟨m4,m4,m4⟩,m4,m4⟩
theorem sp7{n:Nat}(h:Hp c w R):Cs 7 #[.agg #[I p.A0,I p.F0,I p.L0,I s,I R0],.slice a n cap] w (λe w'=>∃q,e= .returned (.bool q)∧(q=false->n<=150∧sV p s R0)∧Hp c w' R):=by
 refine R2 func7 O (I2 h O λb1 w h=>N1 (alm h) λw h=>BR.T5 (λb=>?_) λb=>?_)
 ·refine⟨_,rfl,?_,h.q 1 [] O⟩;grind[]
 ·refine O4 h 0 O O (xb (alk h) ?_);rintro _ w ⟨d,rfl,f1,h⟩;refine⟨_,rfl,?_,h.q 1 [] O⟩;grind[]
end
section
theorem vy{P0:List Ev}{ev:Ev}(hx:i3 P0 i=some ev):zj h0 (P0.take (i+1))=((zj h0 (P0.take i)).da ev).2:=by unfold zj;rw[O7 hx,Qh];rfl
theorem HH.evs{h0:I0}(a:HH 0 h0){P0:List Ev}(c:∀ev∈P0,M7 ev.op.n):∀i:Nat,i<=P0.length->i<=150->HH (2*i) (zj h0 (P0.take i))∧(zj h0 (P0.take i)).D0=h0.D0
 |0,_,_=>⟨a,rfl⟩
 |i+1,f,g=>by
  obtain⟨b,e⟩:=HH.evs a c i m4 m4
  obtain⟨ev,hx⟩:∃ev,i3 P0 i=some ev:=⟨_,by rw[Z0];exact d8 m4⟩
  rw[vy hx]
  have d:ev∈P0:=by rw[Z0]at hx;exact wv hx
  exact⟨b.da m4 ev (c ev d),(b.D0 ev).trans e⟩
end
end Go.Proofs.YtaaihojmcfaejaaGreatDoor
