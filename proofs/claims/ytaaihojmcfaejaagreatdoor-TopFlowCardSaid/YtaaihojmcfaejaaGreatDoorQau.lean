/- Lemmas for the tops: the walk of the house and its laws. No condition is added. -/
import Derived.Test.YtaaihojmcfaejaaGreatDoorQat
import Derived.Test.YtaaihojmcfaejaaGreatDoorQah
import Derived.Test.YtaaihojmcfaejaaGreatDoorQaf
import Derived.Test.YtaaihojmcfaejaaGreatDoorQag
import Derived.Test.YtaaihojmcfaejaaGreatDoorQak
import Derived.Test.YtaaihojmcfaejaaGreatDoorQas
import Derived.Test.YtaaihojmcfaejaaGreatDoorQaq
set_option linter.all false
namespace Go.Proofs.YtaaihojmcfaejaaGreatDoor
open Go Go.RowKit Tryz
variable{y:BitVec 8}{r:E6}{C0 O2 i me tx:Int}{k:J2}{P0 S0:List A5}{bs xs:List B}{L R:List HP}{hs:List Rm}{E4 Xb b cap d g m m' mk n pr:Nat}{a a2 ak:Option Addr}{s:Rm}{α:Type}{x:U2}{v0 v1 v2 v3 v4 v5:Value}{K:Value->Prop}{c w:World}
theorem tC{P Q:Prop}(q:Q)(f:Q->P:=by intro q;exact R2 func250 O (I2 h O λb1 w h=>i5 (RD.Vh (m:=Int.toNat _) kn O O O (Xr m4) m4 (q b1 w h)))):P:=f q
theorem sC{P Q:Prop}(q:Q)(f:Q->P:=by intro q;exact ja.D0 kn o8 (λ_=>True) (qs [0,1,2,3] (ws [4] (qs [5,6,7,8,9,11,12,13] (vs [10,14] (qs [15,16] .done))))) Zb2 trivial q):P:=f q
theorem zN{P Q:Prop}(q:Q)(f:Q->P:=by intro q;exact RD.Vh (m:=4) kn O O O O m4 (RD.cut (l:=xs.length-4) kn O O (Uy (by split<;>omega)) O m4 (N1 (aM ((h.Z4 0 O).take (m:=4) m4) (by rw[hl4];omega)) λw h'=>q w h'))):P:=f q
theorem yN{P Q:Prop}(q:Q)(f:Q->P:=by intro q;exact N1 (aM ((hs.up h).drop (l:=xs.length-4) m4) Zb5) λw h'=>q w h'):P:=f q
theorem acd{P Q:Prop}(q:Q)(f:Q->P:=by intro q;exact Mj (jd h 0 O λb2 o1 U9=>LD.qf h 0 O Zb9 (K5 (d:=0#8) m4) O (bf.aai (y:=128#8) O hn (i5 (Te (i5 (RD.cut (l:=9+n) kn O O (Uy (by split<;>omega)) O m4 (q b2 o1 U9)))))))):P:=f q
section
theorem and8(a b:BitVec 8):IntKind.u8.wrap ((BitVec.ofInt IntKind.u8.bits (a.toNat:Int)&&&BitVec.ofInt IntKind.u8.bits (b.toNat:Int)).toNat:Int)=((a&&&b).toNat:Int):=by show IntKind.u8.wrap ((BitVec.ofInt 8 (a.toNat:Int)&&&BitVec.ofInt 8 (b.toNat:Int)).toNat:Int)=_;rw[jo,jo,IC]
theorem bf.and8{x:BitVec 8}{b:Int}(a:b=(y.toNat:Int))(k:K (B8 (x&&&y))):bf .and .u8 (x.toNat:Int) b K:=by subst a;have e:=Go.Proofs.YtaaihojmcfaejaaGreatDoor.and8 x y;exact⟨(V4 (λz=>K (.int _ z)) e).mpr k⟩
theorem bic8(a b:BitVec 8):IntKind.u8.wrap ((BitVec.ofInt IntKind.u8.bits (a.toNat:Int)&&& ~~~BitVec.ofInt IntKind.u8.bits (b.toNat:Int)).toNat:Int)=((a&&& ~~~b).toNat:Int):=by show IntKind.u8.wrap ((BitVec.ofInt 8 (a.toNat:Int)&&& ~~~BitVec.ofInt 8 (b.toNat:Int)).toNat:Int)=_;rw[jo,jo,IC]
theorem bf.bic8{x:BitVec 8}{b:Int}(a:b=(y.toNat:Int))(k:K (B8 (x&&& ~~~y))):bf .andNot .u8 (x.toNat:Int) b K:=by subst a;have e:=Go.Proofs.YtaaihojmcfaejaaGreatDoor.bic8 x y;exact⟨(V4 (λz=>K (.int _ z)) e).mpr k⟩
theorem bf.aai{x:BitVec 8}{b:Int}(a:b=(y.toNat:Int))(c:(x&&& ~~~y).toNat=n)(k:K (.int .u8 n)):bf .andNot .u8 (x.toNat:Int) b K:=bf.bic8 a Zb1
def Iy(a:Option Addr)(cap:Nat)(data:List B):HP:=sf λ(g:Option Addr×Nat×List B×Nat×Nat)=>C5 [d6 (g.2.2.2.2<=g.2.2.2.1∧g.2.2.2.1<=g.2.2.1.length∧data=(g.2.2.1.take g.2.2.2.1).drop g.2.2.2.2∧a=(if g.2.1=g.2.2.2.2 then g.1 else g.1.map (·.add (g.2.2.2.2*eB.sz)))∧cap=g.2.1-g.2.2.2.2),so 5 eB g.1 g.2.1 g.2.2.1]
theorem Hp.EH{data:List B}(h:Hp c w (Iy a cap data::L)):Sx eB w a data.length cap data:=by obtain⟨g,h⟩:=h.ex;obtain⟨⟨d,b,j,i,f⟩,h⟩:=h.R6.uf;have e:=((h.Z4 0 O).take (m:=g.2.2.2.1) b).drop (l:=g.2.2.2.2) d;simp[*]
theorem Hp.LQ{a1:Option Addr}{a l:Nat}{x:List B}(d:l<=m)(b:m<=x.length)(h:Hp c w (so 5 eB a1 a x::L)):Hp c w (Iy (if a=l then a1 else a1.map (·.add (l*eB.sz))) (a-l) ((x.take m).drop l)::L):=
 Hp.R8 (a1,a,x,m,l) (Hp.C3 (Hp.T' ⟨d,b,rfl,rfl,rfl⟩ h))
theorem Hp.gi(h:Hp c w L):Hp c w (Iy none 0 []::L):=by have:=Hp.LQ (l:=0) (m:=0) (V7 _) (ye _) (h.G4 5 eB);exact this
theorem XB{f:Nat}{lb:List Value}{p:B->Bool}(hs:Sx eB w a n cap xs)(b:Js f lb w (λx=>B8 x) p)(d:Ck f=true)(c:xs.length<=1000000000):
 Cs 299 #[.slice a n cap,.func (.func f) #[] lb.toArray] w (Zb w (.bool (xs.any p)) []):=by
 obtain rfl:=hs.len;exact agI hs b d c
theorem JJ(h:Vc (xs.take (xs.length-4))=none):I8 xs=none:=by simp_all[I8]
theorem IJ{x:List B}(h:Vc (xs.take (xs.length-4))=some x):I8 xs=(if¬x.length=25∨¬p7 (x.take 4)=p7 (xs.drop (xs.length-4))then none else
 if(x.getD 8 0#8&&& ~~~128#8).toNat>16∨(x.drop (min (9+(x.getD 8 0#8&&& ~~~128#8).toNat) x.length)).any (λc=>decide (¬c=0#8))=true then none
 else some ⟨p7 (x.take 4),p7 ((x.take 8).drop 4),decide (¬x.getD 8 0#8&&&128#8=0#8),(x.take (9+(x.getD 8 0#8&&& ~~~128#8).toNat)).drop 9⟩):=by simp_all[I8]
theorem wR(hs:Sx eB w a n cap xs)(D:xs.length<=1000):Cs 250 #[.slice a n cap] w (λe w'=>∃r s,e= .returned (.tuple #[((I8 xs).getD qm).v r s,.bool (I8 xs).isSome])∧Hp w w' [Iy r s ((I8 xs).getD qm).data]):=by
 obtain rfl:=hs.len;have h:=Hp.start w;have u:=hs.cap;obtain⟨o,k⟩:∃o,Vc (xs.take (xs.length-4))=o:=⟨_,rfl⟩;cases o with
 |none=>
  rw[JJ k];refine tC λb1 w h=>?_;have i:(if 0>(xs.length:Int)-4 then 0 else(xs.length:Int)-4).toNat=xs.length-4:=by split<;>omega
  have g:Sx eB w a (if 0>(xs.length:Int)-4 then 0 else(xs.length:Int)-4).toNat cap (xs.take (xs.length-4)):=by rw[i];exact(hs.up h).take m4
  have b:=LA g Zb5;rw[k]at b;refine xb b ?_;clear b g;rintro _ w ⟨a1,j,rfl,h'⟩;replace h:=h.H6 h';refine sC ?_;replace h:=h.drew;exact Q5 ⟨trivial,Q5 (Q5 (J3 h 1 O O O λw h=>O4 h 1 O O ⟨none,0,rfl,Hp.gi (h.q 2 [] O)⟩))⟩
 |some x=>
  rw[IJ k];by_cases h25:x.length=25
  ·have hl4:(x.take 4).length=4:=by simp[h25]
   by_cases ajs:p7 (x.take 4)=p7 (xs.drop (xs.length-4))
   ·rw[V0 m4];obtain⟨n,hn⟩:∃n,(x.getD 8 0#8&&& ~~~128#8).toNat=n:=⟨_,rfl⟩;rw[hn];have hl8:8<x.length:=m4
    by_cases h16:n>16
    ·rw[S1 (.inl h16)];refine tC λb1 w h=>?_;have i:(if 0>(xs.length:Int)-4 then 0 else(xs.length:Int)-4).toNat=xs.length-4:=by split<;>omega
     have g:Sx eB w a (if 0>(xs.length:Int)-4 then 0 else(xs.length:Int)-4).toNat cap (xs.take (xs.length-4)):=by rw[i];exact(hs.up h).take m4
     have b:=LA g Zb5;rw[k]at b;simp only[Option.getD_some,Option.isSome_some]at b;refine xb b ?_;clear b g;rintro _ w ⟨a1,j,rfl,h'⟩;replace h:=h.H6 h';refine sC ?_;replace h:=h.drew;refine m5 ⟨trivial,Mj ?_⟩;have hxc:=(h.Z4 0 O).cap;refine zN λw h'=>?_;replace h:=h.H6 h';refine yN λw h'=>?_;replace h:=h.H6 h';exact Mj (jd h 0 O λb2 o1 U9=>LD.qf h 0 O Zb9 (K5 (d:=0#8) m4) O (bf.aai (y:=128#8) O hn (i5 (Zt (Q5 (J3 h 1 O O O λw h=>O4 h 1 O O ⟨none,0,rfl,Hp.gi (h.q 2 [] O)⟩))))))
    ·have amc:min (9+n) x.length=9+n:=m4
     rw[amc];obtain⟨z,p⟩:∃z,(x.drop (9+n)).any (λc=>decide (¬c=0#8))=z:=⟨_,rfl⟩;rw[p];cases z with
     |true=>
      rw[S1 (.inr O)];refine tC λb1 w h=>?_;have i:(if 0>(xs.length:Int)-4 then 0 else(xs.length:Int)-4).toNat=xs.length-4:=by split<;>omega
      have g:Sx eB w a (if 0>(xs.length:Int)-4 then 0 else(xs.length:Int)-4).toNat cap (xs.take (xs.length-4)):=by rw[i];exact(hs.up h).take m4
      have b:=LA g Zb5;rw[k]at b;simp only[Option.getD_some,Option.isSome_some]at b;refine xb b ?_;clear b g;rintro _ w ⟨a1,j,rfl,h'⟩;replace h:=h.H6 h';refine sC ?_;replace h:=h.drew;refine m5 ⟨trivial,Mj ?_⟩;have hxc:=(h.Z4 0 O).cap;refine zN λw h'=>?_;replace h:=h.H6 h';refine yN λw h'=>?_;replace h:=h.H6 h';refine acd λb2 o1 U9=>?_;have b:=XB (f:=300) ((h.Z4 0 O).drop (l:=9+n) m4) (XQ w) O Zb5;rw[p]at b;refine xb b ?_;clear b;rintro _ w ⟨rfl,h'⟩;replace h:=h.H6 h';exact Q5 (J3 h 1 O O O λw h=>O4 h 1 O O ⟨none,0,rfl,Hp.gi (h.q 2 [] O)⟩)
     |false=>
      rw[V0 Zb6];refine tC λb1 w h=>?_;have i:(if 0>(xs.length:Int)-4 then 0 else(xs.length:Int)-4).toNat=xs.length-4:=by split<;>omega
      have g:Sx eB w a (if 0>(xs.length:Int)-4 then 0 else(xs.length:Int)-4).toNat cap (xs.take (xs.length-4)):=by rw[i];exact(hs.up h).take m4
      have b:=LA g Zb5;rw[k]at b;simp only[Option.getD_some,Option.isSome_some]at b;refine xb b ?_;clear b g;rintro _ w ⟨a1,j,rfl,h'⟩;replace h:=h.H6 h';refine sC ?_;replace h:=h.drew;refine m5 ⟨trivial,Mj ?_⟩;have hxc:=(h.Z4 0 O).cap;refine zN λw h'=>?_;replace h:=h.H6 h';refine yN λw h'=>?_;replace h:=h.H6 h';refine acd λb2 o1 U9=>?_;have b:=XB (f:=300) ((h.Z4 0 O).drop (l:=9+n) m4) (XQ w) O Zb5;rw[p]at b;refine xb b ?_;clear b;rintro _ w ⟨rfl,h'⟩;replace h:=h.H6 h';refine m5 (Y6 h [0,1,3,4,6,7,11,12,13,14,8,9,10,52,55,15,116,17] λh=>RD.Vh (m:=Int.toNat _) kn O O O (Xr m4) m4 (RD.cut kn O O O O Zb1 (jd h 0 O λE A G=>i5 (RD.cut kn O O O O Zb1 (LD.Km (λ_ h=>h) 0 O Zb9 (K5 (d:=0#8) m4) O (bf.and8 (y:=128#8) O (N1 (aM ((h.Z4 0 O).take (m:=4) m4) (by rw[hl4];omega)) λw h'=>?_)))))));replace h:=h.H6 h';refine⟨h,N1 (aM (((h.Z4 0 O).take (m:=8) m4).drop (l:=4) m4) Zb5) λw h'=>?_⟩;replace h:=h.H6 h';refine⟨h,J3 h 1 O O O λw h=>O4 h 1 O O ?_⟩;have t:=((h.Z4 0 O).take (m:=9+n) m4).drop (l:=9) m4;have F:=t.len;have C:=ne0 (x.getD 8 0#8&&&128#8);refine⟨if j=9 then a1 else Option.map (λx=>x.add (9*1)) a1,j-9,?_,Hp.LQ (l:=9) (m:=9+n) m4 m4 (h.q 2 [0] O)⟩
      ·show Ending.returned (.tuple #[.agg #[I (p7 (x.take 4)),I (p7 ((x.take 8).drop 4)),.bool (!(((x.getD 8 0#8&&&128#8).toNat:Int)==0)),.slice (if j=9 then a1 else Option.map (λx=>x.add (9*1)) a1) (9+n-9) (j-9)],.bool true])=_;simp_all
   ·rw[S1 (.inr ajs)];refine tC λb1 w h=>?_;have i:(if 0>(xs.length:Int)-4 then 0 else(xs.length:Int)-4).toNat=xs.length-4:=by split<;>omega
    have g:Sx eB w a (if 0>(xs.length:Int)-4 then 0 else(xs.length:Int)-4).toNat cap (xs.take (xs.length-4)):=by rw[i];exact(hs.up h).take m4
    have b:=LA g Zb5;rw[k]at b;simp only[Option.getD_some,Option.isSome_some]at b;refine xb b ?_;clear b g;rintro _ w ⟨a1,j,rfl,h'⟩;replace h:=h.H6 h';refine sC ?_;replace h:=h.drew;refine m5 ⟨trivial,Mj ?_⟩;have hxc:=(h.Z4 0 O).cap;refine zN λw h'=>?_;replace h:=h.H6 h';refine yN λw h'=>?_;replace h:=h.H6 h';exact xq (J3 h 1 O O O λw h=>O4 h 1 O O ⟨none,0,rfl,Hp.gi (h.q 2 [] O)⟩)
  ·rw[S1 (.inl h25)];refine tC λb1 w h=>?_;have i:(if 0>(xs.length:Int)-4 then 0 else(xs.length:Int)-4).toNat=xs.length-4:=by split<;>omega
   have g:Sx eB w a (if 0>(xs.length:Int)-4 then 0 else(xs.length:Int)-4).toNat cap (xs.take (xs.length-4)):=by rw[i];exact(hs.up h).take m4
   have b:=LA g Zb5;rw[k]at b;simp only[Option.getD_some,Option.isSome_some]at b;refine xb b ?_;clear b g;rintro _ w ⟨a1,j,rfl,h'⟩;replace h:=h.H6 h';refine sC ?_;replace h:=h.drew;exact m5 ⟨trivial,xq (Q5 (J3 h 1 O O O λw h=>O4 h 1 O O ⟨none,0,rfl,Hp.gi (h.q 2 [] O)⟩))⟩
end
theorem aak{P:Prop}(h:P:=by replace h:Hp _ _ (J5 _ _ (l)::_):=Hp.W8 (h.g [4] O);exact⟨_,_,rfl,h.q 6 [2,0,4] O⟩):P:=h
section
theorem amI(a b:Int):(a==b)=decide (a=b):=Zb1
theorem Sw(x:U2)(i:Int):(x.o9 i).1.length<=32:=by unfold U2.o9<;>grind
theorem ix{c:List B}{s:T6}(h:I8 c=some s):Ui s.num∧Ui s.first:=by
 unfold I8 at h;simp only at h;split at h
 ·cases h
 rename_i x i;split at h
 ·cases h
 rename_i a;have h25:x.length=25:=Hs λb=>a (.inl b);split at h
 ·cases h
 injection h with h;subst h;have g:(x.take 4).length=4:=by simp[h25]
 have f:((x.take 8).drop 4).length=4:=by simp[h25]
 have e:=nk (x.take 4);have d:=nk ((x.take 8).drop 4);rw[g]at e;rw[f]at d;refine⟨?_,?_⟩
 ·show Ui (p7 (x.take 4));grind[uD]
 ·show Ui (p7 ((x.take 8).drop 4));grind[uD]
theorem cZ{l:N7}(h:Hp c w (J5 d b l::M1 d x::R))(p:1<=x.P1.length):Cs 202 #[Pt b,I i] w (λe w'=>∃a cap,e= .returned (.tuple #[(t6 x i).1.v a cap,.bool (t6 x i).2])∧Hp c w' (Iy a cap (t6 x i).1.data::J5 d b l::M1 d x::R)):=by
 obtain⟨o,j⟩:∃o,I8 (x.o9 i).1=o:=⟨_,rfl⟩;cases o with
 |none=>
  have e:t6 x i=(qm,false):=by unfold t6;rw[j]
  rw[e];refine R2 func202 O (I2 h O λb1 w h=>?_);replace h:=(h.g [1] O).D9;refine U0 h 0 O O (ga (xR (h.g [2] O)) λa1 m w h=>?_);have f:=wR (h.Z4 0 O) (by grind[Sw]);rw[j]at f;simp only[Option.getD_none,Option.isSome_none]at f;refine xb f ?_;clear f;rintro _ w ⟨a2,E4,rfl,k⟩;replace h:=h.H6 k;refine I2 h O λb2 w h=>J3 h 0 O O O λw h=>Y6 h [1,2,3,0,54,5,6,7,8,9,12,60,61,13,14,115,16] λh=>m5 (xg 0 O O ⟨h,m5 ⟨h,⟨h,J3 h 5 O O O λw h=>O4 h 5 O O ?_⟩⟩⟩);exact aak
 |some s=>
  by_cases g:s.num>=1
  ·have e:t6 x i=(s,W9 s.num x==i):=by unfold t6;rw[j];simp only[g,decide_true,Bool.true_and];rw[<-amI]
   rw[e];have n:=(ix j).1;refine R2 func202 O (I2 h O λb1 w h=>?_);replace h:=(h.g [1] O).D9;refine U0 h 0 O O (ga (xR (h.g [2] O)) λa1 m w h=>?_);have f:=wR (h.Z4 0 O) (by grind[Sw]);rw[j]at f;simp only[Option.getD_some,Option.isSome_some]at f;refine xb f ?_;clear f;rintro _ w ⟨a2,E4,rfl,k⟩;replace h:=h.H6 k;refine I2 h O λb2 w h=>J3 h 0 O O O λw h=>Y6 h [1,2,3,0,54,5,6,7,8,9,12,60,61,13,14,115,16] λh=>Q5 (xg 0 O O (U0 h 0 O O ⟨h,Zt (U0 h 0 O O ⟨h,?_⟩)⟩));replace h:Hp _ _ (J5 _ _ (l)::_):=Hp.W8 (h.g [4] O);exact N1 (FR (h.g [0,4] O) aok Zb9) λw h=>⟨by replace h:=h.D9;exact h.g [2,3,4,1] O,J3 h 5 O O O λw h=>O4 h 5 O O ⟨_,_,rfl,h.q 6 [3,0,1] O⟩⟩
  ·have e:t6 x i=(s,false):=by unfold t6;rw[j];simp[g]
   rw[e];have n:=(ix j).1;refine R2 func202 O (I2 h O λb1 w h=>?_);replace h:=(h.g [1] O).D9;refine U0 h 0 O O (ga (xR (h.g [2] O)) λa1 m w h=>?_);have f:=wR (h.Z4 0 O) (by grind[Sw]);rw[j]at f;simp only[Option.getD_some,Option.isSome_some]at f;refine xb f ?_;clear f;rintro _ w ⟨a2,E4,rfl,k⟩;replace h:=h.H6 k;refine I2 h O λb2 w h=>J3 h 0 O O O λw h=>Y6 h [1,2,3,0,54,5,6,7,8,9,12,60,61,13,14,115,16] λh=>Q5 (xg 0 O O (U0 h 0 O O ⟨h,Te ⟨h,⟨h,J3 h 5 O O O λw h=>O4 h 5 O O ?_⟩⟩⟩));exact aak
def zn(d:U2)(n:Nat):T6:=(List.range n).foldl (λ(r9:T6)(i:Nat)=>
 let s:=t6 d (i:Int)
 if s.2=true∧s.1.num>r9.num then s.1 else r9) qm
theorem Su(d:U2)(n:Nat):zn d (n+1)=if(t6 d (n:Int)).2=true∧(t6 d (n:Int)).1.num>(zn d n).num then(t6 d (n:Int)).1 else zn d n:=by simp[zn,List.range_succ]
theorem gM{l:N7}(h:Hp c w (J5 d b l::M1 d x::R))(p:1<=x.P1.length∧x.P1.length<=1000):Cs 148 #[Pt b] w (λe w'=>∃a cap,e= .returned (.tuple #[(Vf x).v a cap,.bool (decide ((Vf x).num>0))])∧Hp c w' (J5 d b l::M1 d x::R)):=by
 refine R2 func148 O (I2 h O λb1 w h=>I2 h O λb2 w h=>?_);replace h:=(h.g [2] O).D9;refine U0 h 0 O O (N1 (OF (h.g [3] O)) λw h=>?_);replace h:Hp _ _ (J5 _ _ (l)::_):=Hp.W8 (h.g [1,2,3] O);have hd0:=Hp.gi h;refine p5.A6 kn [0,2,4,12,13] (λm vs w'=>∃(i:Int)(a:Option Addr)(cap:Nat)(z:T6),vs=[Pt b,Pt b1,Pt b2,I x.P1.length,I i]∧(z=zn x i.toNat∧0<=i∧i+m=x.P1.length)∧Hp c w' (bk b2 [I z.num,I z.first,.bool z.Fc,.slice a z.data.length cap] 301::bk b1 [I 0,I 0,.bool false,.slice none 0 0] 301::Iy a cap z.data::J5 d b l::M1 d x::R)) x.P1.length ⟨0,none,0,qm,rfl,⟨rfl,m4,m4⟩,hd0.g [2,3] O⟩ ?_;rintro m _ w1 D ⟨i,a,cap,z,rfl,⟨n,F,him⟩,h⟩;have o:∀s t,t6 x i=(s,t)->zn x (i+1).toNat=if t=true∧s.num>z.num then s else z:=by
  intro s t f;have k:(i+1).toNat=i.toNat+1:=m4
  have A:((i.toNat:Nat):Int)=i:=m4
  rw[k,Su,A,f,<-n]
 obtain⟨s,t,f⟩:∃s t,t6 x i=(s,t):=⟨_,_,rfl⟩;have o:=o s t f;refine BR.T5 (λy=>?_) λy=>?_
 ·have j:=cZ (i:=i) (h.g [3,4] O) p.1;rw[f]at j;simp only at j;refine xb j ?_;clear j;rintro _ w ⟨a3,C,rfl,h⟩;refine I2 h O λE w h=>J3 h 0 O O O λw h=>BR.O' (λu=>?_) λu=>?_
  ·refine U0 h 0 O O (U0 h 4 O O (BR.T5 (λr=>?_) λr=>?_))
   ·refine O4 h 0 O O (J3 h 4 O O O λw h=>i5 ⟨(m-1),?_,_,_,_,_,rfl,?_,h.q 7 [4,5,1,2,3] O⟩)
    ·omega
    ·grind[]
   ·refine i5 ⟨(m-1),?_,_,_,_,_,rfl,?_,h.q 7 [4,5,6,2,3] O⟩
    ·omega
    ·grind[]
  ·refine m5 (i5 ⟨(m-1),?_,_,_,_,_,rfl,?_,h.q 7 [4,5,6,2,3] O⟩)
   ·omega
   ·grind[]
 ·have k:Vf x=z:=by
   rw[n];have:i.toNat=x.P1.length:=m4
   rw[this];rfl
  rw[k];refine ja.D0 kn o8 (λw'=>Hp c w' ((sf λl=>bk b1 l 301)::bk b2 [I z.num,I z.first,.bool z.Fc,.slice a z.data.length cap] 301::Iy a cap z.data::J5 d b l::M1 d x::R)) (qs [1,0,2,3] (ws [4] (qs [5] .done))) Zb2 (Hp.Jm (h.g [1] O)).drew ?_;replace h:=h.drew;exact xg 1 O O (U3 1 O O (J3 h 1 O O O λw h=>⟨Hp.Jm (h.g [1] O),O4 h 1 O O ⟨_,_,rfl,h.q 5 [3,4] O⟩⟩))
end
theorem aaj{P:Prop}(h:P:=by exact⟨none,0,rfl,λr hr=>(by cases hr),ye _,Hp.sO (h.q 7 [2,3] rfl)⟩):P:=h
section
abbrev sb(s:Rm):HP:=so 5 eB s.a s.cap s.xs
def pM(a:Option Addr)(cap:Nat)(B0:List (List B)):HP:=sf λ(hs:List Rm)=>C5 [d6 (hs.map (·.xs)=B0),so 211 Nm a cap hs,C5 (hs.map sb)]
theorem Hp.Ow(h:Hp c w (so 211 Nm a cap hs::C5 (hs.map sb)::L)):Hp c w (pM a cap (hs.map (·.xs))::L):=Hp.R8 hs (Hp.C3 (Hp.T' O h))
theorem Hp.tJ{B0:List (List B)}(h:Hp c w (pM a cap B0::L)):∃hs:List Rm,hs.map (·.xs)=B0∧Hp c w (so 211 Nm a cap hs::C5 (hs.map sb)::L):=by obtain⟨hs,h⟩:=h.ex;obtain⟨d,b⟩:=h.R6.uf;exact⟨hs,d,b⟩
theorem Hp.VA(h:Hp c w (C5 (hs.map sb)::sb s::L)):Hp c w (C5 ((hs++[s]).map sb)::L):=by simp_all[R6,Hp.C3]
theorem Hp.WA(h:Hp c w L):Hp c w (C5 (([]:List Rm).map sb)::L):=Hp.C3 h
theorem wO{s:T6}{t:Bool}(h:t6 x i=(s,t)):s.data.length<=16:=by
 unfold t6 at h;cases hp:I8 (x.o9 i).1 with
 |none=>rw[hp]at h;injection h with h;rw[<-h];decide
 |some q=>grind[I8]
theorem Hp.sO(h:Hp c w L):Hp c w (pM none 0 []::L):=Hp.Ow (hs:=[]) (h.WA.G4 211 Nm)
theorem Hp.Rv(h:Hp c w (sb s::L)):Hp c w ((sf λ(z:Rm)=>sb z)::L):=Hp.R8 (f:=λ(z:Rm)=>sb z) s h
theorem Vv(l:List α)(s:α):i3 (l++[s]) (((l++[s]).length:Int)-1).toNat=some s:=by simp[Z0]
theorem YF(l:List α)(s y:α):(l++[s]).set (((l++[s]).length:Int)-1).toNat y=l++[y]:=Zb3
theorem rO{k:Nat}{n:Int}{a:List Rm}{o:Option (List (List B))}{q:T6}{t:Bool}(b:va x (k+1) n (a.map (·.xs)++[s.xs])=o)(c:t6 x (W9 n x)=(q,t)):((t=false∨¬q.num=n)->o=none)∧(t=true->q.num=n->q.Fc=true->va x k (n+1) ((a++[s]).map (·.xs)++[q.data])=o)∧(t=true->q.num=n->q.Fc=false->va x k (n+1) (a.map (·.xs)++[s.xs++q.data])=o):=by unfold va at b<;>grind
theorem ahI{l:N7}{j p:Int}{o:Option (List (List B))}(h:Hp c w (J5 d b l::M1 d x::R))(N:1<=x.P1.length∧x.P1.length<=1000)(hn:1<=j∧j<=p∧p-j<1000∧p<=4294967296)(V:va x (p-j+1).toNat j [[]]=o):Cs 150 #[Pt b,I j,I p] w (λe w'=>∃a cap,e= .returned (.tuple #[.slice a (o.getD []).length cap,.bool o.isSome])∧(∀r∈o.getD [],r.length<=16*1000)∧(o.getD []).length<=1001∧Hp c w' (pM a cap (o.getD [])::J5 d b l::M1 d x::R)):=by
 refine R2 func150 O (I2 h O λb1 w h=>?_);have Y:=Hp.vg (E:=Nm) [⟨none,0,[]⟩] h O Zb4;have X:=(Y.G4 5 eB).WA;refine p5.A6 kn [0,2,8,9] (λm vs w'=>∃(n:Int)(a:Option Addr)(cap:Nat)(f:List Rm)(s:Rm),vs=[Pt b,I p,.slice a (f++[s]).length cap,I n]∧(va x m n (f.map (·.xs)++[s.xs])=o∧n+m=p+1∧j<=n∧f.length<=n-j∧s.xs.length<=16*(n-j)∧∀q∈f,q.xs.length<=16000)∧Hp c w' (so 211 Nm a cap (f++[s])::C5 (f.map sb)::sb s::J5 d b l::M1 d x::R)) (p-j+1).toNat ⟨j,some ⟨b1,0,none⟩,1,[],⟨none,0,[]⟩,rfl,⟨V,m4,m4,Zb3,Zb3,λq T=>(by cases T)⟩,X.g [2] rfl⟩ ?_;rintro m _ w1 e0 ⟨n,a,cap,f,s,rfl,⟨K,hnm,Rx,hl0,L8,Rd⟩,h⟩;obtain⟨q,t,hr⟩:∃q t,t6 x (W9 n x)=(q,t):=⟨_,_,rfl⟩;have hqd:=wO hr;refine BR.T5 (λZ=>?_) λZ=>?_
 ·obtain⟨k,rfl⟩:∃k,m=k+1:=⟨m-1,m4⟩;obtain⟨st1,st2,st3⟩:=rO K hr;refine N1 (FR (n:=n) (h.g [3,4] O) m4 N.1) λw h=>?_;have A:=cZ (i:=W9 n x) h N.1;rw[hr]at A;simp only at A;refine xb A ?_;clear A;rintro _ w ⟨a3,M,rfl,h⟩;refine I2 h O λb2 w h=>J3 h 0 O O O λw h=>BR.not (BR.O' (λD=>?_) λD=>?_)
  ·refine U0 h 0 O O (BR.ne (λC=>?_) λC=>?_)
   ·obtain rfl:=st1 (.inr C);exact aaj
   ·refine U0 h 0 O O (BR.O' (λG=>?_) λG=>?_)
    ·refine I2 h O λb3 w h=>A4.Yb (E:=Nm) (u:=⟨none,0,[]⟩) (Ca.of (w9:=24) kn O O O O O O) h 5 O O 0 O O O Zb5 (λ_ _=>rfl) λa4 F w h=>?_;replace h:=h.G4 5 eB;refine WR.vp (i64 Zb1) (ja.D0 kn o8 (λw'=>Hp c w' ((sf λ(z:Rm)=>sb z)::bk b2 [I q.num,I q.first,.bool q.Fc,.slice a3 q.data.length M] 301::so 211 Nm a4 F (f++[s]++[⟨none,0,[]⟩])::R)) (qs [0,1,2,3,4,6,5] (ws [7] (vs [8] (qs [9] (vs [10] .done))))) Zb2 (Hp.Rv (s:=⟨none,0,[]⟩) (h.q 9 [0,2,6] O)).drew ?_);replace h:=h.drew;refine Jc.sl h 6 O Zb5 λb4 S U9=>LD.Km (λ_ h=>h) 2 O Zb9 (Vv _ _) O (U0 h 2 O O ⟨Hp.Rv (s:=⟨none,0,[]⟩) (h.q 9 [0,2,6] O),?_⟩);have L:=(h.g [3] O).EH;refine A4.Pk (Ca.of (w9:=1) kn O O O O O O) h 0 O O O L.sl Zb5 (λ_ _=>rfl) λa5 v w h=>Jc.sl h 6 O Zb5 λb5 Q Lj=>?_;replace h:Hp c w (so 5 eB a5 v q.data::_):=h;refine ST.qf (y:=⟨a5,v,q.data⟩) h 6 O Zb9 (Vv _ _) O O O O O λw h=>?_;rw[YF]at h;refine i5 ?_;have J:(f++[s]++[(⟨none,0,[]⟩:Rm)]).length=(f++[s]++[(⟨a5,v,q.data⟩:Rm)]).length:=Zb3
     replace h:=h.q 9 [7,8,6,0,4,5] O;replace h:=(Hp.VA h).g [1] O;have f1:j<=n+1:=m4
     have f2:(((f++[s]).length:Nat):Int)<=n+1-j:=Zb5
     have H:((q.data.length:Nat):Int)<=16*(n+1-j):=m4
     refine⟨k,m4,n+1,a4,F,f++[s],⟨a5,v,q.data⟩,V4 (λz=>[Pt b,I p,Value.slice a4 z F,I (n+1)]) J,⟨st2 D C G,m4,f1,f2,H,?_⟩,h⟩;grind
    ·refine WR.vp (i64 Zb1) (ja.D0 kn o8 (λw'=>Hp c w' ((sf λ(z:Rm)=>sb z)::bk b2 [I q.num,I q.first,.bool q.Fc,.slice a3 q.data.length M] 301::so 211 Nm a cap (f++[s])::R)) (qs [0,1,2,3,4,6,5] (ws [7] (vs [8] (qs [9] (vs [10] .done))))) Zb2 (Hp.Rv (s:=s) (h.q 7 [6,0,4] O)).drew ?_);replace h:=h.drew;refine Jc.sl h 4 O Zb5 λb4 S U9=>LD.Km (λ_ h=>h) 2 O Zb9 (Vv _ _) O (U0 h 0 O O ⟨Hp.Rv (s:=s) (h.q 7 [6,0,4] O),?_⟩);have L:=(h.g [1] O).EH;refine A4.Pk (Ca.of (w9:=1) kn O O O O O O) h 6 O O O L.sl m4 (λ_ _=>rfl) λa5 v w h=>Jc.sl h 4 O Zb5 λb3 Q Lj=>ST.qf (y:=⟨a5,v,s.xs++q.data⟩) h 4 O Zb9 (Vv _ _) O O O O O λw h=>?_;rw[YF]at h;refine i5 ?_;have J:(f++[s]).length=(f++[(⟨a5,v,s.xs++q.data⟩:Rm)]).length:=Zb3
     have H:(((s.xs++q.data).length:Nat):Int)<=16*(n+1-j):=Zb5
     exact⟨k,m4,n+1,a,cap,f,⟨a5,v,s.xs++q.data⟩,V4 (λz=>[Pt b,I p,Value.slice a z cap,I (n+1)]) J,⟨st3 D C G,m4,m4,m4,H,Rd⟩,h.q 7 [4,5,6,2,3] O⟩
  ·refine Q5 ?_;obtain rfl:=st1 (.inl D);exact aaj
 ·have VP:m=0:=m4
  subst VP;have e6:va x 0 n (f.map (·.xs)++[s.xs])=some ((f++[s]).map (·.xs)):=by unfold va;simp
  rw[e6]at K;obtain rfl:=K;have e7:(f++[s]).length=((f++[s]).map (·.xs)).length:=Zb3
  rw[e7];replace h:=h.g [1,2] O;replace h:=Hp.Ow ((Hp.VA h).g [1] O);refine⟨a,cap,rfl,?_,Zb5,h⟩;grind
end
theorem acb{P Q:Prop}(q:Q)(f:Q->P:=by intro q;exact I2 h O λb2 w h=>J3 h 0 O O O λw h=>BR.not (Zt (Y6 h [0,51,2,3,4,6,5,57,8,9,10,11,13,16,12,14,15,67,18,19] λh=>U0 h 0 O O ⟨h,Te (U3 0 O O (U0 h 0 O O ⟨h,Te (q b2 w h)⟩))⟩))):P:=f q
theorem aca{P Q:Prop}(q:Q)(f:Q->P:=by intro q;exact U3 0 O O (U3 0 O O (i5 (N1 (OF (h.g [2] O)) λw h=>⟨h.g [1,2] O,Te (U0 h 1 O O (U0 h 1 O O (xb (ahI (h.g [2] O) hx m4 hq) (q w h))))⟩)))):P:=f q
theorem Kr:∀(f:Nat)(b:List B),(s8 f b).1.length+(s8 f b).2.length<=f+b.length∧(s8 f b).2.length<=b.length
 |0,b=>by simp[s8]
 |f+1,b=>by
  unfold s8;simp only;split
  ·simp
  ·obtain⟨c,a⟩:=Kr f (b.drop (rb b).2)<;>grind
section
theorem Hp.adj(h:Hp c w (C5 (hs.map sb)::L)){i:Nat}(b:i3 hs i=some s):Sx eB w s.a s.xs.length s.cap s.xs:=by refine h.R6.Z4 (e:=5) i ?_;grind[Z0]
theorem YJ(x:U2):Ui (Vf x).num∧Ui (Vf x).first:=by
 have:∀n,Ui (zn x n).num∧Ui (zn x n).first:=by
  intro n;induction n with
  |zero=>exact⟨⟨by show(0:Int)<=0;decide,by show(0:Int)<4294967296;decide⟩,⟨by show(0:Int)<=0;decide,by show(0:Int)<4294967296;decide⟩⟩
  |succ n a=>
   rw[Su];split
   ·rename_i c;unfold t6 at c⊢;cases b:I8 (x.o9 (n:Int)).1 with
    |none=>simp_all
    |some s=>exact ix b
   ·exact a
 exact this x.P1.length
theorem jD{a:List Rm}{i:Nat}{t:Rm}{p:List A5}{q:List B}(b:i3 a i=some t)(d:s8 t.xs.length t.xs=(p,q)):Y7 ((a.map (·.xs)).drop i)=if q.length>23 then none else(Y7 ((a.map (·.xs)).drop (i+1))).map (p++·):=by rw[Z0]at b;obtain⟨c,e⟩:=List.getElem?_eq_some_iff.mp b;simp_all[List.drop_eq_getElem_cons,Y7]
def tV(c:World)(d:Nat)(x:U2)(R:List HP)(o:Option (N7×List A5))(e:Ending)(w':World):Prop:=match o with
 |none=>e= .returned (.tuple #[jk,.slice none 0 0,I 21])∧Hp c w' (M1 d x::R)
 |some (l,S0)=>∃b a cap,e= .returned (.tuple #[Pt b,.slice a S0.length cap,I 0])∧Hp c w' (J5 d b l::so 195 za a cap S0::M1 d x::R)
theorem KR{o:Option (N7×List A5)}(h:Hp c w (M1 d x::R))(hx:1<=x.P1.length∧x.P1.length<=1000)(b:I' x=o):Cs 105 #[Pt d] w (tV c d x R o):=by
 obtain⟨s,hs⟩:∃s,Vf x=s:=⟨_,rfl⟩;have J:=YJ x;unfold I' at b;rw[hs]at b J;simp only at b;by_cases F:s.num>0
 ·rw[S1 F]at b;by_cases hb:s.first<1∨s.first>s.num∨s.num-s.first>=x.P1.length
  ·rw[S1 hb]at b;subst b;refine R2 func105 O (I2 h O λb1 w h=>?_);replace h:=Hp.W8 h;have a:=gM h hx;rw[hs]at a;refine xb a ?_;clear a;rintro _ w ⟨a1,u,rfl,h⟩;refine I2 h O λb2 w h=>J3 h 0 O O O λw h=>BR.not (Zt (Y6 h [0,51,2,3,4,6,5,57,8,9,10,11,13,16,12,14,15,67,18,19] λh=>U0 h 0 O O ⟨h,BR.T5 (λC=>?_) λC=>?_⟩))
   ·exact⟨h,Q5 ⟨h,Q5 ⟨rfl,h.q 3 [2] O⟩⟩⟩
   ·refine U3 0 O O (U0 h 0 O O ⟨h,BR.T5 (λr=>?_) λr=>?_⟩)
    ·exact⟨h,Q5 ⟨rfl,h.q 3 [2] O⟩⟩
    ·exact U3 0 O O (U3 0 O O (i5 (N1 (OF (h.g [2] O)) λw h=>⟨h.g [1,2] O,Zt ⟨rfl,h.q 3 [0] O⟩⟩)))
  ·rw[V0 hb]at b;obtain⟨q,hq⟩:∃q,va x (s.num-s.first+1).toNat s.first [[]]=q:=⟨_,rfl⟩;rw[hq]at b;cases q with
   |none=>simp only at b;subst b;refine R2 func105 O (I2 h O λb1 w h=>?_);replace h:=Hp.W8 h;have a:=gM h hx;rw[hs]at a;refine xb a ?_;clear a;rintro _ w ⟨a1,u,rfl,h⟩;refine acb λb2 w h=>?_;refine aca λw h=>?_;rintro _ w ⟨a2,E4,rfl,D,H,h⟩;exact Q5 ⟨rfl,h.q 4 [2] O⟩
   |some B0=>
    simp only at b;obtain⟨z,K⟩:∃z,Y7 B0=z:=⟨_,rfl⟩;rw[K]at b;refine R2 func105 O (I2 h O λb1 w h=>?_);replace h:=Hp.W8 h;have a:=gM h hx;rw[hs]at a;refine xb a ?_;clear a;rintro _ w ⟨a1,u,rfl,h⟩;refine acb λb2 w h=>?_;refine aca λw h=>?_;rintro _ w ⟨a2,E4,rfl,D,H,h⟩;refine m5 ?_;simp only[Option.getD_some]at D H;refine K9 h.tJ (λj h=>h.elim (λn h=>?_));have T:j.length=B0.length:=by have:=V4 List.length n;simpa using this
    have n:j.map (·.xs)=B0:=n;replace h:=h.G4 195 za;refine p5.A6 kn [5,6,9,56,57,58] (λm vs w'=>∃(i:Nat)(a3:Option Addr)(y:Nat)(e:List A5),vs=[Pt b1,Pt b2,.slice a3 e.length y,.slice a2 B0.length E4,I B0.length,I i]∧((Y7 (B0.drop i)).map (e++·)=z∧i+m=B0.length∧e.length<=40000*i)∧Hp c w' (so 195 za a3 y e::so 211 Nm a2 E4 j::C5 (j.map sb)::J5 d b1 ⟨1,1,1⟩::M1 d x::bk b2 [I s.num,I s.first,.bool s.Fc,.slice a1 s.data.length u] 301::R)) B0.length ⟨0,none,0,[],rfl,⟨Zb1,m4,Zb3⟩,h⟩ ?_;rintro m _ w1 Z ⟨i,a3,y,e,rfl,⟨k,him,hal⟩,h⟩;refine BR.T5 (λC=>?_) λC=>?_
    ·obtain⟨t,A⟩:∃t,i3 j i=some t:=⟨j[i]'m4,by rw[Z0];simp⟩;obtain⟨p,q,E⟩:∃p q,s8 t.xs.length t.xs=(p,q):=⟨_,_,rfl⟩;have Tu:t.xs.length<=16000:=D t.xs (by rw[<-n];exact List.mem_map.mpr ⟨t,by grind[Z0],rfl⟩);have G:=Kr t.xs.length t.xs;rw[E]at G;have v:=jD A E;rw[n]at v;refine Yt h 1 O λb3 X U9=>LD.qf h 1 O Zb9 A O ?_;have a:=ahH ((h.g [2] O).adj A) m4;rw[E]at a;refine xb a ?_;clear a;rintro _ w ⟨a4,V,rfl,L⟩;replace h:=h.H6 L;refine i5 (BR.T5 (λr=>?_) λr=>?_)
     ·have g2':(t.xs.length:Int)-(t.xs.length-q.length)>23:=r;rw[S1 m4]at v;rw[v]at k;obtain rfl:z=none:=k.symm;obtain rfl:o=none:=b.symm;exact⟨rfl,h.q 7 [5] O⟩
     ·refine A4.Pk (Ca.of (w9:=56) kn O O O O O O) h 1 O O O (h.Ew 0 O) m4 (λ_ _=>rfl) λa5 S w h=>i5 ?_;have g2':¬(t.xs.length:Int)-(t.xs.length-q.length)>23:=r;have alS:¬q.length>23:=λY=>g2' m4;rw[V0 alS]at v;rw[v]at k;simp only at G;refine⟨(m-1),m4,i+1,a5,S,e++p,rfl,⟨?_,m4,?_⟩,h.q 7 [1,2,3,4,5,6] O⟩
      ·rw[<-k,Option.map_map];congr 1;grind
      grind
    ·replace h:=(h.g [3] O).D9;have N:i=B0.length:=m4
     have M:Y7 (B0.drop i)=some []:=by rw[N,sE];rfl
     rw[M]at k;obtain rfl:z=some e:=Zb7
     obtain rfl:o=some (⟨s.num+1,s.first,s.first⟩,e):=b.symm;replace h:=h.q 6 [0,1,4,5] O;refine ja.D0 kn o8 (λw'=>Hp c w' ((sf λl=>bk b1 l 299)::so 195 za a3 y e::M1 d x::bk b2 [I s.num,I s.first,.bool s.Fc,.slice a1 s.data.length u] 301::R)) (qs [0,1,2,3,6,8,4,5,10,11,7,9] (ws [12] (qs [13,14] (ws [15] (qs [16,17] (vs [18] .done)))))) Zb2 (Hp.Jm h).drew ?_;replace h:=h.drew;refine U3 3 O O (i5 (U3 3 O O (U3 3 O O (J3 h 0 O O O λw h=>⟨Hp.Jm h,J3 h 0 O O O λw h=>⟨Hp.Jm h,J3 h 0 O O O λw h=>?_⟩⟩))));replace h:=Hp.W8 h;exact⟨_,_,_,rfl,h.q 4 [0,1,2] O⟩
 ·rw[V0 F]at b;subst b;refine R2 func105 O (I2 h O λb1 w h=>?_);replace h:=Hp.W8 h;have a:=gM h hx;rw[hs]at a;refine xb a ?_;clear a;rintro _ w ⟨a1,u,rfl,h⟩;refine I2 h O λb2 w h=>J3 h 0 O O O λw h=>BR.not (Te ?_);replace h:=h.G4 (195) za;exact⟨_,_,_,rfl,h.q 4 [2,0,3] O⟩
end
section
structure N7.Ok(l:N7):Prop where
 next:1<=l.next∧l.next<=4294967296
 first:1<=l.first∧l.first<=4294967295
 wj:0<=l.wj∧l.wj<=4294967296
theorem VL{l:N7}{p9:Int}(h:Hp c w (J5 d b l::M1 d x::R))(z:1<=x.P1.length∧x.P1.length<=1000)(r:l.Ok)(hs:Sx za w a P0.length cap P0)(k:P0.length<=10000)(A:0<=p9∧p9<=1000)(u: -1000<=O2∧O2<=1000):Cs 411 #[Pt b,.slice a P0.length cap,I p9,I O2] w (λe w'=>∃s t,e= .returned (.tuple #[.slice s (l.ra x P0 p9 O2).1.length t,I (l.ra x P0 p9 O2).2])∧Hp c w' (so 5 eB s t (l.ra x P0 p9 O2).1::J5 d b l::M1 d x::R)):=by
 have D:=r.next;have C:=r.wj;obtain⟨o,i⟩:∃o,N5 P0=o:=⟨_,rfl⟩;cases o with
 |none=>
  have e:l.ra x P0 p9 O2=([],10):=by unfold N7.ra;rw[i]
  rw[e];refine R2 func411 O ?_;have f:=UL hs k;rw[i]at f;refine xb f ?_;clear f;rintro _ w ⟨a1,p,rfl,j⟩;replace h:=h.H6 j;refine N1 (TL O Zb4 h) λw h=>?_;have ama:zd ((none:Option (List B)).getD [])=0:=Zb4
  refine i5 (Q5 ?_);replace h:=h.G4 (5) eB;exact⟨_,_,rfl,h.q 4 [0,2,3] O⟩
 |some bs=>
  have v:=Uh i;have e:l.ra x P0 p9 O2=if O2<0 then([],11)else if l.free x-(zd bs+p9)<O2∨l.next>4294967296-(zd bs+p9)then([],15)else(bs,0):=by unfold N7.ra;rw[i]
  have ano:=Wv bs;have y:l.free x=x.P1.length-l.next+l.wj:=rfl;by_cases c1:O2<0
  ·rw[S1 c1]at e;rw[e];refine R2 func411 O ?_;have f:=UL hs k;rw[i]at f;refine xb f ?_;clear f;rintro _ w ⟨a1,p,rfl,j⟩;replace h:=h.H6 j;refine N1 (TL O aok h) λw h=>WR.vp (i64 Zb1) (m5 (Zt ?_));replace h:=h.G4 (5) eB;exact⟨_,_,rfl,h.q 4 [0,2,3] O⟩
  rw[V0 c1]at e;by_cases c2:l.free x-(zd bs+p9)<O2∨l.next>4294967296-(zd bs+p9)
  ·rw[S1 c2]at e;rw[e];refine R2 func411 O ?_;have f:=UL hs k;rw[i]at f;refine xb f ?_;clear f;rintro _ w ⟨a1,p,rfl,j⟩;replace h:=h.H6 j;refine N1 (TL O aok h) λw h=>WR.vp (i64 Zb1) (m5 (Te (N1 (vY (h.g [1,2] O) m4 m4) λw h=>WR.vp (i64 Zb1) (BR.T5 (λn=>?_) λn=>?_))))
   ·refine Q5 ?_;replace h:=h.G4 (5) eB;exact⟨_,_,rfl,h.q 4 [0,1,2] O⟩
   ·replace h:=h.D9;refine U0 h 0 O O (WR.vp (i64 Zb1) (BR.T5 (λm=>?_) λm=>?_))
    ·replace h:=h.G4 (5) eB;replace h:Hp _ _ (J5 _ _ (l)::_):=Hp.W8 (h.g [1] O);exact⟨_,_,rfl,h.q 4 [1,0,2] O⟩
    ·exact absurd c2 Zb1
  ·rw[V0 c2]at e;rw[e];refine R2 func411 O ?_;have f:=UL hs k;rw[i]at f;refine xb f ?_;clear f;rintro _ w ⟨a1,p,rfl,j⟩;replace h:=h.H6 j;refine N1 (TL O aok h) λw h=>WR.vp (i64 Zb1) (m5 (Te (N1 (vY (h.g [1,2] O) m4 m4) λw h=>WR.vp (i64 Zb1) (BR.T5 (λn=>?_) λn=>?_))))
   ·refine Q5 ⟨_,_,wJ O ?_,h.g [2] O⟩;grind[]
   ·replace h:=h.D9;refine U0 h 0 O O (WR.vp (i64 Zb1) (BR.T5 (λm=>?_) λm=>?_))
    ·replace h:Hp _ _ (J5 _ _ (l)::_):=Hp.W8 h;refine⟨_,_,wJ O ?_,h.g [2] O⟩;grind[]
    ·replace h:Hp _ _ (J5 _ _ (l)::_):=Hp.W8 h;exact⟨_,_,rfl,h.g [2] O⟩
theorem wY{l:N7}{data:List B}{e:Bool}(h:Hp c w (J5 d b l::M1 d x::R))(k:1<=x.P1.length∧x.P1.length<=1000)(m:1<=l.next∧l.next<4294967296)(o:1<=l.first∧l.first<=4294967295)(hs:∀w',Hp c w' R->Sx eB w' a n cap data)(f:data.length<=16)(p:x.L4.length<=1000000):Cr 413 #[Pt b,.slice a n cap,.bool e] w c (.tuple #[]) (J5 d b (l.Gx x data e).1::M1 d (l.Gx x data e).2::R):=by
 obtain rfl:=(hs w (h.q 2 [] rfl)).len;have j:Xe ⟨l.next,l.first,e,data⟩:=⟨⟨Zb1,Zb6⟩,⟨Zb1,Zb1⟩,f⟩;refine R2 func413 O ?_;replace h:=h.D9;refine Y6 h [0,1,2,4,5,6,8,9,3,7,10,61,112] λh=>U3 0 O O (U3 0 O O (I2 h O λb1 w h=>⟨h.q 3 [1,2] O,J3 h 0 O O O λw h=>Y6 h [0,1,2,4,5,6,7,3,8,10,59,61,112] λh=>U3 1 O O (U3 1 O O (xg 0 O O ?_))⟩));replace h:Hp _ _ (J5 _ _ (l)::_):=Hp.W8 (h.g [1] O);refine N1 (FR (h.g [0,2] O) aok m4) λw h=>⟨by replace h:=h.D9;exact h.g [2] O,xb (afM (s:=⟨l.1,l.2,_,_⟩) ?_ Zb9) ?_⟩
 ·exact hs _ (h.q 3 [] O)
 rintro _ w ⟨a1,r,rfl,i⟩;replace h:=h.H6 i;refine⟨by replace h:=(h.g [1] O).D9;exact h.q 4 [3,0,2] O,xb (afN (h.g [0,2] O) ?_ Zb9) ?_⟩
 ·exact T6.Kk j
 rintro _ w ⟨rfl,h⟩;replace h:=(h.g [2] O).D9;refine U0 h 0 O O (i5 (J3 h 0 O O O λw h=>?_));replace h:=Hp.W8 h;exact⟨rfl,h.q 4 [0,2] O⟩
end
section
theorem afO(h:Hp c w R):Cs 431 #[.slice a n cap,I 16] w (λe w'=>∃b1 b2,e= .returned (.func (.func 443) #[] #[Pt b1,Pt b2])∧Hp c w' (bk b1 [.slice a n cap] 211::bk b2 [I 16] 3::R)):=by exact R2 func431 O (I2 h O λb1 w h=>I2 h O λb2 w h=>U0 h 0 O O (m5 ⟨_,_,rfl,h.g [1] O⟩))
def EJ(a:Option Addr)(n:Nat)(i:Nat):Value:= .slice (a.map (·.add (16*i*1))) (min 16 (n-16*i)) (min 16 (n-16*i))
theorem RD.aiq{P:Program}{T:Wm}{X:Nat->Bool}(f:N8 P T X){C:World->Prop}{e t:TypeId}{j:TypeInfo}{k:Nat}{b:Int}(d:T t=some ⟨.slice e,j⟩)(hs:Rb T e=some 1)
 (p:i=16*k)(o:16*k<n)(q:n<=cap)(r:b=i+min 16 ((n:Int)-i))(c:K (EJ a n k)):RD P C (Instr.sliceAt t (.slice a n cap) (some (I i)) (some (I b)) (some (I b))) K:=by
 refine RD.aki (l:=16*k) (m:=16*k+min 16 (n-16*k)) (x:=16*k+min 16 (n-16*k)) f d hs (Uy m4) (Uy m4) (Uy m4) m4 ?_;have g:16*k+min 16 (n-16*k)-16*k=min 16 (n-16*k):=m4
 rw[V0 m4,g];exact c
theorem aiP{b1 b2:Nat}(e:n<=cap)(o:n<=1000000000)(b:List Nat->HP):
 Nv prog 443 [Pt b1,Pt b2] (λ(i:Nat)=>[EJ a n i]) c (λl=>l=List.range ((n+15)/16)) (λl=>∃k,16*k<n∧l=List.range (k+1)) b (bk b1 [.slice a n cap] 211::bk b2 [I 16] 3::R) (bk b1 [.slice a n cap] 211::bk b2 [I 16] 3::R):=by
 intro l X q W d h;refine R2 func443 O (p5.A6 kn [0,1,2,4] (λm vs w'=>∃(i:Int)(k:Nat),vs=[.func (.yield l) #[] #[],Pt b1,Pt b2,I i]∧(i=16*k∧16*k<n+16∧k+m=(n+15)/16)∧Hp c w' (b (List.range k)::X::bk b1 [.slice a n cap] 211::bk b2 [I 16] 3::R)) ((n+15)/16) ⟨0,0,rfl,m4,h⟩ ?_);rintro m _ w1 p ⟨i,k,rfl,j,h⟩;refine U0 h 2 O O (BR.T5 (λf=>?_) λf=>?_)
 ·refine ja.D0 kn o8 (λw'=>Hp c w' (b (List.range k)::X::bk b1 [.slice a n cap] 211::bk b2 [I 16] 3::R)) (qs [2,0,1,3,4,5,6] .done) Zb2 h.drew ?_;replace h:=h.drew;refine U3 3 O O (U3 2 O O (RD.cut (l:=Int.toNat _) kn O O (Xr m4) O m4 (U0 h 2 O O (i5 (i5 (RD.aiq (k:=k) kn O O m4 m4 e (by split<;>omega) ?_))))));have hx:List.range (k+1)=List.range k++[k]:=JN;refine qV.at (d (List.range k) k _ _ ⟨k,m4,hx.symm⟩ h) ?_;rintro _ w (⟨rfl,h⟩|⟨rfl,h⟩)
  ·refine⟨_,rfl,?_⟩;rw[<-hx]at h;refine m5 (U0 h 3 O O (i5 ⟨(m-1),?_,_,_,rfl,?_,h⟩))
   ·omega
   ·omega
  ·refine⟨_,rfl,Q5 ⟨?_,?_⟩⟩
   ·simp
   grind
 ·have g:k=(n+15)/16:=m4
  subst g;exact⟨⟨_,rfl⟩,.inl ⟨_,rfl,h⟩⟩
def Ps(l:N7)(x:U2)(bs:List B):Nat->N7×U2
 |0=>(l,x)
 |k+1=>(Ps l x bs k).1.Gx (Ps l x bs k).2 ((bs.drop (16*k)).take 16) (decide (k=0))
theorem Iq(l:N7)(x:U2)(bs:List B):∀k,(Ps l x bs k).1.next=l.next+k∧(Ps l x bs k).1.first=l.first∧(Ps l x bs k).1.wj=l.wj∧(Ps l x bs k).2.P1.length=x.P1.length∧(Ps l x bs k).2.L4.length<=x.L4.length+k
 |0=>⟨by simp[Ps],rfl,rfl,rfl,by simp[Ps]⟩
 |k+1=>by
  obtain⟨j,f,e,c,h⟩:=Iq l x bs k;have a:∀(d:U2)(i:Int)(b:List B),(d.x7 i b).2.P1=d.P1∧(d.x7 i b).2.L4.length<=d.L4.length+1:=by
   intro d i b;unfold U2.x7;split
   ·simp
   split
   ·simp
   ·simp
  obtain⟨g,m⟩:=a (Ps l x bs k).2 (W9 (Ps l x bs k).1.next (Ps l x bs k).2) (T6.bytes ⟨(Ps l x bs k).1.next,(Ps l x bs k).1.first,decide (k=0),(bs.drop (16*k)).take 16⟩);refine⟨?_,f,e,?_,?_⟩
  ·show(Ps l x bs k).1.next+1=_
   omega
  ·show(U2.x7 _ _ _).2.P1.length=_;rw[g,c]
  ·show(U2.x7 _ _ _).2.L4.length<=_;omega
theorem rA(l:N7)(x:U2)(bs:List B):∀k,16*k<bs.length+16->l.x7 x bs.length true bs=(Ps l x bs k).1.x7 (Ps l x bs k).2 (bs.length-k) (decide (k=0)) (bs.drop (16*k))
 |0,_=>by simp[Ps]
 |k+1,i=>by
  rw[rA l x bs k m4];obtain⟨f,a⟩:∃f,bs.length-k=f+1:=⟨bs.length-k-1,m4⟩;have d:bs.length-(k+1)=f:=m4
  have g:¬bs.drop (16*k)=[]:=by intro e;have:=V4 List.length e;rw[Ve]at this;simp at this;omega
  have c:(bs.drop (16*k)).drop 16=bs.drop (16*(k+1)):=by rw[du];congr 1
  have b:decide (k+1=0)=false:=Zb3
  rw[a,d,b,<-c]
  conv=>lhs;unfold N7.x7
  rw[V0 g];rfl
theorem KC(l:N7)(x:U2)(bs:List B):l.x7 x bs.length true bs=Ps l x bs ((bs.length+15)/16):=by
 rw[rA l x bs ((bs.length+15)/16) m4];have e:bs.drop (16*((bs.length+15)/16))=[]:=Dz m4;rw[e];generalize bs.length-(bs.length+15)/16=f;cases f with
 |zero=>rfl
 |succ f=>unfold N7.x7;simp
theorem Sx.G2{E:Qb α}{k:Nat}{xs:List α}(hs:Sx E c a n cap xs)(g:0<n)(e:n<=k):Sx E c a n k xs:=by
 rcases hs.sl.A6 with⟨_,h0,_,_⟩|⟨b,o,rfl,d,f⟩
 ·omega
 ·exact⟨.row d f,hs.len,e⟩
theorem sS{k:Nat}(hs:Sx eB w a bs.length cap bs)(f:16*k<bs.length):Sx eB w (a.map (·.add (16*k*1))) (min 16 (bs.length-16*k)) (min 16 (bs.length-16*k)) ((bs.drop (16*k)).take 16):=by
 have d:=hs.cap;have c:=hs.drop (l:=16*k) m4;rw[V0 m4]at c;have b:=c.take (m:=min 16 (bs.length-16*k)) m4;have e:(bs.drop (16*k)).take (min 16 (bs.length-16*k))=(bs.drop (16*k)).take 16:=by
  by_cases h16:16<=bs.length-16*k
  ·simp
  ·simp
 rw[e]at b;exact b.G2 m4 (V7 _)
theorem Hp.ajX{P Q:HP}(h:Hp c w (P::Q::C5 R::[])):Hp c w (P::Q::R):=Hp.Od (Hp.R6 (h.g [2] O)) List.perm_append_comm
theorem xY{l:N7}(h:Hp c w (J5 d b l::M1 d x::R))(hx:1<=x.P1.length∧x.P1.length<=1000)(hn:1<=l.next∧l.next+(bs.length+15)/16<=4294967296)(hf:1<=l.first∧l.first<=4294967295)(hs:∀w' L,Hp c w' (R++L)->Sx eB w' a n cap bs)(hb:bs.length<=1000000)(hc:x.L4.length<=900000):Cr 412 #[Pt b,.slice a n cap] w c (.tuple #[]) (J5 d b (l.x7 x bs.length true bs).1::M1 d (l.x7 x bs.length true bs).2::R):=by
 have t:=hs w [] (by rw[Jb];exact h.q 2 [] O);obtain rfl:=t.len;have z:=t.cap;rw[KC];replace h:Hp c w (J5 d b l::M1 d x::C5 R::[]):=h.map λm Q=>by obtain⟨C,v,K,J,H,G⟩:=Q;obtain⟨x2,f,s,F,r,o⟩:=J;refine⟨C,v,K,⟨x2,f,s,?_,r,o⟩,H,G⟩;exact(Qf R [] f).1 Zb6
 refine Fa kn func412 O O (I2 h O λb1 w h=>I2 h O λb2 w h=>J3 h 0 O O O λw h=>ga (afO (n:=bs.length) h) λX V w h=>?_);replace h:Hp c w (C5 [bk b1 [Pt b] 159,bk b2 [.bool (decide (([]:List Nat).length=0))] 4,J5 d b (Ps l x bs ([]:List Nat).length).1,M1 d (Ps l x bs ([]:List Nat).length).2,C5 R]::bk X [.slice a bs.length cap] 211::bk V [I 16] 3::[]):=Hp.C3 (A:=[bk b1 [Pt b] 159,bk b2 [.bool true] 4,J5 d b l,M1 d x,C5 R]) (h.g [3,2,4,5,6] O);refine RF.Zi kn O O (λ(i:Nat)=>[EJ a bs.length i]) (λ_=>rfl) O O O (λl=>l=List.range ((bs.length+15)/16)) (λl=>∃k,16*k<bs.length∧l=List.range (k+1)) (λp=>C5 [bk b1 [Pt b] 159,bk b2 [.bool (decide (p.length=0))] 4,J5 d b (Ps l x bs p.length).1,M1 d (Ps l x bs p.length).2,C5 R]) (λ_=>d6 False) h (aiP z m4 _) ?_ ?_ ?_
 ·rintro pre i W M ⟨k,S,N⟩ h;obtain⟨rfl,hki⟩:pre=List.range k∧k=i:=by rw[JN]at N;simp_all
  subst hki;have E:(List.range k).length=k:=yz;obtain⟨y,e⟩:∃y,Ps l x bs k=y:=⟨_,rfl⟩;have u:=Iq l x bs k;rw[e]at u;rw[E,e]at h;replace h:=h.R6;have T:(List.range k++[k]).length=k+1:=Zb3
  have Y:Ps l x bs (k+1)=y.1.Gx y.2 ((bs.drop (16*k)).take 16) (decide (k=0)):=by rw[<-e];rfl
  refine⟨[bk b1 [Pt b] 159,bk b2 [.bool (decide (k=0))] 4,J5 d b y.1,M1 d y.2,C5 R],h,λW M h=>?_⟩;refine U0 h 0 O O (U0 h 1 O O ?_);obtain⟨s,F,r,o,Z⟩:=u;refine N1 (wY (data:=(bs.drop (16*k)).take 16) (h.g [2,3] O) m4 m4 m4 (λw' h=>sS (hs w' M (h.q 3 [2] O).R6) S) Zb5 m4) λw h=>?_;rw[<-Y]at h;refine J3 h 3 O O O λw h=>?_;show Hp _ _ (C5 [bk b1 [Pt b] 159,bk b2 [.bool (decide ((List.range k++[k]).length=0))] 4,J5 d b (Ps l x bs (List.range k++[k]).length).1,M1 d (Ps l x bs (List.range k++[k]).length).2,C5 R]::M);rw[T,show decide (k+1=0)=false from by simp];exact Hp.C3 (h.g [2,3] O)
 ·rintro D p W rfl h;have hlr:(List.range ((bs.length+15)/16)).length=(bs.length+15)/16:=yz;rw[hlr]at h;replace h:=h.R6;exact Mz.one h (i:=5) O O λw h=>⟨rfl,Hp.ajX (h.q 8 [2,3,4] O)⟩
 ·rintro D j W h;exact h.uf.1.elim
end
section
theorem oy{l:N7}{p9:Int}{e:Int}(h:l.ra x P0 p9 O2=(bs,e))(c:P0.length<=10000):bs.length<=1000000∧(e=0->l.next+(bs.length+15)/16+p9<=4294967296):=by
 have h0:e=0->N5 P0=some bs∧l.next+zd bs+p9<=4294967296:=by intro b;have:=Gr (l:=l) (d:=x) (P0:=P0) (p9:=p9) (O2:=O2) Zb1;rw[h]at this;exact⟨this.1,this.2.2.2⟩
 have a:e=0∨bs=[]:=by
  unfold N7.ra at h;split at h
  ·simp_all
  ·grind
 refine⟨?_,λb=>?_⟩
 ·rcases a with a|a
  ·have:=Uh (h0 a).1;omega
  ·rw[a];simp
 simp_all[Wv]
theorem cR{l:N7}(h:Hp c w (J5 d b l::M1 d x::R))(p:1<=x.P1.length∧x.P1.length<=1000)(j:l.Ok)(hs:Sx za w a P0.length cap P0)(m:P0.length<=10000)(o: -1000<=O2∧O2<=1000)(t:x.L4.length<=900000):Cr 438 #[Pt b,.slice a P0.length cap,I O2] w c (I (l.append x P0 O2).1) (J5 d b (l.append x P0 O2).2.1::M1 d (l.append x P0 O2).2.2::R):=by
 have z:=j.next;have v:=j.first;obtain⟨bs,e,i⟩:∃bs e,l.ra x P0 0 O2=(bs,e):=⟨_,_,rfl⟩;obtain⟨u,he0⟩:=oy i m;by_cases k:e=0
 ·have n:l.append x P0 O2=(0,l.x7 x bs.length true bs):=by unfold N7.append;rw[i];simp[k]
  have he0:=he0 k;subst k;obtain⟨y,r⟩:∃y,l.x7 x bs.length true bs=y:=⟨_,rfl⟩;rw[n,r];refine R2 func438 O ?_;have f:=VL (p9:=0) h p j hs m m4 o;rw[i]at f;refine xb f ?_;clear f;rintro _ w ⟨a1,s,rfl,h⟩;refine Q5 (xb (xY (h.g [1,2] O) Zb9 ?_ Zb9 ?_ Zb9 Zb9) ?_)
  ·omega
  ·exact λw' L h=>h.Z4 0 O
  rintro _ w ⟨rfl,h⟩;refine⟨rfl,Hp.subst (h.q 3 [0,1] O) ?_⟩;grind[]
 ·have n:l.append x P0 O2=(e,l,x):=by unfold N7.append;rw[i];simp[k]
  rw[n];refine R2 func438 O ?_;have f:=VL (p9:=0) h p j hs m m4 o;rw[i]at f;refine xb f ?_;clear f;rintro _ w ⟨a1,s,rfl,h⟩;exact Wa ⟨rfl,h.q 3 [1,2] O⟩
theorem IA{l:N7}(h:Hp c w (J5 d b l::M1 d x::R))(a:x.Ok):Cr 401 #[Pt b] w c (.tuple #[]) (J5 d b (l.Z8 x).1::M1 d (l.Z8 x).2::R):=by refine R2 func401 O ?_;replace h:=h.D9;refine U0 h 0 O O (N1 (afX (h.g [1] O) Zb9) λw h=>U0 h 1 O O (J3 h 1 O O O λw h=>?_));replace h:=Hp.W8 (h.g [1] O);exact⟨rfl,h⟩
theorem AY{l:N7}(h:Hp c w (J5 d b l::M1 d x::R))(s:1<=x.P1.length∧x.P1.length<=1000)(k:l.Ok)(hs:Sx za w a P0.length cap P0)(n:P0.length<=10000)(r: -1000<=O2∧O2<=1000)(D:x.L4.length<=800000):Cr 400 #[Pt b,.slice a P0.length cap,I O2] w c (I (l.T0 x P0 O2).1) (J5 d b (l.T0 x P0 O2).2.1::M1 d (l.T0 x P0 O2).2.2::R):=by
 have G:=k.next;have F:=k.first;obtain⟨bs,e,i⟩:∃bs e,l.ra x P0 1 O2=(bs,e):=⟨_,_,rfl⟩;obtain⟨E,he0⟩:=oy i n;by_cases m:e=0
 ·have p:l.T0 x P0 O2=(0,N7.Gx {(l.x7 x bs.length true bs).1 with first:=l.next} (l.x7 x bs.length true bs).2 [] true):=by unfold N7.T0;rw[i];simp[m]
  have he0:=he0 m;subst m;have o:=Iq l x bs ((bs.length+15)/16);rw[<-KC]at o;obtain⟨y,j⟩:∃y,l.x7 x bs.length true bs=y:=⟨_,rfl⟩;rw[p];rw[j]at o⊢;obtain⟨C,A,z,v,u⟩:=o;refine R2 func400 O ?_;have f:=VL (p9:=1) h s k hs n m4 r;rw[i]at f;refine xb f ?_;clear f;rintro _ w ⟨a1,t,rfl,h⟩;refine m5 ?_;replace h:=(h.g [1] O).D9;refine U0 h 0 O O ?_;replace h:Hp _ _ (J5 _ _ (l)::_):=Hp.W8 h;refine xb (xY (h.g [0,2] O) Zb9 ?_ Zb9 ?_ Zb9 m4) ?_
  ·omega
  ·exact λw' L h=>h.Z4 0 O
  rintro _ w ⟨rfl,h⟩;replace h:=h.D9;refine J3 h 0 O O O λw h=>?_;replace h:=Hp.W8 h;refine N1 (wY (data:=[]) h (by rw[j];omega) Zb1 Zb1 (λw' h=>(h.G4 5 eB).Z4 0 O) Zb4 (by rw[j];omega)) λw h=>?_;rw[j]at h;exact⟨rfl,h.q 3 [0,1] O⟩
 ·have p:l.T0 x P0 O2=(e,l,x):=by unfold N7.T0;rw[i];simp[m]
  rw[p];refine R2 func400 O ?_;have f:=VL (p9:=1) h s k hs n m4 r;rw[i]at f;refine xb f ?_;clear f;rintro _ w ⟨a1,t,rfl,h⟩;exact xq ⟨rfl,h.q 3 [1,2] O⟩
end
structure LB(d:U2)(l:N7):Prop where
 X9:l.Ok
 M6:d.Ok
 size:1<=d.P1.length∧d.P1.length<=128
 L4:d.L4.length<=128
theorem qa.sj{d:U2}{l:N7}{x6:List T6}{k:Nat}(h:qa d l x6 k):LB d l:=by
 have m:=h.ring.s1;have j:=h.ring.s2;have r:=h.ring.f1;have p:=h.kl;have o:=h.len;have v:=h.next;have hsu:=h.wj;have f:d.L4.length<=128:=by rw[h.pu.L4,H7,Ve];omega
 have adW:∀i(c:i<x6.length),x6[i].num=l.first+i∧Xe x6[i]:=by
  intro i c;by_cases g:k<=i
  ·grind[sec]
  ·have b:i<(x6.take k).length:=by rw[Ga];omega
   have e:(x6.take k)[i]=x6[i]:=List.getElem_take;exact⟨by rw[<-e];exact h.ring.num i b,by rw[<-e];exact h.ring.ok i b⟩
 have q:l.first<=4294967295∧l.next<=4294967296:=by
  by_cases h0:x6.length=0
  ·have e:x6.take k=[]:=by rw[Dp h0];simp
   have:=h.ring.nil e;omega
  ·obtain⟨u,n⟩:=adW (x6.length-1) m4;have t:=n.num;omega
 refine⟨⟨m4,m4,m4⟩,⟨λy a=>?_,m4,m4⟩,⟨m,j⟩,f⟩;rw[h.pu.L4]at a;obtain⟨s,_,rfl⟩:=Un.1 a;simp_all[cB]
theorem s6.sj{d:U2}{l:N7}(h:s6 d l S0):LB d l:=by obtain⟨x6,k,a,_⟩:=h;exact a.sj
theorem Hy:∀(f:Nat)(b:List B),(s8 f b).1.length<=f
 |0,_=>V7 _
 |f+1,b=>by have:=Hy f (b.drop (rb b).2);unfold s8<;>grind
def To(l:List (List B)):Nat:=(l.map List.length).sum
theorem Du:∀(l:List (List B)){r9:List A5},Y7 l=some r9->r9.length<=To l
 |[],r9,h=>by simp_all[Y7]
 |row::l,r9,h=>by
  unfold Y7 at h;simp only at h;split at h
  ·cases h
  ·cases a:Y7 l with
   |none=>simp_all
   |some r=>rw[a]at h;injection h with h;have b:=Du l a;grind[Hy,To]
theorem QS(a b:List (List B)):To (a++b)=To a+To b:=by unfold To;simp
theorem dN:∀(l:List T6)(r9:List (List B)),(∀s∈l,s.data.length<=16)->To (S7 l r9)<=To r9+16*l.length
 |[],r9,_=>by unfold S7;simp
 |s::l,r9,h=>by
  have hs:=h s (Ka ..);have c:=λo=>dN l o λy a=>h y (Ta _ a);have b:∀o:List (List B),To (o.dropLast++[o.getLastD []++s.data])=To o+s.data.length:=by
   intro o;rcases EE o with rfl|⟨q,x,rfl⟩
   ·simp[To]
   ·grind[To]
  have d:To (if s.Fc then r9++[[]]else r9)=To r9:=by
   split
   ·rw[QS];simp[To]
   ·rfl
  grind[S7]
theorem s6.few{d:U2}{l:N7}(h:s6 d l S0):S0.length<=2048:=by
 obtain⟨x6,k,a,c⟩:=h.all;have p:=Du _ c;have adW:∀s∈x6,s.data.length<=16:=by
  intro s hs;obtain⟨i,b,rfl⟩:=List.getElem_of_mem hs;by_cases g:k<=i
  ·exact(a.sec i b g).2.1.len
  ·have f:i<(x6.take k).length:=by rw[Ga];omega
   have e:(x6.take k)[i]=x6[i]:=List.getElem_take;rw[<-e];exact(a.ring.ok i f).len
 have o:=dN x6 [[]] adW;have n:=a.len;have m:=a.ring.s2;have j:To [[]]=0:=rfl;omega
def Rng(d:U2):Prop:=∀y∈d.L4,0<=y.1∧y.1<d.P1.length
theorem Rng.x7{d:U2}(h:Rng d)(i:Int)(b:List B):Rng (d.x7 i b).2∧(d.x7 i b).2.P1.length=d.P1.length∧(d.x7 i b).2.L4.length<=d.L4.length+1:=by
 unfold U2.x7;split
 ·simp[*]
 ·rename_i c;split
  ·simp[*]
  ·have c:d.U' i=true:=by simpa using c
   unfold U2.U' at c;rw[Cd,xI,xI]at c;refine⟨λy a=>?_,rfl,Zb3⟩;rcases rh.1 a with a|a
   ·exact h y a
   simp_all
theorem Rng.aiI:∀(f:Nat){l:N7}{d:U2}(first:Bool)(b:List B),Rng d->Rng (l.x7 d f first b).2∧(l.x7 d f first b).2.P1.length=d.P1.length
 |0,_,_,_,_,h=>⟨h,rfl⟩
 |f+1,l,d,first,b,h=>by
  unfold N7.x7;split
  ·simp[*]
  ·obtain⟨c,a,_⟩:=h.x7 (W9 l.next d) (T6.bytes ⟨l.next,l.first,first,b.take 16⟩);simp_all[Rng.aiI,N7.Gx]
theorem iN{d:U2}{l:N7}(h:LB d l)(a:P0.length<=10000):(l.T0 d P0 O2).2.2.Ok:=by
 unfold N7.T0;simp only;split
 ·exact h.M6
 ·obtain⟨j,_⟩:=oy (l:=l) (x:=d) (P0:=P0) (p9:=1) (O2:=O2) (bs:=(l.ra d P0 1 O2).1) (e:=(l.ra d P0 1 O2).2) rfl a;generalize(l.ra d P0 1 O2).1=bs at j⊢;obtain⟨i,m⟩:=Rng.aiI bs.length (l:=l) true bs h.M6.1;have g:=Iq l d bs ((bs.length+15)/16);rw[<-KC]at g;obtain⟨f,c,b⟩:=i.x7 (W9 (l.x7 d bs.length true bs).1.next (l.x7 d bs.length true bs).2) (T6.bytes ⟨(l.x7 d bs.length true bs).1.next,l.next,true,[]⟩);have k:=h.L4;have h10:=h.size;exact⟨f,j9 b m4,j9 (yq c) m4⟩
theorem s6.gI{d:U2}{l:N7}(h:s6 d l S0)(a:(l.append d P0 O2).1=0):LB (l.append d P0 O2).2.2 (l.append d P0 O2).2.1:=by obtain⟨x6,k,e,_⟩:=h;obtain⟨b,_,c⟩:=e.append a;exact c.sj
structure KB(m:Nat)(k:J2):Prop where
 ok:k.Ok
 r9:∀e x,K0 k.ways e=some x->x.r9.length<=m
 room:∀e x,K0 k.ways e=some x->x.box.room<=8
section
theorem KB.up(h:KB m k)(b:m<=m'):KB m' k:=⟨h.ok,λe x a=>j9 (h.r9 e x a) b,h.room⟩
theorem KB.R4(h:KB m k)(g:M9):KB m {k with R4:=g}:=⟨⟨h.ok.p,h.ok.t,h.ok.w,h.ok.s⟩,h.r9,h.room⟩
theorem KB.eD(h:KB m k){e:End}{w w':Way}(b:K0 k.ways e=some w)(d:m<=m')(o:m'<=1000000)(c:w'.r9.length<=m')(i:w'.box.rd.length<=8)(q:w'.box.room<=8):KB m' {k with ways:=R1 k.ways e w'}:=by
 refine⟨⟨h.ok.p,h.ok.t,λj x a=>?_,λp n l=>?_⟩,λj x a=>?_,λj x a=>?_⟩
 ·have a:K0 (R1 k.ways e w') j=some x:=a;by_cases g:j=e
  ·subst g;rw[G1]at a;injection a with a;subst a;exact⟨(h.ok.w j w b).1,j9 c o,i⟩
  ·rw[Y0 g]at a;exact h.ok.w j x a
 ·have r:=h.ok.s p n l;have hs:∀j,(K0 k.ways j).isSome=true->(K0 (R1 k.ways e w') j).isSome=true:=by
   intro j f;by_cases g:j=e
   ·grind[G1]
   ·rw[Y0 g];exact f
  simp[*]
 ·have a:K0 (R1 k.ways e w') j=some x:=a;by_cases g:j=e
  ·simp_all[G1]
  ·rw[Y0 g]at a;exact j9 (h.r9 j x a) d
 ·have a:K0 (R1 k.ways e w') j=some x:=a;by_cases g:j=e
  ·simp_all[G1]
  ·rw[Y0 g]at a;exact h.room j x a
theorem KB.Z6(h:KB m k)(c:m+1<=1000000)(N3 to:Int)(x:P9)(C0:Int):KB (m+1) (k.Z6 N3 to x C0).2:=by
 have a:KB (m+1) k:=h.up (j' m);unfold J2.Z6;split
 ·exact a
 ·split
  ·exact a
  ·split
   ·exact a
   ·simp only;generalize(if k.Ia N3 then(⟨to,0⟩:End)else⟨N3,1⟩)=e;split
    ·exact a
    ·split
     ·exact a
     ·rename_i w b;refine h.eD b (j' m) c ?_ (h.ok.w _ w b).2.2 (h.room _ w b);have:=h.r9 _ _ b;simp[*]
theorem xP(l:List α)(i:Nat):(pj l i).length<=l.length:=by grind[pj]
theorem dO(b:Yk)(to:jc)(o:BitVec 64)(i:Int):(b.take to o i).2.2.rd.length<=b.rd.length∧(b.take to o i).2.2.room=b.room:=by
 unfold Yk.take;split
 ·simp
 ·split
  ·simp
  simp[xP]
theorem KB.J6(h:KB m k)(b:m<=1000000)(N3 E0 i C0:Int):KB m (k.J6 N3 E0 i C0).2.2:=by
 unfold J2.J6;split
 ·exact h
 ·rename_i w a;split
  ·exact h
  ·split
   ·exact h
   ·obtain⟨d,c⟩:=dO w.box (k.Ro N3) 0#64 i;exact h.eD a (V7 m) b (h.r9 _ w a) (j9 d (h.ok.w _ w a).2.2) (by show(w.box.take _ _ _).2.2.room<=8;rw[c];exact h.room _ w a)
theorem lS{b:Yk}(c:b.rd.length<=8)(a:b.room<=8)(f:jc)(o:BitVec 64)(x:P9):(b.put f o x).2.2.rd.length<=8∧(b.put f o x).2.2.room<=8:=by unfold Yk.put<;>grind
theorem KB.A9(h:KB m k)(b:m<=1000000)(E0:Int)(up:Bool)(x:P9):KB m (k.A9 E0 up x).2:=by
 unfold J2.A9;split
 ·exact h
 ·rename_i w a;split
  ·exact h
  ·obtain⟨d,c⟩:=lS (h.ok.w _ _ a).2.2 (h.room _ _ a) (k.Ro E0) 0#64 x;exact h.eD a (V7 m) b (h.r9 _ w a) d c
theorem KB.Za(h:KB m k)(b:m<=1000000)(E0:Int)(up:Bool):KB m (k.Za E0 up).2:=by
 unfold J2.Za;split
 ·exact h
 ·rename_i w a;exact h.eD a (V7 m) b (ye _) (h.ok.w _ w a).2.2 (h.room _ w a)
theorem Vt{a b:Type}[DecidableEq a](f:a×b->b):∀(l:List (a×b))(k:a),K0 (l.map λx=>(x.1,f x)) k=(K0 l k).map λv=>f (k,v)
 |[],_=>rfl
 |x::l,k=>by
  rw[Kb];unfold K0;by_cases h:k=x.1
  ·simp[*]
  ·rw[V0 h,V0 h];exact Vt f l k
theorem DP{w:Way}(a b:Bool):(w.clear a b).r9.length<=w.r9.length∧(w.clear a b).box.rd.length<=w.box.rd.length∧(w.clear a b).box.room=w.box.room:=by grind[Way.clear]
theorem KB.clear(h:KB m k)(N3:Int):KB m (k.clear N3):=by
 have f:∀e x,K0 (k.clear N3).ways e=some x->∃y,K0 k.ways e=some y∧x.r9.length<=y.r9.length∧x.box.rd.length<=y.box.rd.length∧x.box.room=y.box.room:=by
  intro e x a;have a:K0 (k.ways.map λ(x:End×Way)=>(x.1,if x.1.up then x.2.clear (k.Ia N3) (decide (x.1.E0=N3))else x.2.clear (decide (x.1.E0=N3)) (k.Ia N3))) e=some x:=a;rw[Vt (λ(x:End×Way)=>if x.1.up then x.2.clear (k.Ia N3) (decide (x.1.E0=N3))else x.2.clear (decide (x.1.E0=N3)) (k.Ia N3))]at a;cases b:K0 k.ways e with
  |none=>simp_all
  |some y=>rw[b]at a;injection a with a;refine⟨y,rfl,?_⟩;grind[DP]
 refine⟨⟨h.ok.p,h.ok.t,λe x a=>?_,λp c g=>?_⟩,λe x a=>?_,λe x a=>?_⟩
 ·obtain⟨y,b,c,g,_⟩:=f e x a;have d:=h.ok.w e y b;exact⟨d.1,j9 c d.2.1,j9 g d.2.2⟩
 ·have d:=h.ok.s p c g;have hs:∀j,(K0 k.ways j).isSome=true->(K0 (k.clear N3).ways j).isSome=true:=by
   intro j l;show(K0 (k.ways.map λ(x:End×Way)=>(x.1,if x.1.up then x.2.clear (k.Ia N3) (decide (x.1.E0=N3))else x.2.clear (decide (x.1.E0=N3)) (k.Ia N3))) j).isSome=true;rw[Vt (λ(x:End×Way)=>if x.1.up then x.2.clear (k.Ia N3) (decide (x.1.E0=N3))else x.2.clear (decide (x.1.E0=N3)) (k.Ia N3))];cases b:K0 k.ways j with
   |none=>simp_all
   |some y=>rfl
  simp[*]
 ·obtain⟨y,b,c,_⟩:=f e x a;exact j9 c (h.r9 e y b)
 ·obtain⟨y,b,_,_,i⟩:=f e x a;rw[i];exact h.room e y b
end
abbrev PTT(x:PW):Prop:=PT (λ_=>True) (λ_=>True) x
structure PX(n m:Nat)(x:PW):Prop where
 pt:PTT x
 ss:SS n x.E0.U1
 kb:KB m x.O0
 pl:F8 x.O0.D0.A0 x.O0.D0.F0 x.O0.D0.L0
 B0:x.E0.B0.length<=80
section
variable{x:PW}
theorem Ul(x:PW)(O2:Int)(P0:List A5):(x.Z8 O2 P0).2.E0.U1=x.E0.U1∧(x.Z8 O2 P0).2.E0.B0=x.E0.B0:=by unfold PW.Z8<;>grind
theorem SS.amF{s:E1}(h:SS n s)(tx:Int):SS n (s.xe tx false).2:=by
 unfold E1.xe;split
 ·exact h
 ·split
  ·exact h
  ·exact h.K7 tx (V7 n) h.N0
theorem PX.up(h:PX n m x){n':Nat}(b:n<=n')(a:m<=m'):PX n' m' x:=⟨h.pt,h.ss.up b,h.kb.up a,h.pl,h.B0⟩
theorem PX.Y4(h:PX n m x){r0:E6}(c:K0 x.E0.B0 tx=some r0)(r:E6):PX n m (x.Y4 tx r):=by
 refine⟨h.pt.Y4 (λ_ _ _=>trivial) trivial r,?_,by grind[Ts,kb],by grind[Ts,pl],?_⟩
 ·have a:=(h.ss.Y4 tx r.J0).1;unfold PW.Y4;simp only;generalize(if¬(x.E0.U1.Y4 tx r.J0).2.2.1=0 then(0:Int)else(x.E0.U1.Y4 tx r.J0).1)=v;split
  ·obtain⟨b,_⟩:=Ul {x with E0:={x.E0 with U1:=(x.E0.U1.Y4 tx r.J0).2.2.2}} 12 (x.E0.U1.Y4 tx r.J0).2.1;split
   ·grind[SS.amF]
   simp[*]
  ·exact a
 ·have d:=h.B0;unfold PW.Y4;simp only;generalize(if¬(x.E0.U1.Y4 tx r.J0).2.2.1=0 then(0:Int)else(x.E0.U1.Y4 tx r.J0).1)=v;split
  ·obtain⟨_,b⟩:=Ul {x with E0:={x.E0 with U1:=(x.E0.U1.Y4 tx r.J0).2.2.2}} 12 (x.E0.U1.Y4 tx r.J0).2.1;split
   ·simp_all[Z7]
   simp_all[Z7]
  simp_all[Z7]
theorem Gb(x:PW)(tx:Int)(r:E6)(s9:Bool):(x.decide tx r s9).2.O0=x.O0∧(x.decide tx r s9).2.E0.me=x.E0.me:=by grind[PW.decide,Vl]
theorem PX.decide(h:PX n m x)(e:K0 x.E0.B0 tx=some r)(s9:Bool)(c:x.E0.U1.N9 tx=3):PX (n+16) m (x.decide tx r s9).2:=by
 obtain⟨b,d⟩:=Gb x tx r s9;refine⟨h.pt.decide (λ_ _ _=>trivial) trivial r s9 c (λ_=>trivial),?_,by rw[b];exact h.kb,by rw[b];exact h.pl,?_⟩
 ·unfold PW.decide;simp only;generalize(if s9=true then[(⟨4,tx,0#16,Y3,X0,X0⟩:A5),⟨6,tx,0#16,Y3,X0,X0⟩]else[⟨5,tx,0#16,Y3,X0,X0⟩])=P0;obtain⟨a,_⟩:=Ul x 0 P0;split
  ·rw[a];exact h.ss.up m4
  ·show SS (n+16) (E1.xe _ tx s9).2;rw[a];exact h.ss.xe tx s9
 ·unfold PW.decide;simp only;generalize(if s9=true then[(⟨4,tx,0#16,Y3,X0,X0⟩:A5),⟨6,tx,0#16,Y3,X0,X0⟩]else[⟨5,tx,0#16,Y3,X0,X0⟩])=P0;obtain⟨_,a⟩:=Ul x 0 P0;split
  ·rw[a];exact h.B0
  ·show(R1 (PW.E0 _).B0 tx _).length<=80;grind[Z7,B0]
theorem Bf(k:J2)(N3 to:Int)(y:P9)(C0:Int):(k.Z6 N3 to y C0).2.D0=k.D0:=by grind[J2.Z6]
theorem PX.Z6(h:PX n m x)(a:m+1<=1000000)(W0 tx H8 C0:Int):PX n (m+1) (x.Z6 W0 tx H8 C0):=by refine⟨h.pt.Z6 _ _ _ _,h.ss,h.kb.Z6 a _ _ _ _,?_,h.B0⟩;grind[PW.Z6,Bf,pl]
theorem PX.jb(h:PX n m x)(b:m+1<=1000000)(tx:Int)(r:E6)(C0:Int):PX n (m+1) (x.jb tx r C0):=by have a:PX n (m+1) x:=h.up (V7 n) (j' m);grind[PW.jb,Z6]
theorem PX.setRow(h:PX n m x){r0:E6}(a:K0 x.E0.B0 tx=some r0)(r:E6):PX n m {x with E0:={x.E0 with B0:=R1 x.E0.B0 tx r}}:=by refine⟨h.pt.setRow trivial r,h.ss,h.kb,h.pl,?_⟩;grind[Z7,B0]
theorem PX.take(h:PX n m x)(c:m+1<=1000000)(y:P9)(C0:Int):PX (n+16) (m+1) (x.take y C0).2:=by
 have a:PX (n+16) (m+1) x:=h.up m4 (j' m);unfold PW.take;split
 ·exact a
 ·rename_i r b;split
  ·exact a.setRow b _
  ·split
   ·split
    ·rename_i e;have d:=h.decide b (Decidable.decide (y.H8=1)) e;simp only;split
     ·exact d.up (V7 _) (j' m)
     simp_all[Z6]
    ·exact(h.up (n':=n+16) m4 (V7 m)).Z6 c _ _ _ _
   ·exact a
theorem PX.Q9(h:PX n m x)(C0:Int):PX n m {x with E0:={x.E0 with U1:=(x.E0.U1.Q9 C0).2}}:=⟨h.pt.Q9 C0,h.ss.Q9 C0,h.kb,h.pl,h.B0⟩
theorem Df(k:J2)(N3 p i C0:Int):(k.J6 N3 p i C0).2.2.D0=k.D0:=by grind[J2.J6]
theorem PX.J6(h:PX n m x)(a:m<=1000000)(N3 p i C0:Int):PX n m {x with O0:=(x.O0.J6 N3 p i C0).2.2}:=by refine⟨h.pt.O0 _,h.ss,h.kb.J6 a _ _ _ _,?_,h.B0⟩;grind[Df,pl]
end
section
theorem alp{pk:Nat}(h:Hp c w (bk b [v0,v1,v2,Pt pk,v4,v5] 162::R)):Cr 26 #[Pt b] w c (Pt pk) (bk b [v0,v1,v2,Pt pk,v4,v5] 162::R):=by exact R2 func26 O (U0 h 0 O O ⟨rfl,h⟩)
theorem ahd{kp:Nat}(h:Hp c w (bk b [Pt kp,I me,v2,v3,v4,v5] 162::bk kp (fc k g ak Xb mk) 129::R))(a:0<=k.D0.A0∧k.D0.A0<=6):Cr 228 #[Pt b,I C0] w c (.bool (decide (k.D0.K6 C0=me))) (bk b [Pt kp,I me,v2,v3,v4,v5] 162::bk kp (fc k g ak Xb mk) 129::R):=by exact R2 func228 O (Y6 h [0,1,2,5,7,8,9,3,10,54,56,11,12] λh=>U3 0 O O (U3 0 O O (N1 (Qz (h.g [1] O)) λw h=>⟨h.g [1] O,N1 (HF h Zb9) λw h=>⟨h.g [1] O,⟨rfl,h.g [1] O⟩⟩⟩)))
theorem ahc{kp:Nat}(h:Hp c w (bk b [Pt kp,I me,v2,v3,v4,v5] 162::bk kp (fc k g ak Xb mk) 129::bk pr [gb r.J0,I r.I1,I r.Y4,I r.N2,.bool r.z7,.bool r.Dn,.bool r.qt] 331::R))(d:0<=k.D0.A0∧k.D0.A0<=6)(a:0<=k.D0.F0∧k.D0.F0<=1000):Cr 229 #[Pt b,Pt pr,I C0] w c (.bool (decide (C0>=k.D0.M8 r.I1))) (bk b [Pt kp,I me,v2,v3,v4,v5] 162::bk kp (fc k g ak Xb mk) 129::bk pr [gb r.J0,I r.I1,I r.Y4,I r.N2,.bool r.z7,.bool r.Dn,.bool r.qt] 331::R):=by exact R2 func229 O (Y6 h [0,1,2,3,6,7,8,4,9,55,110,11,12] λh=>U3 0 O O (U3 2 O O (N1 (Qz (h.g [1] O)) λw h=>⟨h.g [1] O,N1 (XY h Zb9 Zb9) λw h=>⟨rfl,h.g [1] O⟩⟩)))
theorem afS{kp:Nat}(h:Hp c w (bk b [Pt kp,I me,v2,v3,v4,v5] 162::bk kp (fc k g ak Xb mk) 129::bk pr [gb r.J0,I r.I1,I r.Y4,I r.N2,.bool r.z7,.bool r.Dn,.bool r.qt] 331::R))(d:0<=k.D0.A0∧k.D0.A0<=6)(a:0<=k.D0.L0∧k.D0.L0<=1000):Cr 423 #[Pt b,Pt pr,I C0] w c (.bool (decide (C0>=k.D0.E5 r.I1))) (bk b [Pt kp,I me,v2,v3,v4,v5] 162::bk kp (fc k g ak Xb mk) 129::bk pr [gb r.J0,I r.I1,I r.Y4,I r.N2,.bool r.z7,.bool r.Dn,.bool r.qt] 331::R):=by exact R2 func423 O (Y6 h [0,1,2,3,6,7,8,4,9,55,110,11,12] λh=>U3 0 O O (U3 2 O O (N1 (Qz (h.g [1] O)) λw h=>⟨h.g [1] O,N1 (acU h Zb9 Zb9) λw h=>⟨rfl,h.g [1] O⟩⟩)))
end
section
theorem SL{m:BitVec 16}{p:Int}(h:Hp c w R):Cr 461 #[gb m,I p] w c (.bool (Qe (W m) p)) R:=by exact R2 func461 O (WR.W (N1 (kJ h) λw h=>⟨rfl,h⟩))
theorem rY{kb:Nat}(h:Hp c w (bk b [Pt kb,v1,v2] 321::bk kb (fc k g ak Xb mk) 129::R)):Cr 454 #[Pt b] w c (I k.D0.A0) (bk b [Pt kb,v1,v2] 321::bk kb (fc k g ak Xb mk) 129::R):=by exact R2 func454 O (U0 h 0 O O (N1 (Qz (h.g [1] O)) λw h=>⟨rfl,h.g [1] O⟩))
theorem afy{kb:Nat}(h:Hp c w (bk b [Pt kb,v1,v2] 321::bk kb (fc k g ak Xb mk) 129::R))(a:0<=k.D0.A0∧k.D0.A0<=6):Cr 455 #[Pt b,I C0] w c (.bool (k.D0.K6 C0==k.D0.A0)) (bk b [Pt kb,v1,v2] 321::bk kb (fc k g ak Xb mk) 129::R):=by exact R2 func455 O (U0 h 0 O O (N1 (Qz (h.g [1] O)) λw h=>N1 (HF h Zb9) λw h=>N1 (rY (h.g [1] O)) λw h=>⟨rfl,h⟩))
theorem AR{kb:Nat}{l j i u3 f e d a:Value}{bg:Int}(h:Hp c w (bk b [Pt kb,v1,v2] 321::bk kb (fc k g ak Xb mk) 129::bk pr [l,j,i,u3,I bg,f,e,d,a] 325::R))(n:0<=k.D0.A0∧k.D0.A0<=6)(m:0<=k.D0.L0∧k.D0.L0<=1000):Cr 225 #[Pt b,Pt pr] w c (I (k.D0.E5 bg)) (bk b [Pt kb,v1,v2] 321::bk kb (fc k g ak Xb mk) 129::bk pr [l,j,i,u3,I bg,f,e,d,a] 325::R):=by exact R2 func225 O (Y6 h [0,1,2,5,6,7,3,8,54,109,10] λh=>U3 0 O O (U3 2 O O (N1 (Qz (h.g [1] O)) λw h=>⟨h.g [1] O,N1 (acU h Zb9 Zb9) λw h=>⟨rfl,h.g [1] O⟩⟩)))
theorem aR{B0:List (Int×T4)}(h:Hp c w (bk b [v0,v1,.map (some m)] 321::mr I M5 m B0::R))(j:B0.length<=1000000):Cs 456 #[Pt b] w (λe w'=>∃a d,e= .returned (.slice a (T3 B0).length d)∧Hp c w' (so 3 O5 a d (T3 B0)::bk b [v0,v1,.map (some m)] 321::mr I M5 m B0::R)):=by have f:J7 Pe (B0.map (·.1))=T3 B0:=rfl;refine R2 func456 O (U0 h 0 O O (He (afv h) λb1 w h=>ga (JR (gf:=469) (ks:=B0.map (·.1)) (N:=B0.length) O (λi=>aiO i) Zb3 m4 (h.g [0,2] O)) λa1 k w h=>?_));rw[f]at h⊢;exact⟨_,_,rfl,h.q 4 [0,3,2] O⟩
end
theorem aby{P:Prop}(h:P:=by rintro _ w' ⟨rfl,h⟩;exact⟨rfl,(Hp.F3 (h.g [1,2,3,4] O)).g [1] O⟩):P:=h
section
theorem meK{kb:Nat}(h:Hp c w (bk b [Pt kb,v1,v2] 321::K1 kb k::R)):Cr 454 #[Pt b] w c (I k.D0.A0) (bk b [Pt kb,v1,v2] 321::K1 kb k::R):=by obtain⟨g,a,d,mk,h⟩:=(h.g [1] rfl).d5;refine(rY (g:=g) (ak:=a) (Xb:=d) (mk:=mk) (R:=Ma g k.R4::so 140 Om a d k.Kd::mr End.v cj mk k.ways::R) (h.g [4] O)).mono ?_;exact aby
theorem KZ{kb:Nat}(h:Hp c w (bk b [Pt kb,v1,v2] 321::K1 kb k::R))(e:0<=k.D0.A0∧k.D0.A0<=6):Cr 455 #[Pt b,I C0] w c (.bool (k.D0.K6 C0==k.D0.A0)) (bk b [Pt kb,v1,v2] 321::K1 kb k::R):=by obtain⟨g,a,d,mk,h⟩:=(h.g [1] rfl).d5;refine(afy (C0:=C0) (g:=g) (ak:=a) (Xb:=d) (mk:=mk) (R:=Ma g k.R4::so 140 Om a d k.Kd::mr End.v cj mk k.ways::R) (h.g [4] O) e).mono ?_;exact aby
theorem gG{kb:Nat}{r:T4}(h:Hp c w (bk b [Pt kb,v1,v2] 321::K1 kb k::M5 pr r::R))(e:F8 k.D0.A0 k.D0.F0 k.D0.L0):Cr 225 #[Pt b,Pt pr] w c (I (k.D0.E5 r.I1)) (bk b [Pt kb,v1,v2] 321::K1 kb k::M5 pr r::R):=by obtain⟨j,l,n,m⟩:=e;obtain⟨i,f,h⟩:=(h.g [2,1] rfl).w5;obtain⟨g,a,d,mk,h⟩:=(h.g [2] rfl).d5;refine(AR (g:=g) (ak:=a) (Xb:=d) (mk:=mk) (R:=so 3 O5 i f r.V3::Ma g k.R4::so 140 Om a d k.Kd::mr End.v cj mk k.ways::R) (h.g [6,0,4,5] O) m4 m4).mono ?_;rintro _ w' ⟨rfl,h⟩;have h:=(Hp.F3 (h.g [1,4,5,6] O)).g [2,3] O;exact⟨rfl,(Hp.E3 h).g [2,1] O⟩
theorem FA{kb:Nat}{E0 W0 H8:Int}(h:Hp c w (bk b [Pt kb,v1,v2] 321::K1 kb k::R))(d:k.Ok):Cr 468 #[Pt b,I E0,I W0,I tx,I H8,I C0] w c (.tuple #[]) (bk b [Pt kb,v1,v2] 321::K1 kb (k.Z6 k.D0.A0 E0 ⟨W0,E0,tx,H8⟩ C0).2::R):=by have a:=λ(w:World)(v1 v2:Value)(R:List HP)(h:Hp c w (bk b [Pt kb,v1,v2] 321::K1 kb k::R))=>meK h;exact R2 func468 O (Y6 h [0,1,2,4,6,7,8,9,10,11,12,3,55,113] λh=>U3 0 O O (N1 (a _ _ _ _ h) λw h=>⟨h,N1 (tY (m:=⟨_,_,_,_⟩) (h.g [1] O) Zb9) λw h=>⟨rfl,h.g [1] O⟩⟩))
end
def d9(a:List (Int×Nat)):List (Int×Nat):=(T3 a).map λn=>(n,(K0 a n).getD 0)
def fL(l:N7)(d:U2)(O2:Int)(P0:List A5):Int×N7×U2:=
 let y:=l.append d P0 O2
 if y.1=0 then(0,(y.2.1.Z8 y.2.2).1,(y.2.1.Z8 y.2.2).2)else(y.1,y.2.1,y.2.2)
theorem mH(x:PW)(O2:Int)(P0:List A5):x.Z8 O2 P0=((fL x.E0.X9 x.M6 O2 P0).1,{x with E0:={x.E0 with X9:=(fL x.E0.X9 x.M6 O2 P0).2.1},M6:=(fL x.E0.X9 x.M6 O2 P0).2.2}):=by grind[PW.Z8,fL]
section
theorem aga{a:Type}{f:Nat->a->HP}{B0:List (Int×a)}(h:Hp c w (bk b [v0,v1,v2,v3,.map (some m),v5] 162::mr I f m B0::R))(l:B0.length<=1000000):Cs 408 #[Pt b] w (λe w'=>∃d i,e= .returned (.slice d (T3 B0).length i)∧Hp c w' (so 3 O5 d i (T3 B0)::bk b [v0,v1,v2,v3,.map (some m),v5] 162::mr I f m B0::R)):=by have j:J7 Pe (B0.map (·.1))=T3 B0:=rfl;refine R2 func408 O (U0 h 0 O O (He (afR h) λb1 w h=>ga (JR (gf:=441) (ks:=B0.map (·.1)) (N:=B0.length) O (λk=>adO k) Zb3 m4 (h.g [0,2] O)) λa1 n w h=>?_));rw[j]at h⊢;exact⟨_,_,rfl,h.q 4 [0,3,2] O⟩
theorem JA(h:Hp c w R):Cs 397 #[Pt b] w (λe w'=>∃a,e= .returned (.func (.func 407) #[] #[Pt a])∧Hp c w' (bk a [Pt b] 61::R)):=by exact R2 func397 O (I2 h O λb1 w h=>⟨_,rfl,h⟩)
theorem iR{pl:Nat}{l:N7}(h:Hp c w (bk b [v0,v1,Pt pl,v3,v4,v5] 162::J5 d pl l::M1 d x::R))(j:s6 x l S0)(hs:Sx za w a P0.length cap P0)(o:P0.length<=10000)(m: -1000<=O2∧O2<=1000):Cr 417 #[Pt b,I O2,.slice a P0.length cap] w c (I (fL l x O2 P0).1) (bk b [v0,v1,Pt pl,v3,v4,v5] 162::J5 d pl (fL l x O2 P0).2.1::M1 d (fL l x O2 P0).2.2::R):=by
 have f:=j.sj;have p:=f.size;have q:=f.L4;have hb3:=f.X9;have hap:=λe=>(j.gI (P0:=P0) (O2:=O2) e).M6;obtain⟨y,n⟩:∃y,l.append x P0 O2=y:=⟨_,rfl⟩;have i:=λ(w:World)(R:List HP)(h:Hp c w (J5 d pl l::M1 d x::R))(hs:Sx za w a P0.length cap P0)=>cR (O2:=O2) h m4 hb3 hs o m m4;unfold fL;simp only;rw[n]at hap i⊢;by_cases k:y.1=0
 ·rw[S1 k];refine R2 func417 O (U0 h 0 O O (N1 (i _ _ (h.g [1,2] O) Zb9) λw h=>mf (U0 h 2 O O (N1 (IA h aol) λw h=>⟨Ya O ?_,h.g [2] O⟩))));assumption
 ·rw[V0 k];exact R2 func417 O (U0 h 0 O O (N1 (i _ _ (h.g [1,2] O) Zb9) λw h=>Wa ⟨rfl,h.g [2] O⟩))
theorem xu{kp:Nat}{W0 H8:Int}(h:Hp c w (bk b [Pt kp,I me,v2,v3,v4,v5] 162::K1 kp k::R))(a:k.Ok):Cr 422 #[Pt b,I W0,I tx,I H8,I C0] w c (.tuple #[]) (bk b [Pt kp,I me,v2,v3,v4,v5] 162::K1 kp (k.Z6 me k.D0.A0 ⟨W0,me,tx,H8⟩ C0).2::R):=by refine R2 func422 O (Y6 h [0,1,2,4,5,6,8,9,10,14,15,16,17,19,20,22,3,7,11,18,21,62,13,123] λh=>U3 0 O O (U3 0 O O (U3 0 O O (U3 0 O O (pg ((h.g [1] O).d5) λi d f e h=>N1 (Qz h) λw h=>⟨by replace h:Hp _ _ (K1 _ (k)::_):=Hp.F3 (h);exact h.g [1] O,?_⟩)))));replace h:Hp _ _ (K1 _ (k)::_):=Hp.F3 h;exact N1 (tY (m:=⟨_,_,_,_⟩) h Zb9) λw h=>⟨rfl,h.g [1] O⟩
end
end Go.Proofs.YtaaihojmcfaejaaGreatDoor
