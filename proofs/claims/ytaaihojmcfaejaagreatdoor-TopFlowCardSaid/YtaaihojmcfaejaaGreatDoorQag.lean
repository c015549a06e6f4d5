/- Lemmas for the tops: the walk of the house and its laws. No condition is added. -/
import Derived.Shelf.Spec.TrailingZeros
import Derived.Lib.TrailingZeros
import Derived.WalkKit
import Derived.WalkLawsBesides
import Derived.WalkSpells
import Derived.Outline
import Derived.Lib.Hide
import Derived.Below
import Derived.Test.YtaaihojmcfaejaaGreatDoorQaf
set_option linter.all false
namespace Go.Proofs.YtaaihojmcfaejaaGreatDoor
open Go Go.RowKit Tryz
variable{af:Array Edge}{x:BitVec 64}{up:Bool}{C0 N3 cl i p:Int}{L L' R:List HP}{l:List Value}{b cap g m n:Nat}{ρ:Operand->Value}{a:Option Addr}{dst:Option Nat}{db:String}{α β κ:Type}{t:TypeId}{v x0 x1 x2 x3:Value}{K:Value->Prop}{c w:World}{PQ:Y5}{E:Qb α}{f:κ×β->β}
theorem aaW{P:Prop}(h:P:=by replace h:=Hp.F6 ‹_› h;replace h:Hp _ _ (x5 _ (x)::_):=Hp.cc (h.g [1] O);exact⟨rfl,h.q 2 [0] O⟩):P:=h
theorem Sx.Vh{xs:List α}(hs:Sx E c a n cap xs)(b:m<=n):Sx E c a m cap (xs.take m):=by
 have h:=hs.cut (l:=0) (m:=m) ⟨ye _,b⟩;have e:(if cap=0 then a else a.map (·.add (0*E.sz)))=a:=by
  split
  ·rfl
  ·simp[Addr.add]
 simp_all
theorem aiE(a b:Nat)(h:b<=16):∃n:Int,(if(16:Int)-b<a then 16-(b:Int)else a)=n∧min (a:Int) (16-b)=n∧0<=n∧n<=a:=Zb1
theorem Hp.unit(h:Hp c w L):Hp c w (d6 True::L):=Hp.T' trivial h
theorem O6.lk{b:Bool}:K0 (O6.new n).S8 ⟨(n:Int),b⟩=none:=by refine fg λx a e=>?_;simp only[O6.new,List.mem_flatMap,List.mem_range]at a;grind
theorem O6.zzq:(O6.new (n+1)).S8=R1 (R1 (O6.new n).S8 ⟨(n:Int),true⟩ []) ⟨(n:Int),false⟩ []:=by
 rw[Gc O6.lk,Gc]
 ·simp[O6.new,List.range_succ,List.flatMap_append]
 ·rw[Ri O6.lk];simp[K0]
section
theorem acN(c:World):Js 231 [] c P9.v (λm=>!m.right):=by intro m w L h;exact R2 func231 O (I2 h O λb1 w h=>O4 h 0 O O (N1 (zR h) λw h=>⟨rfl,h.q 1 [] O⟩))
theorem hZ{x:O6}{xs:List P9}(h:Hp c w (x5 b x::R))(hs:Sx j8 w a xs.length cap xs)(F:xs.length<=1000000)(t:∀l,K0 x.S8 ⟨p,up⟩=some l->l.length<=16):Cr 176 #[Pt b,I p,.bool up,.slice a xs.length cap] w c (.tuple #[I (x.put p up xs).1,I (x.put p up xs).2.1]) (x5 b (x.put p up xs).2.2::R):=by
 refine R2 func176 O ?_;generalize e:x.put p up xs=r;obtain⟨H,h⟩:=h.Fq;refine U0 h 0 O O (RD.Fv CG h 1 O ⟨_,_⟩ (λj=>?_) λk D j h=>?_)
 ·refine Q5 ?_;simp[O6.put,j]at e;subst e;replace h:Hp _ _ (x5 _ (x)::_):=Hp.cc h;exact⟨rfl,h⟩
 ·refine m5 (ga (YV hs m4) λa1 v w o=>?_);replace h:=h.H6 o;refine N1 (aha (M:=d6 True) (λo=>acN c o) O h.unit m4) λw h=>?_;replace h:=h.uf.2;obtain⟨n,f,y,u⟩:=aiE (xs.filter (λx=>!!x.right)).length k.length (t _ j);have hF2:xs.filter (λx=>!!x.right)=xs.filter (λx=>x.right):=Zb3
  have hF3:=Rh (λ(x:P9)=>!!x.right) xs;obtain⟨a2,J,h⟩:=(h.g [1] rfl).ou;refine U0 h 0 O O (WR.vp (i64 Zb1) (ja.D0 kn o8 (λ_=>True) (qs [0,1,2,3,5,6,7] (ws [4] (vs [8] (qs [9,10] (vs [11] .done))))) Zb2 trivial ?_));replace h:=h.drew;obtain⟨C,G⟩:=h.Ch 2 rfl;have A:∀d,fF (some (I (if(16:Int)-k.length<(xs.filter (λx=>!!x.right)).length then 16-(k.length:Int)else(xs.filter (λx=>!!x.right)).length))) d=some ((n.toNat:Nat):Int):=by intro d;rw[f];exact Xr u.1
  refine RD.Vh kn O O O (A _) m4 ?_;have hs:=(h.Z4 2 O).Vh (m:=n.toNat) m4;have s:n.toNat=((xs.filter (λx=>!!x.right)).take n.toNat).length:=by rw[Ga];omega
  have Mh:Sl w.drew j8.sz (.slice a1 n.toNat v) ((xs.filter (λx=>!!x.right)).take n.toNat).length (j8.P3 ((xs.filter (λx=>!!x.right)).take n.toNat)):=by rw[<-s];exact hs.sl
  refine U0 h 0 O O ⟨trivial,A4.Pk (Ca.of (w9:=32) kn O O O O O O) h 1 O O O Mh m4 (λ_ _=>rfl) λa3 E w h=>?_⟩;have hn4:min ((xs.filter (λx=>x.right)).length:Int) (16-k.length)=n:=by rw[<-hF2];exact y
  refine J3 h 0 O O O λw h=>BR.T5 (λi=>?_) λi=>?_
  ·rw[f,hF2]at i;simp[O6.put,hn4,j,i]at e;subst e;replace h:=Hp.If h;replace h:=(h.g [0,2] O).V';replace h:=Hp.cc (h.g [2] O);refine⟨wJ O ?_,Hp.subst (h.q 2 [0] O) ?_⟩
   ·exact V4 (λ(z:Int)=>[I z,I 15]) f
   ·rw[hF2];rfl
  ·rw[f,hF2]at i;simp[O6.put,hn4,j,i]at e;subst e;replace h:=Hp.If h;replace h:=(h.g [0,2] O).V';replace h:=Hp.cc (h.g [2] O);refine⟨wJ O ?_,Hp.subst (h.q 2 [0] O) ?_⟩
   ·exact V4 (λ(z:Int)=>[I z,I 0]) f
   ·rw[hF2];rfl
theorem fZ{x:O6}{st:Bool}(h:Hp c w (x5 b x::R))(s:∀l,K0 x.S8 ⟨p,up⟩=some l->l.length<=16):Cr 178 #[Pt b,I p,.bool up,I i,.bool st] w c (.tuple #[(x.take p up i st).1.v,I (x.take p up i st).2.1]) (x5 b (x.take p up i st).2.2::R):=by
 refine R2 func178 O ?_;generalize a:x.take p up i st=r;refine I2 h O λb1 w h=>?_;obtain⟨z,h⟩:=(h.g [1] rfl).Fq;refine U0 h 0 O O (RD.Fv CG h 1 O ⟨_,_⟩ (λe=>?_) λm n e h=>?_)
 ·refine Q5 (J3 h 2 O O O λw h=>O4 h 2 O O ?_);simp[O6.take,e]at a;subst a;replace h:Hp _ _ (x5 _ (x)::_):=Hp.cc h;exact⟨rfl,h.q 2 [0] O⟩
 ·refine m5 (BR.T5 (λf=>?_) λf=>?_)
  ·refine Q5 (J3 h 3 O O O λw h=>O4 h 3 O O ?_);simp[O6.take,e,f]at a;subst a;exact aaW
  ·obtain⟨a1,u,h⟩:=h.ou;refine U0 h 0 O O (BR.T5 (λj=>?_) λj=>?_)
   ·refine J3 h 4 O O O λw h=>O4 h 4 O O ?_;simp[O6.take,e,f,j]at a;subst a;replace h:=Hp.If h;exact aaW
   ·refine U0 h 0 O O (jd h 1 O λb2 o y=>Oa.sl h 1 O Zb9 (K5 (d:=wx) m4) (I2 h O λt w h=>J3 h 0 O O O λw h=>BR.not (BR.O' (λk=>?_) λk=>?_)))
    ·refine O4 h 0 O O (J3 h 5 O O O λw h=>O4 h 5 O O ?_);simp[O6.take,e,f,j,k]at a;subst a;replace h:=Hp.If (h.g [1,2] O);replace h:=Hp.F6 Zb9 (h.g [0,2] O);replace h:Hp _ _ (x5 _ (x)::_):=Hp.cc (h.g [2] O);exact⟨rfl,h.q 3 [0] O⟩
    ·refine U0 h 1 O O (WR.vp (i64 Zb1) (N1 (WY (h.g [2] O) m4 Zb1) λw h=>J3 h 2 O O O λw h=>O4 h 1 O O (J3 h 5 O O O λw h=>O4 h 5 O O ?_)));simp[O6.take,e,f,j,k]at a;subst a;replace h:=Hp.If (h.g [2] O);replace h:=(h.g [0,2] O).V';replace h:=Hp.cc (h.g [2] O);exact⟨rfl,h.q 3 [0] O⟩
theorem ahN{x:O6}(h:Hp c w (x5 b x::R))(a:∀l,K0 x.S8 ⟨p,up⟩=some l->l.length<=16):Cr 132 #[Pt b,I p,.bool up,I i] w c (I (x.take p up i false).2.1) (x5 b (x.take p up i false).2.2::R):=by exact R2 func132 O (N1 (fZ h Zb9) λw h=>I2 h O λb1 w h=>J3 h 0 O O O λw h=>⟨rfl,h.q 2 [1] O⟩)
theorem ada{x:O6}(h:Hp c w (x5 b x::R))(m:∀l,K0 x.S8 ⟨p,up⟩=some l->l.length<=16):Cs 15 #[Pt b,I p,.bool up] w (λe w'=>∃a cap,e= .returned (.slice a (x.Ot p up).length cap)∧Hp c w' (so 55 j8 a cap (x.Ot p up)::x5 b x::R)):=by
 refine R2 func15 O ?_;generalize d:x.Ot p up=r;obtain⟨o,h⟩:=h.Fq;refine U0 h 0 O O (RD.Fv CG h 1 O ⟨_,_⟩ (λf=>?_) λj k f h=>?_)
 ·refine Q5 ?_;simp[O6.Ot,f]at d;subst d;replace h:=h.G4 (55) j8;replace h:Hp _ _ (x5 _ (x)::_):=Hp.cc (h.g [1,2] O);exact⟨_,_,rfl,h.g [1] O⟩
 ·refine m5 ?_;obtain⟨a1,n,h⟩:=h.ou;refine U0 h 0 O O (ga (YV (h.Z4 1 O) Zb1) λa2 q w i=>?_);replace h:=h.H6 i;simp[O6.Ot,f]at d;subst d;replace h:=Hp.If (h.g [1,2] O);replace h:=Hp.F6 Zb9 (h.g [0,2] O);replace h:Hp _ _ (x5 _ (x)::_):=Hp.cc (h.g [2] O);exact⟨_,_,rfl,h.g [1] O⟩
theorem akT{n:Int}(h:Hp c w R)(d:1<=n∧n<=6):Cs 78 #[I n] w (λe w'=>∃b,e= .returned (.tuple #[Pt b,I 0])∧Hp c w' (x5 b (O6.new n.toNat)::R)):=by
 refine R2 func78 O (Te (Te (A4.Xp lu.v Pt h λb1 w h=>I2 h O λb2 w h=>?_)));replace h:=h.g [1] rfl|>.yn (R:=GL)|>.g [1] O
 refine p5.A6 kn [4,15,16] (λm vs w'=>∃i:Int,vs=[Pt b2,I n,I i]∧(0<=i∧i+m=n)∧Hp c w' (bk b2 [.map (some b1)] 117::mr lu.v GL b1 (O6.new i.toNat).S8::R)) n.toNat ⟨0,rfl,m4,h⟩ ?_;rintro m _ w1 l ⟨i,rfl,f,h⟩;obtain⟨k,rfl⟩:∃k:Nat,i=k:=⟨i.toNat,m4⟩;have f1:K0 (O6.new (k:Int).toNat).S8 ⟨(k:Int),true⟩=none:=O6.lk;have f2:K0 (R1 (O6.new (k:Int).toNat).S8 ⟨(k:Int),true⟩ []) ⟨(k:Int),false⟩=none:=by rw[kg,Gc O6.lk,Ri O6.lk];simp[K0]
 have j:(O6.new ((k:Int)+1).toNat).S8=R1 (R1 (O6.new (k:Int).toNat).S8 ⟨(k:Int),true⟩ []) ⟨(k:Int),false⟩ []:=O6.zzq (n:=k);refine BR.T5 (λa=>?_) λa=>?_
 ·refine U0 h 0 O O (I2 h O λp w h=>?_);replace h:=h.G4 (55) j8;replace h:=Hp.If (vs:=[]) (h.g [1] O);refine A4.lG CG (h.g [2] O) ⟨_,_⟩ Zb9 O O O λw h=>U0 h 1 O O (I2 h O λo w h=>?_);replace h:=h.G4 (55) j8;replace h:=Hp.If (vs:=[]) (h.g [1] O);refine A4.lG CG (h.g [1] O) ⟨_,_⟩ Zb9 O O O λw h=>i5 ⟨(m-1),?_,_,rfl,?_,Hp.subst (h.g [1] O) ?_⟩
  ·omega
  ·omega
  ·grind[]
 ·obtain rfl:(k:Int)=n:=m4
  rw[kg]at h;replace h:Hp _ _ (x5 _ (O6.new k)::_):=Hp.cc h;exact⟨_,rfl,h⟩
end
theorem As{P:Prop}(h:P:=by replace h:Hp _ _ (K1 _ (k)::_):=Hp.F3 h;refine⟨A8 O ?_,h⟩;grind[J2.Er,J2.Ro]):P:=h
theorem Cm{P:Prop}(h:P:=by refine⟨A8 O ?_,h.q 2 [] O⟩;grind[End.ra,End.up]):P:=h
theorem abc{P:Prop}(h:P:=by
 refine⟨?_,?_⟩
 ·refine O4 h 0 O O ⟨?_,?_⟩
  ·refine N1 (sR h) λw h=>U0 h 1 O O (tg.bool O ⟨A8 O ?_,h.q 2 [] O⟩);grind[End.ra,End.up]
  ·refine U0 h 1 O O (N1 (sR h) λw h=>tg.bool O ⟨A8 O ?_,h.q 2 [] O⟩);grind[End.ra,End.up]
 ·refine U0 h 1 O O (O4 h 0 O O (N1 (sR h) λw h=>tg.bool O ⟨A8 O ?_,h.q 2 [] O⟩));grind[End.ra,End.up]):P:=h
theorem abb{P:Prop}(h:P:=by subst hr;replace h:=h.G4 (55) j8;replace h:Hp _ _ (K1 _ (k)::_):=Hp.F3 (h.g [1,2,3,4] O);exact⟨_,_,rfl,h.g [1] O⟩):P:=h
theorem Yk.zW(b:Yk)(t:jc)(o:BitVec 64):(b.P0 t o).1.length<=b.rd.length:=by grind[Yk.P0]
structure J2.Ok(k:J2):Prop where
 p:1<=k.D0.A0∧k.D0.A0<=6
 t:k.Kd.length=k.D0.A0.toNat+1
 w:∀e x,K0 k.ways e=some x->(0<=e.E0∧e.E0<k.D0.A0)∧x.r9.length<=1000000∧x.box.rd.length<=8
 s:∀p:Int,0<=p->p<k.D0.A0->(K0 k.ways ⟨p,0⟩).isSome=true∧(K0 k.ways ⟨p,1⟩).isSome=true
section
theorem XV(h:Hp c w R):Cr 53 #[.bool up] w c (I (Ec up)) R:=by
 refine R2 func53 O (BR.O' (λa=>?_) λa=>?_)
 ·refine⟨Ya O ?_,h⟩;grind[Ec]
 ·refine⟨Ya O ?_,h⟩;grind[Ec]
abbrev fc(k:J2)(g:Nat)(a:Option Addr)(cap m:Nat):List Value:=[I k.D0.A0,I k.D0.F0,I k.D0.L0,Pt g,.slice a k.Kd.length cap,U k.all,.map (some m)]
theorem bM{k:J2}(h:Hp c w (bk b (fc k g a cap m) 129::R)):Cr 292 #[Pt b,I N3] w c (.bool (k.Ia N3)) (bk b (fc k g a cap m) 129::R):=by exact R2 func292 O (U0 h 0 O O ⟨rfl,h⟩)
theorem HA{k:J2}(h:Hp c w (bk b (fc k g a cap m) 129::R)):Cr 419 #[Pt b,I N3] w c (.bool (k.K3 N3)) (bk b (fc k g a cap m) 129::R):=by
 refine R2 func419 O (BR.T5 (λd=>?_) λd=>?_)
 ·refine U0 h 0 O O ⟨A8 O ?_,h⟩;grind[J2.K3]
 ·refine⟨A8 O ?_,h⟩;grind[J2.K3]
theorem bR{k:J2}(h:Hp c w (bk b (fc k g a cap m) 129::Ma g k.R4::R)):Cr 449 #[Pt b,I N3] w c (U (k.Zq N3)) (bk b (fc k g a cap m) 129::Ma g k.R4::R):=by
 refine R2 func449 O (N1 (bM h) λw h=>BR.O' (λd=>?_) λd=>?_)
 ·refine Y6 h [0,1,2,4,5,6,3,57,108,9] λh=>U3 0 O O (U0 h 0 O O ⟨h,N1 (afB (o:=0#64) (h.g [1] O)) λw h=>⟨Ya O ?_,h.g [1] O⟩⟩);grind[J2.Zq]
 ·refine⟨Ya O ?_,h⟩;grind[J2.Zq]
theorem yR{e:End}{m:P9}(h:Hp c w R):Cr 235 #[e.v,m.v] w c (.bool (e.ra m)) R:=by
 refine R2 func235 O (I2 h O λb1 w h=>I2 h O λb2 w h=>ja.D0 kn o8 (λ_=>True) (ws [0] (vs [1] (qs [2,3,5] (.v2 4 (vs [6] (qs [7,8,9,12] (.v2 10 (.v2 11 (vs [13] (qs [14,15,16,17] .done)) 13 (qs [14] (vs [11] (qs [15,16,17] .done)))) 13 (qs [14] (vs [10,11] (qs [15,16,17] .done)))))) 6 (vs [4] (qs [7,8,9,12] (.v2 10 (.v2 11 (vs [13] (qs [14,15,16,17] .done)) 13 (qs [14] (vs [11] (qs [15,16,17] .done)))) 13 (qs [14] (vs [10,11] (qs [15,16,17] .done)))))))))) Zb2 trivial ?_);replace h:=h.drew;refine O4 h 0 O O ⟨trivial,N1 (zR h) λw h=>BR.O' (λb=>?_) λb=>?_⟩
 ·refine⟨?_,?_⟩
  ·refine U0 h 0 O O (U0 h 1 O O (BR.eq (λa=>?_) λa=>?_))
   ·exact abc
   ·refine⟨?_,?_⟩
    ·refine⟨?_,?_⟩
     ·exact Cm
     ·exact Cm
    ·exact Cm
  ·refine U0 h 1 O O (U0 h 0 O O (BR.eq (λa=>?_) λa=>?_))
   ·exact abc
   ·refine⟨?_,?_⟩
    ·refine⟨?_,?_⟩
     ·exact Cm
     ·exact Cm
    ·exact Cm
 ·refine⟨?_,?_⟩
  ·refine m5 ⟨?_,?_⟩
   ·refine⟨?_,?_⟩
    ·exact Cm
    ·exact Cm
   ·exact Cm
  ·refine m5 ⟨?_,?_⟩
   ·refine⟨?_,?_⟩
    ·exact Cm
    ·exact Cm
   ·exact Cm
theorem afF{k:J2}{q:Int}(h:Hp c w (K1 b k::R))(f:k.Ok):Cr 446 #[Pt b,I p,I q] w c (.bool (k.Er p q)) (K1 b k::R):=by
 have hth:∀x,k.K3 x=true->0<=x∧x<=k.D0.A0:=by intro x;simp[J2.K3]
 have hk0:=f;obtain⟨o,n,m,hs⟩:=f;refine R2 func446 O ?_;obtain⟨u,r,t,s,h⟩:=h.d5;refine Bs h (qs [0,1] (vs [2] (qs [3,4,5] (vs [6] (qs [7,8,9,10,11,13,16,17,18,20,23,24] (.w3 12 (qs [14,15,19,21,22] (ws [25] (vs [26] (qs [27,28] .done)))) 19 (qs [21,12,14,15,22] (ws [25] (vs [26] (qs [27,28] .done)))) 25 (qs [12,14,15] (ws [19] (qs [21] (ws [22] (vs [26] (qs [27,28] .done)))))))))))) λh=>N1 (HA h) λw h=>BR.O' (λl=>?_) λl=>?_
 ·refine N1 (HA h) λw h=>BR.O' (λj=>?_) λj=>?_
  ·refine⟨?_,?_⟩
   ·refine U0 h 0 O O ⟨h,Jc.sl h 2 O Zb1 λb1 e g=>Oa.EI (λ_ h=>h) 2 O Zb9 (K5 (d:=Uz) Zb1) (U3 0 O O (Jc.sl h 2 O Zb1 λb2 a i=>Oa.EI (λ_ h=>h) 2 O Zb9 (K5 (d:=Uz) Zb1) (N1 (bR h) λw h=>⟨h,N1 (PF h) λw h=>?_⟩)))⟩;exact As
   ·refine⟨?_,?_⟩
    ·refine U0 h 0 O O ⟨h,Jc.sl h 2 O Zb1 λb1 e g=>U3 0 O O (Jc.sl h 2 O Zb1 λb2 a i=>Oa.EI (λ_ h=>h) 2 O Zb9 (K5 (d:=Uz) Zb1) (Oa.EI (λ_ h=>h) 2 O Zb9 (K5 (d:=Uz) Zb1) (N1 (bR h) λw h=>⟨h,N1 (PF h) λw h=>?_⟩)))⟩;exact As
    ·refine N1 (bR h) λw h=>⟨h,U3 0 O O (Jc.sl h 2 O Zb1 λb1 e g=>Oa.EI (λ_ h=>h) 2 O Zb9 (K5 (d:=Uz) Zb1) (U0 h 0 O O ⟨h,Jc.sl h 2 O Zb1 λb2 a i=>Oa.sl h 2 O Zb9 (K5 (d:=Uz) Zb1) ⟨h,N1 (PF h) λw h=>?_⟩⟩))⟩;exact As
  ·refine⟨?_,?_⟩
   ·refine⟨h,⟨h,?_⟩⟩;exact As
   ·refine⟨?_,?_⟩
    ·refine⟨h,⟨h,?_⟩⟩;exact As
    ·refine⟨h,⟨h,⟨h,?_⟩⟩⟩;exact As
 ·refine m5 ⟨?_,?_⟩
  ·refine⟨h,⟨h,?_⟩⟩;exact As
  ·refine⟨?_,?_⟩
   ·refine⟨h,⟨h,?_⟩⟩;exact As
   ·refine⟨h,⟨h,⟨h,?_⟩⟩⟩;exact As
theorem gZ{k:J2}(h:Hp c w (K1 b k::R)):Cs 177 #[Pt b,I p,.bool up] w (λe w'=>∃a cap,e= .returned (.slice a (k.Za p up).1.length cap)∧Hp c w' (so 55 j8 a cap (k.Za p up).1::K1 b (k.Za p up).2::R)):=by
 refine R2 func177 O ?_;generalize hr:k.Za p up=r;obtain⟨s,n,q,o,h⟩:=h.d5;refine Y6 h [0,1,2,4,5,3,56,7,58,9,10,11,12,13] λh=>U3 0 O O (N1 (XV h) λw h=>⟨h,RD.Fv Nu h 3 O ⟨p,Ec up⟩ (λd=>?_) λf i d h=>?_⟩)
 ·refine⟨h,Q5 ?_⟩;simp[J2.Za,d]at hr;exact abb
 ·refine⟨m4,m5 ?_⟩;obtain⟨m,j,l,h⟩:=h.Hf;refine U0 h 0 O O (J3 h 0 O O O λw h=>?_);simp[J2.Za,d]at hr;subst hr;replace h:=h.G4 (55) j8;replace h:=Hp.vd (oF:=[]) (h.g [1,0,3] O);replace h:=(h.g [0,2] O).V';replace h:=Hp.F3 (h.g [2,3,4] O);exact⟨_,_,rfl,h.g [1] O⟩
theorem GR{k:J2}(h:Hp c w (K1 b k::R))(i:k.Ok):Cs 17 #[Pt b,I p,.bool up] w (λe w'=>∃a cap,e= .returned (.slice a (k.C8 p up).length cap)∧Hp c w' (so 55 j8 a cap (k.C8 p up)::K1 b k::R)):=by
 have hth:∀x,k.K3 x=true->0<=x∧x<=k.D0.A0:=by intro x;simp[J2.K3]
 have hk0:=i;obtain⟨v,u,t,hs⟩:=i;refine R2 func17 O ?_;have y:=Yk.zW;generalize hr:k.C8 p up=r;obtain⟨J,E,H,G,h⟩:=h.d5;refine Y6 h [0,1,2,4,5,3,56,7,58,9,10,11,12,13] λh=>U3 0 O O (N1 (XV h) λw h=>⟨h,RD.Fv Nu h 3 O ⟨p,Ec up⟩ (λf=>?_) λj m f h=>?_⟩)
 ·refine⟨h,Q5 ?_⟩;simp[J2.C8,J2.Ro,f]at hr;exact abb
 ·refine⟨m4,m5 ?_⟩;obtain⟨A,s,z,h⟩:=h.Hf;refine Y6 h [0,1,2,4,5,6,8,3,57,9,60,111,12,13,14,15,16] λh=>U3 0 O O (U0 h 4 O O ⟨h,Jc.sl h 6 O Zb1 λb1 n D=>Oa.sl h 6 O Zb9 (K5 (d:=Uz) Zb1) ⟨h,ga (alb (o:=0#64) (h.g [2] O) Zb1) λa1 C w h=>ga (YV (h.Z4 0 O) Zb1) λa2 F w l=>?_⟩⟩);replace h:=h.H6 l;simp[J2.C8,J2.Ro,f]at hr;subst hr;replace h:Hp _ _ (cj _ (j)::_):=Hp.vd (h.g [3,4,2] O);replace h:=Hp.F6 Zb9 (h.g [0,3] O);replace h:Hp _ _ (K1 _ (k)::_):=Hp.F3 (h.g [3,4,5] O);exact⟨_,_,rfl,h.q 3 [1,0] O⟩
theorem ahs{k:J2}{m:P9}(h:Hp c w (K1 b k::R))(j:k.Ok):Cr 179 #[Pt b,I p,.bool up,m.v] w c (.bool (k.A9 p up m).1) (K1 b (k.A9 p up m).2::R):=by
 have hth:∀x,k.K3 x=true->0<=x∧x<=k.D0.A0:=by intro x;simp[J2.K3]
 have hk0:=j;obtain⟨z,y,u,hs⟩:=j;refine R2 func179 O ?_;generalize a:k.A9 p up m=r;refine I2 h O λb1 w h=>N1 (XV h) λw h=>I2 h O λb2 w h=>J3 h 0 O O O λw h=>?_;obtain⟨J,F,H,G,h⟩:=(h.g [2] rfl).d5;refine sv [0,1,2,3,4,5,6,7,8,9,10] ?_;replace h:=h.drew;refine U0 h 0 O O (O4 h 4 O O (RD.Fv Nu h 3 O ⟨p,Ec up⟩ (λf=>?_) λl n f h=>?_))
 ·refine Q5 (Q5 ?_);simp[J2.A9,J2.Ro,f]at a;subst a;replace h:Hp _ _ (K1 _ (k)::_):=Hp.F3 h;exact⟨rfl,h.q 3 [0] O⟩
 ·refine m5 (O4 h 5 O O (O4 h 6 O O (N1 (yR (e:=⟨_,Ec up⟩) h) λw h=>BR.not (BR.O' (λi=>?_) λi=>?_))))
  ·obtain⟨D,t,C,h⟩:=h.Hf;refine Y6 h [0,1,2,4,5,6,8,3,7,9,10,61,112,13,14,15,16,17] λh=>U3 0 O O (U3 4 O O (Jc.sl h 6 O Zb1 λA s E=>Oa.EI (λ_ h=>h) 6 O Zb9 (K5 (d:=Uz) Zb1) (O4 h 8 O O ⟨h,N1 (agZ (o:=0#64) (h.g [2] O) Zb1) λw h=>?_⟩)));simp[J2.A9,J2.Ro,f,i]at a;subst a;replace h:=Hp.vd (h.g [1,2] O);replace h:=h.V';replace h:=Hp.F3 (h.g [1,2,3] O);exact⟨rfl,h.q 3 [0] O⟩
  ·simp[J2.A9,J2.Ro,f,i]at a;subst a;replace h:=Hp.F6 Zb9 h;replace h:Hp _ _ (K1 _ (k)::_):=Hp.F3 (h.g [1,2,3] O);exact⟨rfl,h.q 3 [0] O⟩
end
structure ng(w:World):Prop where
 tab:TabAt 2 Lib.deBruijn64tab w
theorem ng.hp(a:ng c)(h:Hp c w L):ng w:=by refine⟨λj b=>?_⟩;have d:=a.tab j b;have e:=World.block_lt_of_cell? c _ d;grind[World.cell?_of_block,Hp.old]
theorem YN(x k idx:Nat)(w:World)(c:((x:Int)==0)=false)
 (key:IntKind.u64.wrap (bits BinOp.and IntKind.u64 (x:Int) (IntKind.u64.wrap (-(x:Int)))*285870213051353865)/288230376151711744=(idx:Int))
 (b:idx<64)(a:k<64)(d:w.cell? ⟨2,idx,none⟩=some (.int .u8 k)):
 Cs 212 #[.int .u64 x] w λe w'=>e= .returned (.int .i64 k)∧w=w':=by
 go_enter func212,Tryz.ntmps212
 go_wp2_with (simp only[key])
 go_ret
 simp
def low(s:BitVec 64):Nat:=Lib.ctz 64 s.toNat
theorem xW(s:BitVec 64)(hs:s≠0#64)(w:World)(c:ng w):
 Cs 164 #[U s] w λe w'=>e= .returned (.int .i64 (low s))∧w=w':=by
 have i:s.toNat≠0:=λe=>hs (Sh (by simpa using e));obtain⟨g,a⟩:=Lib.lowest_bit 64 s.toNat i s.isLt;obtain⟨d,ajf⟩:=Lib.deBruijn64_at _ a;have f:((s.toNat:Int)==0)=false:=by rw[AE];omega
 have key:=tz64_key s.toNat _ s.isLt i g;have b:=c.tab _ d;rw[ajf]at b;have H:=YN s.toNat _ _ w f key m4 a b;clear b key f ajf d g a c;have e:low s=Lib.ctz 64 s.toNat:=rfl;rw[e];clear e
 go_enter func164,Tryz.ntmps164
 go_wp2_with (go_at_call 212;refine H.mono ?_;rintro e w' ⟨rfl,rfl⟩)
 go_ret
 simp
theorem HR{s:BitVec 64}(h:Hp c w R)(a:ng c)(hs:¬s=0#64):Cr 164 #[U s] w c (I (low s)) R:=by refine(xW s hs w (a.hp h)).mono ?_;grind
theorem aba{P:Prop}(h:P:=by refine Zx3 h.Hf λYy jm ax h=>Y6 h [0,1,2,3,4,55,56,107,8,9,110] λh=>U3 0 O O (O4 h 8 O O ⟨h,I2 h O λb3 w h=>⟨h.q 10 [1,2,3,4,5,6,7,8,9] O,A4.Yb (u:=⟨_,_,_,_⟩) (Ca.of (w9:=32) kn O O O O O O) h 2 O O 0 O O O (by grind) (λ_ _=>rfl) λa1 V1 w h=>J3 h 1 O O O λw h=>?_⟩⟩);simp[J2.Z6,R9.K6,g1,g2,g3,g4,g5,g6,g7,g8]at hr;subst hr;replace h:=Hp.vd (h.g [1,2,3] O);replace h:=(h.g [0,2] O).V';replace h:=Hp.F3 (h.g [2,3,4] O);exact⟨rfl,h.q 4 [0] O⟩):P:=h
theorem nC{P:Prop}(h:P:=by subst hr;replace h:Hp _ _ (K1 _ (k)::_):=Hp.F3 h;exact⟨rfl,h.q 2 [0] O⟩):P:=h
theorem aaZ{P:Prop}(h:P:=by subst hr;replace h:=Hp.F6 ‹_› (h.g [1,2] O);replace h:Hp _ _ (K1 _ (k)::_):=Hp.F3 (h.g [1,2,3] O);exact⟨rfl,h.q 2 [0] O⟩):P:=h
theorem aaY{P:Prop}(h:P:=by simp[J2.Z6,R9.K6,g1,g2,g3,g4,g5,g6,g7]at hr;subst hr;replace h:Hp _ _ (K1 _ (k)::_):=Hp.F3 h;exact⟨rfl,h.q 3 [0] O⟩):P:=h
section
theorem zY{k:J2}(h:Hp c w (K1 b k::R))(j:k.Ok):Cr 404 #[Pt b,I N3,I p,I i,I C0] w c (.tuple #[(k.J6 N3 p i C0).1.v,I (k.J6 N3 p i C0).2.1]) (K1 b (k.J6 N3 p i C0).2.2::R):=by
 have hth:∀x,k.K3 x=true->0<=x∧x<=k.D0.A0:=by intro x;simp[J2.K3]
 have hk0:=j;obtain⟨y,u,t,hs⟩:=j;refine R2 func404 O ?_;generalize hr:k.J6 N3 p i C0=r;refine I2 h O λb1 w h=>pg ((h.g [1] O).d5) λG D F E h=>Y6 h [0,1,2,4,5,6,3,57,58,9,60,11,12,13,14,15] λh=>U3 0 O O (N1 (bM h) λw h=>⟨h,N1 (XV h) λw h=>⟨h,RD.Fv Nu h 3 O ⟨p,Ec (k.Ia N3)⟩ (λe=>?_) λl m e h=>?_⟩⟩)
 ·refine⟨h,N1 (HA h) λw h=>BR.not (BR.O' (λa=>?_) λa=>?_)⟩
  ·refine Q5 (J3 h 4 O O O λw h=>O4 h 4 O O ?_);simp[J2.J6,R9.K6,J2.Ro,e,a]at hr;exact nC
  ·refine Q5 (J3 h 4 O O O λw h=>O4 h 4 O O ?_);simp[J2.J6,R9.K6,J2.Ro,e,a]at hr;exact nC
 ·refine⟨m4,N1 (HA (h.g [2] O)) λw h=>BR.not (BR.O' (λa=>?_) λa=>?_)⟩
  ·refine m5 (O4 h 0 O O (N1 (HF h m4) λw h=>BR.ne (λf=>?_) λf=>?_))
   ·refine J3 h 5 O O O λw h=>O4 h 5 O O ?_;simp[J2.J6,R9.K6,J2.Ro,e,a,f]at hr;exact aaZ
   ·refine Zx3 ((h.g [1] O).Hf) λA s z h=>Y6 h [0,1,2,4,5,6,8,11,3,57,9,60,112,13,14,115,16] λh=>U3 0 O O (U0 h 3 O O ⟨h,Jc.sl h 6 O Zb1 λb2 n C=>Oa.sl h 6 O Zb9 (K5 (d:=Uz) Zb1) ⟨h,N1 (afT (o:=0#64) (h.g [2] O) Zb1) λw h=>J3 h 7 O O O λw h=>O4 h 7 O O ?_⟩⟩);simp[J2.J6,R9.K6,J2.Ro,e,a,f]at hr;subst hr;replace h:=Hp.vd (h.g [1,2] O);replace h:=(h.g [0,2] O).V';replace h:=Hp.F3 (h.g [1,2,3] O);exact⟨rfl,h.q 2 [0] O⟩
  ·refine Q5 (J3 h 5 O O O λw h=>O4 h 5 O O ?_);simp[J2.J6,R9.K6,J2.Ro,e,a]at hr;exact aaZ
theorem tY{k:J2}{to:Int}{m:P9}(h:Hp c w (K1 b k::R))(d:k.Ok):Cr 440 #[Pt b,I N3,I to,m.v,I C0] w c (I (k.Z6 N3 to m C0).1) (K1 b (k.Z6 N3 to m C0).2::R):=by
 have hth:∀x,k.K3 x=true->0<=x∧x<=k.D0.A0:=by intro x;simp[J2.K3]
 have hk0:=d;obtain⟨n,l,j,hs⟩:=d;refine R2 func440 O ?_;generalize hr:k.Z6 N3 to m C0=r;refine I2 h O λb1 w h=>pg ((h.g [1] O).d5) λt o s p h=>N1 (HA h) λw h=>BR.not (BR.O' (λg1=>?_) λg1=>?_)
 ·refine N1 (HA h) λw h=>BR.not (BR.O' (λg2=>?_) λg2=>?_)
  ·refine BR.eq (λg3=>?_) λg3=>?_
   ·simp[J2.Z6,R9.K6,g1,g2,g3]at hr;exact nC
   ·refine O4 h 0 O O (N1 (HF h m4) λw h=>BR.ne (λg4=>?_) λg4=>?_)
    ·simp[J2.Z6,R9.K6,g1,g2,g3,g4]at hr;exact nC
    ·replace h:Hp _ _ (K1 _ (k)::_):=Hp.F3 h;refine N1 (afF h Zb9) λw h=>BR.not (BR.O' (λg5=>?_) λg5=>?_)
     ·refine I2 h O λb2 w h=>J3 h 0 O O O λw h=>pg ((h.g [1] O).d5) λalA amK akk alF h=>N1 (bM h) λw h=>BR.O' (λg6=>?_) λg6=>?_
      ·refine J3 h 4 O O O λw h=>O4 h 4 O O (O4 h 5 O O (N1 (yR (e:=⟨_,0⟩) h) λw h=>BR.not (BR.O' (λg7=>?_) λg7=>?_)))
       ·refine sv [0,1,2,3,4,5,6] ?_;replace h:=h.drew;refine U0 h 0 O O (O4 h 4 O O (RD.Fv Nu h 3 O ⟨to,0⟩ (λg8=>?_) λf i g8 h=>?_))
        ·refine Y6 h [0,1,2,3,4,55,56,107,8,9,110] λh=>?_;simp only[J2.Ia,decide_eq_true_eq]at g6;have a:=(hs to (hth to g2).1 Zb1).1;rw[g8]at a;cases a
        ·exact aba
       ·exact aaY
      ·refine O4 h 4 O O (O4 h 5 O O (N1 (yR (e:=⟨_,1⟩) h) λw h=>BR.not (BR.O' (λg7=>?_) λg7=>?_)))
       ·refine sv [0,1,2,3,4,5,6] ?_;replace h:=h.drew;refine U0 h 0 O O (O4 h 4 O O (RD.Fv Nu h 3 O ⟨N3,1⟩ (λg8=>?_) λf i g8 h=>?_))
        ·refine Y6 h [0,1,2,3,4,55,56,107,8,9,110] λh=>?_;simp only[J2.Ia,decide_eq_false_iff_not]at g6;have a:=(hs N3 (hth N3 g1).1 Zb1).2;rw[g8]at a;cases a
        ·exact aba
       ·exact aaY
     ·simp[J2.Z6,R9.K6,g1,g2,g3,g4,g5]at hr;subst hr;exact⟨rfl,h.q 2 [0] O⟩
  ·refine Q5 ?_;simp[J2.Z6,R9.K6,g1,g2]at hr;exact nC
 ·refine Q5 (Q5 ?_);simp[J2.Z6,R9.K6,g1]at hr;exact nC
end
theorem zU{P:Prop}(h:P:=by simp[IntKind.wrap,IntKind.bits,IntKind.signed,BitVec.toNat_ofInt];omega):P:=h
theorem Xn(z:Int):IntKind.u64.wrap z=((BitVec.ofInt 64 z).toNat:Int):=by exact zU
theorem wrap_u16'(z:Int):IntKind.u16.wrap z=((BitVec.ofInt 16 z).toNat:Int):=by exact zU
theorem lF(z:Int):IntKind.u8.wrap z=((BitVec.ofInt 8 z).toNat:Int):=by exact zU
theorem qA(z:Int):IntKind.i64.wrap z=(BitVec.ofInt 64 z).toInt:=by rw[bL];simp[IntKind.wrap,IntKind.bits,IntKind.signed,Int.bmod];omega
section
theorem WR.kC{y:BitVec 64}(k:K (U (x+y))):WR .u64 ((x.toNat:Int)+y.toNat) K:=by
 refine⟨?_⟩;have e:IntKind.u64.wrap ((x.toNat:Int)+y.toNat)=((x+y).toNat:Int):=by rw[Xn,BitVec.ofInt_add];simp
 grind
theorem WR.toI(k:K (I x.toInt)):WR .i64 (x.toNat:Int) K:=by
 refine⟨?_⟩;have e:IntKind.i64.wrap (x.toNat:Int)=x.toInt:=by rw[qA];simp
 simp[*]
theorem WR.bO{n:Int}(k:K (U (BitVec.ofInt 64 n))):WR .u64 n K:=⟨(V4 (λz=>K (.int _ z)) (Xn n)).mpr k⟩
theorem WR.toB(k:K (B8 (x.setWidth 8))):WR .u8 (x.toNat:Int) K:=by
 refine⟨?_⟩;have e:IntKind.u8.wrap (x.toNat:Int)=((x.setWidth 8).toNat:Int):=by rw[lF];simp
 grind
theorem WR.afi(k:K (gb (x.setWidth 16))):WR .u16 (x.toNat:Int) K:=by
 refine⟨?_⟩;have e:IntKind.u16.wrap (x.toNat:Int)=((x.setWidth 16).toNat:Int):=by rw[wrap_u16'];simp
 grind
theorem WR.bT{n:Int}(k:K (B8 (BitVec.ofInt 8 n))):WR .u8 n K:=⟨(V4 (λz=>K (.int _ z)) (lF n)).mpr k⟩
theorem WR.ofB{b:BitVec 8}(k:K (U (b.setWidth 64))):WR .u64 (b.toNat:Int) K:=by
 refine⟨?_⟩;have e:IntKind.u64.wrap (b.toNat:Int)=((b.setWidth 64).toNat:Int):=by rw[Xn];simp
 grind
end
theorem aaL{P:Prop}(h:P:=by
 refine km (WR.WF (x:=1#64) O (bf.JO O (i5 ⟨(m-1),?_,_,_,rfl,?_,h⟩)))
 ·omega
 ·grind[]):P:=h
section
theorem aic(h:Hp c w R):Cs 115 #[U x] w (λe w'=>∃b,e= .returned (Pt b)∧Hp c w' (bk b [U x] 315::R)):=by exact R2 func115 O (I2 h O λb1 w h=>⟨_,rfl,h⟩)
theorem ahZ(h:Hp c w (bk b [U x] 315::R)):Cr 119 #[Pt b] w c (U x) (bk b [U x] 315::R):=by exact R2 func119 O (U0 h 0 O O ⟨rfl,h⟩)
def aiy(x:BitVec 64):BitVec 64:=(x>>>1&&&6148914691236517205#64)+(x&&&6148914691236517205#64)
def aix(x:BitVec 64):BitVec 64:=(x>>>2&&&3689348814741910323#64)+(x&&&3689348814741910323#64)
def aiw(x:BitVec 64):BitVec 64:=(x>>>4+x)&&&1085102592571150095#64
def xS(n:Nat)(x:BitVec 64):BitVec 64:=x+x>>>n
def yZ(x:BitVec 64):Int:=dg .and .i64 (xS 32 (xS 16 (xS 8 (aiw (aix (aiy x)))))).toInt 127
theorem ahj(h:Hp c w R):Cr 211 #[U x] w c (I (yZ x)) R:=by refine R2 func211 O (km (Bv.u64 (bf.pv (y:=6148914691236517205#64) O (bf.pv (y:=6148914691236517205#64) O (WR.kC (km (Bv.u64 (bf.pv (y:=3689348814741910323#64) O (bf.pv (y:=3689348814741910323#64) O (WR.kC (km ?_)))))))))));refine Bv.u64 (WR.kC (bf.pv (y:=1085102592571150095#64) O (km (Bv.u64 (WR.kC (km (Bv.u64 (WR.kC (km (Bv.u64 (WR.kC ?_)))))))))));exact WR.toI (bf.mk ⟨rfl,h⟩)
theorem aia{n:Int}(h:Hp c w (bk b [I n] 3::R))(f:0<=n∧n<64):Cr 117 #[.slice (some ⟨b,0,none⟩) 1 1] w c (.tuple #[U (1#64<<<n.toNat),.bool true]) (bk b [I n] 3::R):=by
 refine R2 func117 O (p5.A6 kn [4,7,8,9] (λm vs w'=>∃(i:Nat)(u:BitVec 64),vs=[U u,.slice (some ⟨b,0,none⟩) 1 1,I 1,I i]∧(i+m=1∧(i=0->u=0#64)∧(i=1->u=1#64<<<n.toNat))∧Hp c w' (bk b [I n] 3::R)) 1 ⟨0,0#64,rfl,Zb3,h⟩ ?_);rintro m _ w1 g ⟨i,u,rfl,a,h⟩;refine BR.T5 (λe=>?_) λe=>?_
 ·obtain rfl:i=0:=m4
  obtain rfl:u=0#64:=a.2.1 rfl;refine Jc.mk ⟨_,rfl,m4,m4,U0 h 0 O O (N1 (afn h) λw h=>BR.not (BR.O' (λd=>?_) λd=>?_))⟩
  ·exact aaL
  ·refine⟨wJ O ?_,h⟩;simp_all[U']
 ·obtain rfl:i=1:=m4
  obtain rfl:u=1#64<<<n.toNat:=a.2.2 rfl;exact⟨rfl,h⟩
theorem alD(x:BitVec 64):IntKind.u64.wrap ((BitVec.ofInt IntKind.u64.bits IntKind.u64.max^^^BitVec.ofInt IntKind.u64.bits (x.toNat:Int)).toNat:Int)=((~~~x).toNat:Int):=by
 rw[Xn];have d:BitVec.ofInt 64 (x.toNat:Int)=x:=Zb3
 have b:BitVec.allOnes 64^^^x= ~~~x:=by rw[BitVec.xor_comm,BitVec.xor_allOnes]
 have c:(BitVec.ofInt IntKind.u64.bits IntKind.u64.max^^^BitVec.ofInt IntKind.u64.bits (x.toNat:Int):BitVec 64)= ~~~x:=by rw[<-b];exact V4 (λy=>BitVec.allOnes 64^^^y) d
 have a:BitVec.ofInt 64 ((~~~x).toNat:Int)= ~~~x:=by simp only[BitVec.ofInt_natCast,BitVec.ofNat_toNat,BitVec.setWidth_eq]
 exact(V4 (λ(y:BitVec 64)=>((BitVec.ofInt 64 (y.toNat:Int)).toNat:Int)) c).trans (V4 (λ(y:BitVec 64)=>(y.toNat:Int)) a)
theorem acw(x:BitVec 64):Value.int .u64 (IntKind.u64.wrap ((BitVec.ofInt IntKind.u64.bits IntKind.u64.max^^^BitVec.ofInt IntKind.u64.bits (x.toNat:Int)).toNat:Int))=U (~~~x):=by rw[alD]
theorem mW:∀i:Nat,i<6->1<=yZ (~~~(Ke i)):=Zb4
theorem aiG:∀i:Nat,i<6->¬~~~(Ke i|||0#64)=0#64∧low (~~~(Ke i|||0#64))=i:=Zb4
theorem lM:∀i:Nat,i<6->Ke i|||(0#64|||1#64<<<i)=Ke (i+1)∧¬1#64<<<i=0#64∧low (1#64<<<i)=i:=Zb4
theorem ahB{i:Nat}(h:Hp c w (bk b [U (Ke i)] 315::R))(g:ng c)(d:i<6):Cr 163 #[Pt b,I 1] w c (.tuple #[U (1#64<<<i),I 0]) (bk b [U (Ke (i+1))] 315::R):=by
 refine R2 func163 O (m5 (m5 (U0 h 0 O O ?_)));have a:=ahj (x:= ~~~(Ke i)) h;rw[<-acw]at a;refine N1 a λw h=>?_;have n:=mW i d;refine Te (p5.A6 kn [0,6,23,24] (λm vs w'=>∃(j:Nat)(u:BitVec 64),vs=[Pt b,U u,I 1,I j]∧(j+m=1∧(j=0->u=0#64)∧(j=1->u=0#64|||1#64<<<i))∧Hp c w' (bk b [U (Ke i)] 315::R)) 1 ⟨0,0#64,rfl,Zb3,h⟩ ?_);rintro m _ w1 o ⟨j,u,rfl,e,h⟩;refine BR.T5 (λk=>?_) λk=>?_
 ·obtain rfl:j=0:=m4
  obtain rfl:u=0#64:=e.2.1 rfl;obtain⟨f,l⟩:=aiG i d;refine U0 h 0 O O (bf.JO (y:=0#64) O ?_);have a:=HR (s:= ~~~(Ke i|||0#64)) h g f;rw[<-acw,l]at a;refine N1 a λw h=>?_;have p:((i:Nat):Int).toNat=i:=rfl;exact aaL
 ·obtain rfl:j=1:=m4
  obtain rfl:u=0#64|||1#64<<<i:=e.2.2 rfl
  have hse:=(lM i d).1;have hz0:0#64|||1#64<<<i=1#64<<<i:=Zb3
  rw[hz0]at hse⊢;refine U0 h 0 O O (bf.JO O (J3 h 0 O O O λw h=>⟨rfl,Hp.subst h ?_⟩));grind[]
theorem aib{i:Nat}(h:Hp c w (bk b [U (Ke i)] 315::R))(a:ng c)(d:i<6):Cr 116 #[Pt b] w c (.tuple #[I i,I 0]) (bk b [U (Ke (i+1))] 315::R):=by obtain⟨_,f,g⟩:=lM i d;refine R2 func116 O (N1 (ahB h a d) λw h=>?_);have e:=HR (s:=1#64<<<i) h a f;rw[g]at e;exact Mj (N1 e λw h=>⟨rfl,h⟩)
end
theorem abg{P:Prop}(h:P:=by refine Zx3 ((h.g [2] O).Hf) λYy jm ax h=>J3 h 0 O O O λw h=>⟨m-1,qd,l1++l2,rfl,NM,Ki _ ?_⟩;replace h:=h.G4 (55) j8;replace h:=Hp.vd (oF:=[]) (h.g [1,0,3] O);refine⟨_,rfl,h.q 7 [0,4,2,5,6] O,?_⟩;grind[Pn,Way.clear,End.up]):P:=h
theorem abf{P:Prop}(h:P:=by refine J3 h 1 O O O λw h=>⟨m-1,qd,l1++l2,rfl,NM,Ki _ ?_⟩;replace h:=h.G4 (55) j8;replace h:=Hp.vd (oF:=[]) (h.g [2] O);refine⟨_,rfl,h.q 7 [0,4,2,5,6] O,?_⟩;grind[Pn,Way.clear,End.up]):P:=h
theorem abe{P:Prop}(h:P:=by refine⟨m-1,qd,l1++l2,rfl,NM,Ki _ ?_⟩;replace h:=Hp.vd (h.g [1,2] O);refine⟨_,rfl,h.q 6 [0,3,1,4,5] O,?_⟩;grind[Pn,Way.clear,End.up]):P:=h
theorem abd{P:Prop}(h:P:=by refine⟨m-1,qd,l1++l2,rfl,NM,Ki _ ?_⟩;refine⟨_,rfl,h.q 6 [2,3,0,4,5] O,?_⟩;grind[Pn,Way.clear,End.up]):P:=h
def pf[DecidableEq κ](f:κ×β->β)(left:List κ)(xs:List (κ×β)):List (κ×β):=xs.map λx=>(x.1,if x.1∈left then x.2 else f x)
theorem zw{κ β:Type}[DecidableEq κ]{f:κ×β->β}:∀(xs:List (κ×β))(left:List κ),(∀x∈xs,x.1∈left)->pf f left xs=xs
 |[],_,_=>rfl
 |x::xs,left,h=>by have:=zw (f:=f) xs left λy a=>h y (Ta _ a);simp_all[pf]
theorem cJ[DecidableEq κ]{xs:List (κ×β)}:pf f [] xs=xs.map λx=>(x.1,f x):=by unfold pf;simp
theorem tu{κ β:Type}[DecidableEq κ]{f:κ×β->β}{left a:List κ}{e:κ}(i:e∈left)(d:∀k,k∈a↔k∈left∧¬k=e):∀{xs:List (κ×β)}{s:β},(xs.map (·.1)).Nodup->K0 (pf f left xs) e=some s->(e,s)∈xs∧R1 (pf f left xs) e (f (e,s))=pf f a xs
 |[],s,_,h=>by cases h
 |(k,v)::xs,s,c,h=>by
  rw[Kb,Fm]at c;have b:pf f left ((k,v)::xs)=(k,if k∈left then v else f (k,v))::pf f left xs:=rfl;have ht':pf f a ((k,v)::xs)=(k,if k∈a then v else f (k,v))::pf f a xs:=rfl;rw[b]at h;rw[b,ht'];by_cases g:k=e
  ·subst g;unfold K0 at h;rw[S1 O,S1 i]at h;obtain rfl:v=s:=by simpa using h
   refine⟨Ka ..,?_⟩;unfold R1;rw[S1 O,V0 (λh=>((d k).1 h).2 O)];congr 1;unfold pf;apply Az;grind
  ·unfold K0 at h;rw[V0 (λl=>g l.symm)]at h;obtain⟨j,m⟩:=tu i d c.2 h;refine⟨Ta _ j,?_⟩;unfold R1<;>grind
def Pn(k:J2)(N3:Int)(x:End×Way):Way:=if x.1.up then x.2.clear (k.Ia N3) (decide (x.1.E0=N3))else x.2.clear (decide (x.1.E0=N3)) (k.Ia N3)
section
theorem Mp{k:J2}(h:Hp c w (bk b (fc k g a cap m) 129::R)):Cr 18 #[Pt b] w c (Pt g) (bk b (fc k g a cap m) 129::R):=by exact R2 func18 O (U0 h 0 O O ⟨rfl,h⟩)
theorem Qz{k:J2}(h:Hp c w (bk b (fc k g a cap m) 129::R)):Cr 87 #[Pt b] w c (Fp k.D0.A0 k.D0.F0 k.D0.L0) (bk b (fc k g a cap m) 129::R):=by exact R2 func87 O (I2 h O λb1 w h=>O4 h 1 O O (J3 h 0 O O O λw h=>O4 h 0 O O ⟨rfl,h.q 2 [1] O⟩))
theorem UY{k:J2}(h:Hp c w (K1 b k::R)):Cr 238 #[Pt b,I N3] w c (.tuple #[]) (K1 b (k.clear N3)::R):=by
 refine R2 func238 O (pg h.d5 λj d i f h=>U0 h 0 O O (A4.dt (by exact Vi O O) (h.g [3] O) O λr w y h=>p5.A6 kn [0,1,12] (λm vs w'=>∃(left:List End),vs=[Pt b,I N3,Pt r]∧(left.length=m∧left.Nodup∧(∀e∈left,e∈k.ways.map (·.1)))∧Hp c w' (PO End.v cj f r (pf (Pn k N3) left k.ways) left::bk b (fc k j d i f) 129::Ma j k.R4::so 140 Om d i k.Kd::R)) (k.ways.map (·.1)).length ⟨_,rfl,⟨rfl,y,λ_ h=>h⟩,Hp.subst h (by simp_all[zw,List.mem_map_of_mem])⟩ ?_));rintro m _ w1 F ⟨left,rfl,n,h⟩;refine A4.mG h O (λe h=>?_) λl1 e l2 p s w' o hs h=>?_
 ·subst e;rw[cJ]at h;exact m5 ⟨rfl,Hp.F3 (h.g [1,2,3] O)⟩
 ·have D:e∈left:=by rw[o];simp
  have z:∀x,x∈l1++l2↔x∈left∧¬x=e:=by
   have l:=n.2.1;rw[o]at l⊢;intro x;rw[Dq,Fm]at l;simp only[List.mem_append,List.mem_cons];constructor
   ·grind
   ·grind
  obtain⟨G,E⟩:=tu D z y hs;have NM:(l1++l2).length=m-1∧(l1++l2).Nodup∧(∀e∈l1++l2,e∈k.ways.map (·.1)):=by refine⟨Zb1,?_,λx A=>n.2.2 x ((z x).1 A).1⟩;have l:=n.2.1;rw[o]at l;exact l.sublist (List.Sublist.append_left (List.sublist_cons_self _ _) _)
  have qd:m-1<m:=by have:=n.1;rw[o]at this;simp at this;omega
  have Ki:∀w,(∃t,([]:List Nat)=[]∧Hp c w (cj p t::HZ End.v cj f r (pf (Pn k N3) left k.ways) (l1++l2) e p::bk b (fc k j d i f) 129::Ma j k.R4::so 140 Om d i k.Kd::R)∧t=Pn k N3 (e,s))->Hp c w (PO End.v cj f r (pf (Pn k N3) (l1++l2) k.ways) (l1++l2)::bk b (fc k j d i f) 129::Ma j k.R4::so 140 Om d i k.Kd::R):=by rintro w ⟨t,_,h,rfl⟩;have:=h.Wp;rw[E]at this;exact this
  refine Q5 (A4.Zw (h.g [1] O) O (I2 h O λb1 w h=>J3 h 0 O O O λw h=>Y6 h [0,2,4,5,1,3,56,7,8] λh=>U3 0 O O (N1 (bM (h.g [3] O)) λw h=>⟨h.g [1,2,3] O,U0 h 1 O O (BR.eq (λC=>?_) λC=>?_)⟩)))
  ·refine BR.O' (λu=>?_) λu=>?_
   ·refine Zx3 ((h.g [2] O).Hf) λYy jm ax h=>U0 h 0 O O (N1 (KY (h.g [2] O)) λw h=>BR.eq (λa=>?_) λa=>?_)
    ·exact abf
    ·exact abe
   ·refine BR.eq (λa=>?_) λa=>?_
    ·exact abg
    ·exact abd
  ·refine BR.eq (λu=>?_) λu=>?_
   ·refine Zx3 ((h.g [2] O).Hf) λYy jm ax h=>U0 h 0 O O (N1 (KY (h.g [2] O)) λw h=>BR.O' (λa=>?_) λa=>?_)
    ·exact abf
    ·exact abe
   ·refine BR.O' (λa=>?_) λa=>?_
    ·exact abg
    ·exact abd
end
section
def Cv(i:Nat):jc:=⟨1#64<<<i,0#64⟩
def dj(n:Nat):List (End×Way):=(List.range n).flatMap λ(i:Nat)=>[(⟨(i:Int),0⟩,⟨[],⟨Cv i,[],8⟩⟩),(⟨(i:Int),1⟩,⟨[],⟨Cv i,[],8⟩⟩)]
def nF(i:Nat):Way:=⟨[],⟨Cv i,[],8⟩⟩
theorem Ym{d:Int}:K0 (dj n) ⟨(n:Int),d⟩=none:=by refine fg λx a e=>?_;simp only[dj,List.mem_flatMap,List.mem_range]at a;grind
theorem JL:K0 (R1 (dj n) ⟨(n:Int),0⟩ (nF n)) ⟨(n:Int),1⟩=none:=by simp[Gc,Ym,Ri,K0]
theorem IL:R1 (R1 (dj n) ⟨(n:Int),0⟩ (nF n)) ⟨(n:Int),1⟩ (nF n)=dj (n+1):=by rw[Gc JL,Gc Ym];simp[dj,nF,List.range_succ,List.flatMap_append]
theorem akU{p:R9}(h:Hp c w R)(V:ng c)(C:F8 p.A0 p.F0 p.L0):Cs 77 #[Fp p.A0 p.F0 p.L0] w (λe w'=>∃b,e= .returned (.tuple #[Pt b,I 0])∧Hp c w' (K1 b (J2.new p)::R)):=by
 refine R2 func77 O (I2 h O λb1 w h=>U0 h 0 O O (U0 h 0 O O (U0 h 0 O O (N1 (qZ h Zb9) λw h=>I2 h O λb2 w h=>J3 h 0 O O O λw h=>m5 (O4 h 1 O O (A4.Xp End.v Pt h λk w h=>I2 h O λf w h=>?_))))));refine He (aic (x:=0#64) h) λb5 w h=>U0 h 4 O O ?_;obtain⟨Q,S,Y⟩:=C;replace h:=(h.q 5 [2,0,1] O).yn (R:=cj);replace h:=h.G4 140 Om;refine p5.A6 kn [6,7,37,38] (λm vs w'=>∃(i:Nat)(a:Option Addr)(cap:Nat),vs=[Pt f,Pt b5,I p.A0,I i]∧((i:Int)+m=p.A0)∧Hp c w' (bk f [I p.A0,I p.F0,I p.L0,.pointer none,.slice a ((List.range i).map Cv).length cap,U 0#64,.map (some k)] 129::bk b5 [U (Ke i)] 315::so 140 Om a cap ((List.range i).map Cv)::mr End.v cj k (dj i)::R)) p.A0.toNat ⟨0,none,0,rfl,m4,h.g [3,2] O⟩ ?_;rintro m _ w1 J ⟨i,a,cap,rfl,T,h⟩;refine BR.T5 (λH=>?_) λH=>?_
 ·have D:i<6:=m4
  refine N1 (aib (h.g [1] O) Zb9 Zb9) λw h=>I2 h O λK w h=>N1 (aia h m4) λw h=>I2 h O λr w h=>J3 h 0 O O O λw h=>Y6 h [0,1,2,3,4,55,56,107,8,9,110] λh=>U3 3 O O (O4 h 0 O O ⟨h,I2 h O λX w h=>⟨h.q 7 [1,2,3,4,5,6] O,A4.Yb (u:=Cv i) (Ca.of (w9:=16) kn O O O O O O) h 5 O O 0 O O O Zb5 (λ_ _=>rfl) λa1 s w h=>?_⟩⟩);refine J3 h 4 O O O λw h=>I2 h O λz w h=>?_;replace h:=h.q 8 [0,2,4,5,6,7] O;replace h:=Hp.vg (E:=O5) [0,1] h O Zb4;have M:(List.range (i+1)).map Cv=(List.range i).map Cv++[Cv i]:=by rw[JN,ic];rfl
  rw[<-M]at h;refine p5.A6 kn [6,7,8,13,37,38,64,65,66] (λm vs w'=>∃(j:Nat)(ys:List (End×Way)),vs=[Pt f,Pt b5,I i,Pt r,I p.A0,I i,.slice (some ⟨z,0,none⟩) 2 2,I 2,I j]∧(j+m=2∧(j=0->ys=dj i)∧(j=1->ys=R1 (dj i) ⟨i,0⟩ (nF i))∧(j=2->ys=dj (i+1)))∧Hp c w' (so 130 O5 (some ⟨z,0,none⟩) 2 [0,1]::bk r [U (1#64<<<i),U 0#64] 140::bk b5 [U (Ke (i+1))] 315::bk f [I p.A0,I p.F0,I p.L0,.pointer none,.slice a1 ((List.range (i+1)).map Cv).length s,U 0#64,.map (some k)] 129::so 140 Om a1 s ((List.range (i+1)).map Cv)::mr End.v cj k ys::R)) 2 ⟨0,_,rfl,Zb3,h⟩ ?_;rintro y _ w1 J ⟨j,ys,rfl,o,h⟩;refine BR.T5 (λG=>?_) λG=>?_
  ·obtain t|t:j=0∨j=1:=m4
   ·subst t;obtain rfl:=o.2.1 rfl;have f1:=Ym (n:=i) (d:=0);refine Jc.sl h 0 O Zb1 λb10 A L=>LD.qf h 0 O Zb9 O O (O4 h 1 O O (He (pZ (l:=⟨1#64<<<i,⟨Fin.Internal.ofNat (2^64) _ 0⟩⟩) h m4) λb11 w h=>m5 (U0 h 4 O O (I2 h O λb12 w h=>?_))));replace h:=h.G4 (55) j8;replace h:=Hp.vd (oF:=[]) (h.g [1] O);refine A4.lG Nu (h.g [6] O) ⟨↑i,0⟩ Zb9 O O O λw h=>i5 ⟨(y-1),?_,_,_,rfl,?_,h.g [1,2,3,4,5] O⟩
    ·omega
    ·refine⟨?_,λh=>absurd h Zb4,λ_=>rfl,λh=>absurd h Zb4⟩;simp_all
   ·subst t;obtain rfl:=o.2.2.1 rfl;have f1:=JL (n:=i);have f2:=IL (n:=i);refine Jc.sl h 0 O Zb1 λb10 A L=>LD.qf h 0 O Zb9 O O (O4 h 1 O O (He (pZ (l:=⟨1#64<<<i,⟨Fin.Internal.ofNat (2^64) _ 0⟩⟩) h m4) λb11 w h=>m5 (U0 h 4 O O (I2 h O λb12 w h=>?_))));replace h:=h.G4 (55) j8;replace h:=Hp.vd (oF:=[]) (h.g [1] O);refine A4.lG Nu (h.g [6] O) ⟨↑i,1⟩ Zb9 O O O λw h=>i5 ⟨(y-1),?_,_,_,rfl,?_,h.g [1,2,3,4,5] O⟩
    ·omega
    ·refine⟨?_,λh=>absurd h Zb4,λh=>absurd h Zb4,λ_=>f2⟩;grind
  ·obtain rfl:j=2:=m4
   obtain rfl:=o.2.2.2 rfl;refine i5 ⟨(m-1),?_,_,_,_,rfl,?_,h.q 6 [3,2,4,5] O⟩
   ·omega
   ·grind[]
 ·have D:p.A0=(i:Int):=m4
  have F:J2.new p=⟨⟨p.A0,p.F0,p.L0⟩,⟨Ke i,[]⟩,(List.range i).map Cv++[⟨Ke i,0#64⟩],Ke i,dj i⟩:=by
   have N:p.A0.toNat=i:=m4
   unfold J2.new;simp only[N];rfl
  refine N1 (ahZ (h.g [1] O)) λw h=>J3 h 1 O O O λw h=>Y6 h [0,1,2,3,5,6,7,4,58,9,60,111,12,13,114] λh=>U3 1 O O (U0 h 1 O O ⟨h,I2 h O λK w h=>⟨h.q 5 [1,2,3,4] O,A4.Yb (u:=⟨Ke i,0#64⟩) (Ca.of (w9:=16) kn O O O O O O) h 3 O O 0 O O O Zb5 (λ_ _=>rfl) λa1 s w h=>J3 h 2 O O O λw h=>U0 h 2 O O (He (ahY h) λr w h=>?_)⟩⟩);refine J3 h 3 O O O λw h=>?_;replace h:=Hp.F3 (h.g [3,0,4,5] O);refine⟨_,rfl,Hp.subst (h.q 3 [0] O) ?_⟩;rw[F]
end
theorem vN{P:Prop}(h:P:=by subst hr;replace h:Hp _ _ (z6 _ (x)::_):=Hp.Yd h;exact⟨rfl,h.q 2 [0] O⟩):P:=h
theorem KU{P:Prop}(h:P:=by subst hr;replace h:Hp _ _ (z6 _ ({D0:=x.D0,P0:=x.P0,ba:=x.ba})::_):=Hp.Yd h;exact⟨rfl,h.q 2 [0] O⟩):P:=h
def z6(b:Nat)(s:E9):HP:=sf λ(g:Option Addr×Nat)=>C5 [bk b ([I s.D0.A0,I s.D0.F0,I s.D0.L0,.slice g.1 s.P0.length g.2]++s.ba.map I) 155,so 102 sP g.1 g.2 s.P0]
theorem Hp.Af{s:E9}(h:Hp c w (z6 b s::L)):∃(a:Option Addr)(d:Nat),Hp c w (bk b ([I s.D0.A0,I s.D0.F0,I s.D0.L0,.slice a s.P0.length d]++s.ba.map I) 155::so 102 sP a d s.P0::L):=by obtain⟨g,h⟩:=h.ex;exact⟨g.1,g.2,h.R6⟩
theorem Hp.Yd{e:Option Addr}{f:Nat}{a:R9}{d:List Pc}{g:List Int}(h:Hp c w (bk b ([I a.A0,I a.F0,I a.L0,.slice e d.length f]++g.map I) 155::so 102 sP e f d::L)):Hp c w (z6 b ⟨a,d,g⟩::L):=Hp.R8 (e,f) (Hp.C3 h)
theorem CS{l:List Int}{k:Nat}{n:Int}(a:i3 l k=some n):i3 ([x0,x1,x2,x3]++l.map I) (4+k)=some (I n):=by grind[Z0]
theorem ST.ll{P:Program}{k size:Nat}{l':List Value}{K:World->Prop}(h:Hp c w L)(i:Nat)(a:i3 L i=some (bk b l t))(hs:v.cells.toList.length=size)(m:v.cells.toList.all (·.oneCell')=true)(g:k+size<=l.length)
 (f:m8 l k v.cells.toList=l')(j:G7 L i (bk b l' t)=some L')(d:∀w',Hp c w' L'->K w'):ST P w ⟨b,k,none⟩ v size K:=by
 subst f;exact ST.Qm (h.Qm a) hs m (FE g) λw' e=>d w' (h.kG a e j)
theorem LD.ll{o k:Nat}(h:Hp c w L)(i:Nat)(e:i3 L i=some (bk b l t))(a:i3 l (o+k)=some v)(d:K v):LD (λw'=>w'=w) ((⟨b,o,none⟩:Addr).add (k*1)) K:=by rw[i9,au];grind[LD.hp]
theorem FF{l:List Int}{k:Nat}{n:Int}:m8 ([x0,x1,x2,x3]++l.map I) (4+k) [I n]=[x0,x1,x2,x3]++(l.set k n).map I:=by simp only[m8];rw[Cz (4+k) (I n) Zb3];simp
section
theorem aft{n:Int}(h:Hp c w R):Cr 57 #[I n] w c (.bool (!decide (n<0∨n>=8))) R:=by
 refine R2 func57 O (BR.T5 (λa=>?_) λa=>?_)
 ·refine⟨A8 O ?_,h⟩;grind[]
 ·refine⟨A8 O ?_,h⟩;grind[]
theorem afU{x:E9}(h:Hp c w (z6 b x::R)):Cr 42 #[Pt b] w c (I x.P0.length) (z6 b x::R):=by refine R2 func42 O (wg h.Af λd a h=>U0 h 0 O O ?_);replace h:Hp _ _ (z6 _ (x)::_):=Hp.Yd h;exact⟨rfl,h⟩
theorem nO{x:E9}{tx:Int}(h:Hp c w (z6 b x::R))(j:x.P0.length<=64):Cr 43 #[Pt b,I tx] w c (.tuple #[(x.entry tx).1.v,.bool (x.entry tx).2]) (z6 b x::R):=by
 refine R2 func43 O ?_;generalize hr:x.entry tx=r;refine I2 h O λb1 w h=>BR.T5 (λa=>?_) λa=>?_
 ·refine Q5 (J3 h 0 O O O λw h=>O4 h 0 O O ?_);simp[E9.entry,a,-List.getD_eq_getElem?_getD,-Int.pred_toNat]at hr;subst hr;exact⟨rfl,h.q 2 [1] O⟩
 ·refine wg ((h.g [1] O).Af) λl f h=>U0 h 0 O O (BR.T5 (λe=>?_) λe=>?_)
  ·refine J3 h 2 O O O λw h=>O4 h 2 O O ?_;simp[E9.entry,a,e,-List.getD_eq_getElem?_getD,-Int.pred_toNat]at hr;exact vN
  ·refine U0 h 0 O O (i5 (jd h 1 O λb2 i k=>Oa.sl h 1 O Zb9 (K5 (d:=Ft) m4) (J3 h 2 O O O λw h=>O4 h 2 O O ?_)));simp[E9.entry,a,e,-List.getD_eq_getElem?_getD,-Int.pred_toNat]at hr;exact vN
structure E9.Ok(x:E9):Prop where
 p:F8 x.D0.A0 x.D0.F0 x.D0.L0
 l:x.P0.length<=64
 s:x.ba.length=8
theorem acZ{x:E9}(h:Hp c w (z6 b x::R))(i:x.Ok):Cr 24 #[Pt b,I cl,I C0] w c (.tuple #[I (x.of cl C0).1,.bool (x.of cl C0).2]) (z6 b x::R):=by
 obtain⟨⟨⟨k,l⟩,⟨s,n⟩,hp5,hp6⟩,m,hs⟩:=i;refine R2 func24 O ?_;generalize hr:x.of cl C0=r;refine N1 (aft h) λw h=>BR.not (BR.O' (λa=>?_) λa=>?_)
 ·have e:¬(cl<0∨cl>=8):=by simp at a;omega
  refine wg h.Af λp j h=>Jc.mk ⟨_,rfl,m4,m4,LD.ll (o:=4) h 0 O (CS (K5 (d:=0) m4)) ?_⟩;replace h:=Hp.Yd h;clear a;refine N1 (nO h Zb9) λw h=>I2 h O λb1 w h=>J3 h 0 O O O λw h=>wg ((h.g [1] O).Af) λamM akl h=>Y6 h [0,1,2,3,4,5,7,10,6,58,109,11,12] λh=>BR.not (BR.O' (λa=>?_) λa=>?_)
  ·refine xg 0 O O (U0 h 2 O O ⟨h,N1 (acU h Zb1 Zb1) λw h=>BR.T5 (λf=>?_) λf=>?_⟩)
   ·simp[E9.of,R9.E5,e,a,f,-List.getD_eq_getElem?_getD,-Int.pred_toNat]at hr;exact KU
   ·simp[E9.of,R9.E5,e,a,f,-List.getD_eq_getElem?_getD,-Int.pred_toNat]at hr;exact KU
  ·refine⟨h,Q5 ?_⟩;simp[E9.of,R9.E5,e,a,-List.getD_eq_getElem?_getD,-Int.pred_toNat]at hr;exact KU
 ·have e:cl<0∨cl>=8:=by simp at a;omega
  clear a;simp[E9.of,e,-List.getD_eq_getElem?_getD,-Int.pred_toNat]at hr;subst hr;exact⟨rfl,h⟩
theorem ahw{x:E9}(h:Hp c w (z6 b x::R))(f:x.Ok):Cr 172 #[Pt b,I cl,I p,I C0] w c (.tuple #[I (x.Um cl p C0).1,I (x.Um cl p C0).2]) (z6 b x::R):=by
 have n:=f;obtain⟨⟨⟨j,k⟩,⟨s,m⟩,hp5,hp6⟩,l,hs⟩:=f;refine R2 func172 O ?_;generalize hr:x.Um cl p C0=r;refine N1 (acZ h Zb9) λw h=>N1 (nO h Zb9) λw h=>I2 h O λb1 w h=>J3 h 0 O O O λw h=>BR.not (BR.O' (λa=>?_) λa=>?_)
 ·refine U0 h 0 O O (WR.W (N1 (kJ h) λw h=>BR.not (BR.O' (λd=>?_) λd=>?_)))
  ·refine wg ((h.g [1] O).Af) λo i h=>Y6 h [0,1,2,4,7,3,55,106,8,9] λh=>xg 0 O O (U0 h 2 O O ⟨h,N1 (XY h m4 m4) λw h=>BR.T5 (λe=>?_) λe=>?_⟩)
   ·simp[E9.Um,R9.M8,a,d,e,-List.getD_eq_getElem?_getD,-Int.pred_toNat]at hr;exact vN
   ·simp[E9.Um,R9.M8,a,d,e,-List.getD_eq_getElem?_getD,-Int.pred_toNat]at hr;exact vN
  ·simp[E9.Um,R9.M8,a,d,-List.getD_eq_getElem?_getD,-Int.pred_toNat]at hr;subst hr;exact⟨rfl,h.q 2 [1] O⟩
 ·simp[E9.Um,R9.M8,a,-List.getD_eq_getElem?_getD,-Int.pred_toNat]at hr;subst hr;exact⟨rfl,h.q 2 [1] O⟩
end
theorem JU{P:Prop}(h:P:=by subst hr;replace h:Hp _ _ (z6 _ (x)::_):=Hp.Yd h;exact⟨rfl,h⟩):P:=h
theorem Bv.u16{x:BitVec 16}(k:K (gb (x>>>n))):Bv .u16 (x.toNat:Int) n K:=by
 refine⟨?_⟩;have e:(x.toNat:Int).fdiv (2^(min n IntKind.u16.bits))=((x>>>n).toNat:Int):=by
  rw[qy,mz,pz];by_cases h:n<=16
  ·rw[Ue (show n<=IntKind.u16.bits from h)]
  ·have a:=x.isLt;have c:x.toNat/2^n=0:=gu (iz a (Fs m4 m4));have b:x.toNat/2^(min n IntKind.u16.bits)=0:=by rw[Nat.min_eq_right (show IntKind.u16.bits<=n from by show 16<=n;omega)];exact gu a
   rw[c,b]
 grind
theorem ST.ba{P:Program}{k:Nat}{l:List Int}{n:Int}{K:World->Prop}(h:Hp c w L)(i:Nat)(d:i3 L i=some (bk b ([x0,x1,x2,x3]++l.map I) t))(f:k<l.length)
 (e:G7 L i (bk b ([x0,x1,x2,x3]++(l.set k n).map I) t)=some L')(a:∀w',Hp c w' L'->K w'):ST P w ((⟨b,4,none⟩:Addr).add (k*1)) (I n) 1 K:=by
 rw[i9,au];exact ST.ll h i d O O Zb5 FF e a
section
theorem ahz{x:E9}{m:BitVec 16}(h:Hp c w (z6 b x::R))(l:x.Ok):Cr 168 #[Pt b,I cl,gb m,I C0] w c (.tuple #[I (x.I1 cl m C0).1,I (x.I1 cl m C0).2.1]) (z6 b (x.I1 cl m C0).2.2::R):=by
 have C:=l;obtain⟨⟨⟨t,v⟩,⟨E,A⟩,hp5,hp6⟩,y,hs⟩:=l;refine R2 func168 O ?_;generalize hr:x.I1 cl m C0=r;refine N1 (acZ h Zb9) λw h=>N1 (aft h) λw h=>BR.not (BR.not (BR.T5 (λa=>?_) λa=>?_))
 ·refine Q5 (Q5 ?_);simp only[E9.I1,a,if_true,if_false,ite_true,ite_false,or_self,or_true,true_or,or_false,false_or,and_self,and_true,true_and,and_false,false_and,not_true_eq_false,not_false_eq_true,Bool.not_true,Bool.not_false,Bool.false_eq_true,reduceCtorEq,↓reduceIte]at hr;subst hr;exact⟨rfl,h⟩
 ·refine BR.T5 (λd=>?_) λd=>?_
  ·refine Q5 ?_;simp only[E9.I1,a,d,if_true,if_false,ite_true,ite_false,or_self,or_true,true_or,or_false,false_or,and_self,and_true,true_and,and_false,false_and,not_true_eq_false,not_false_eq_true,Bool.not_true,Bool.not_false,Bool.false_eq_true,reduceCtorEq,↓reduceIte]at hr;subst hr;exact⟨rfl,h⟩
  ·refine BR.T5 (λe=>?_) λe=>?_
   ·simp only[E9.I1,a,d,e,if_true,if_false,ite_true,ite_false,or_self,or_true,true_or,or_false,false_or,and_self,and_true,true_and,and_false,false_and,not_true_eq_false,not_false_eq_true,Bool.not_true,Bool.not_false,Bool.false_eq_true,reduceCtorEq,↓reduceIte]at hr;subst hr;exact⟨rfl,h⟩
   ·refine BR.eq (λf=>?_) λf=>?_
    ·refine Q5 ?_;simp only[E9.I1,a,d,e,f,if_true,if_false,ite_true,ite_false,or_self,or_true,true_or,or_false,false_or,and_self,and_true,true_and,and_false,false_and,not_true_eq_false,not_false_eq_true,Bool.not_true,Bool.not_false,Bool.false_eq_true,reduceCtorEq,↓reduceIte]at hr;subst hr;exact⟨rfl,h⟩
    ·refine wg h.Af λD s h=>U0 h 0 O O (km (Bv.u16 (BR.ne (λi=>?_) λi=>?_)))
     ·simp only[E9.I1,a,d,e,f,i,if_true,if_false,ite_true,ite_false,or_self,or_true,true_or,or_false,false_or,and_self,and_true,true_and,and_false,false_and,not_true_eq_false,not_false_eq_true,Bool.not_true,Bool.not_false,Bool.false_eq_true,reduceCtorEq,↓reduceIte]at hr;exact JU
     ·refine BR.O' (λj=>?_) λj=>?_
      ·simp only[E9.I1,a,d,e,f,i,j,if_true,if_false,ite_true,ite_false,or_self,or_true,true_or,or_false,false_or,and_self,and_true,true_and,and_false,false_and,not_true_eq_false,not_false_eq_true,Bool.not_true,Bool.not_false,Bool.false_eq_true,reduceCtorEq,↓reduceIte]at hr;exact JU
      ·refine U0 h 0 O O (BR.T5 (λk=>?_) λk=>?_)
       ·simp only[E9.I1,a,d,e,f,i,j,k,if_true,if_false,ite_true,ite_false,or_self,or_true,true_or,or_false,false_or,and_self,and_true,true_and,and_false,false_and,not_true_eq_false,not_false_eq_true,Bool.not_true,Bool.not_false,Bool.false_eq_true,reduceCtorEq,↓reduceIte]at hr;exact JU
       ·refine U0 h 0 O O (I2 h O λb1 w h=>A4.Yb (u:=(⟨cl,C0,m⟩:Pc)) (Ca.of (w9:=24) kn O O O O O O) h 2 O O 0 O O O m4 (λ_ _=>rfl) λa1 o w h=>ST.ll (l':=[I x.D0.A0,I x.D0.F0,I x.D0.L0,.slice a1 (x.P0++[(⟨cl,C0,m⟩:Pc)]).length o]++x.ba.map I) h 1 O O O (by rw[j7];exact aL 4 _) O O λw h=>ja.D0 kn o8 (λ_=>True) (qs [0,1,2,3,4,7,8] (ws [5,6] (qs [9] (vs [10] .done)))) Zb2 trivial ?_);replace h:=h.drew;refine U0 h 1 O O ⟨trivial,⟨trivial,Jc.mk ⟨_,rfl,m4,m4,ST.ba (n:=((x.P0++[(⟨cl,C0,m⟩:Pc)]).length:Int)) h 1 O m4 O λw h=>?_⟩⟩⟩;have p:((x.P0++[(⟨cl,C0,m⟩:Pc)]).length:Int)=x.P0.length+1:=Zb3
        refine U0 h 1 O O ?_;simp only[E9.I1,a,d,e,f,i,j,k,if_true,if_false,ite_true,ite_false,or_self,or_true,true_or,or_false,false_or,and_self,and_true,true_and,and_false,false_and,not_true_eq_false,not_false_eq_true,Bool.not_true,Bool.not_false,Bool.false_eq_true,reduceCtorEq,↓reduceIte]at hr;subst hr;replace h:=Hp.Yd (h.g [1,2] O);refine⟨wJ O ?_,Hp.subst (h.q 2 [0] O) ?_⟩
        ·exact V4 (λ(z:Int)=>[I z,I 0]) p
        simp
theorem akO{e:Pc}(h:Hp c w (bk b [I p] 3::R)):Cr 94 #[e.v,Pt b] w c (.bool (Qe (W e.J0) p)) (bk b [I p] 3::R):=by exact R2 func94 O (I2 h O λb1 w h=>U0 h 0 O O (WR.W (U0 h 1 O O (N1 (kJ h) λw h=>⟨rfl,h.q 2 [1] O⟩))))
theorem akS{p:R9}(h:Hp c w R)(f:F8 p.A0 p.F0 p.L0):Cs 79 #[Fp p.A0 p.F0 p.L0] w (λe w'=>∃b,e= .returned (.tuple #[Pt b,I 0])∧Hp c w' (z6 b ⟨p,[],List.replicate 8 0⟩::R)):=by refine R2 func79 O (I2 h O λb1 w h=>U0 h 0 O O (U0 h 0 O O (U0 h 0 O O (N1 (qZ h Zb9) λw h=>I2 h O λb2 w h=>J3 h 0 O O O λw h=>m5 (O4 h 1 O O (I2 h O λa w h=>?_))))));replace h:=h.G4 102 sP;have d:Hp c w (bk a ([I p.A0,I p.F0,I p.L0,.slice none ([]:List Pc).length 0]++(List.replicate 8 (0:Int)).map I) 155::so 102 sP none 0 []::R):=h.q 4 [1,0] O;exact⟨a,rfl,Hp.Yd d⟩
end
def Bl(p:α->Bool)(l:List α):List Int:=(l.zipIdx.filter λ(x:α×Nat)=>p x.1).map λ(x:α×Nat)=>(x.2:Int)+1
theorem yF(p:α->Bool)(l:List α)(x:α):Bl p (l++[x])=Bl p l++if p x then[(l.length:Int)+1]else[]:=by grind[Bl]
theorem eJ(p:α->Bool)(l:List α):(Bl p l).length<=l.length:=by unfold Bl;rw[H7];refine j9 (Rh _ _) ?_;simp
section
theorem akP{f:Nat}{x:E9}{lb:List Value}{M:HP}{p:Pc->Bool}(o:Fz f lb c M Pc.v p)(r:Ck f=true)(h:Hp c w (M::z6 b x::R))(D:x.P0.length<=64):Cs 93 #[Pt b,.func (.func f) #[] lb.toArray] w (λe w'=>∃a cap,e= .returned (.slice a (Bl p x.P0).length cap)∧Hp c w' (so 3 O5 a cap (Bl p x.P0)::M::z6 b x::R)):=by
 refine R2 func93 O (wg ((h.g [1] O).Af) λn j h=>U0 h 0 O O ?_);replace h:=h.G4 3 O5;refine p5.A6 kn [1,5,11,12,13] (λm vs w'=>∃(i:Int)(a:Option Addr)(cap:Nat),vs=[.func (.func f) #[] lb.toArray,.slice a (Bl p (x.P0.take i.toNat)).length cap,.slice n x.P0.length j,I x.P0.length,I i]∧(0<=i∧i+m=x.P0.length)∧Hp c w' (so 3 O5 a cap (Bl p (x.P0.take i.toNat))::bk b ([I x.D0.A0,I x.D0.F0,I x.D0.L0,.slice n x.P0.length j]++x.ba.map I) 155::so 102 sP n j x.P0::M::R)) x.P0.length ⟨0,none,0,rfl,m4,h⟩ ?_;rintro m _ w1 E ⟨i,a,cap,rfl,C,h⟩;have y:=eJ p (x.P0.take i.toNat);have z:(x.P0.take i.toNat).length<=x.P0.length:=Zb5
 refine BR.T5 (λs=>?_) λs=>?_
 ·have k:x.P0.take (i+1).toNat=x.P0.take i.toNat++[x.P0.getD i.toNat Ft]:=by
   have e:(i+1).toNat=i.toNat+1:=m4
   rw[e,yL];have:i.toNat<x.P0.length:=m4
   simp[this]
  have hs:=yF p (x.P0.take i.toNat) (x.P0.getD i.toNat Ft);rw[<-k]at hs;have t:((x.P0.take i.toNat).length:Int)=i:=by rw[Ga];omega
  rw[t]at hs;refine jd h 2 O λb1 A H=>Oa.sl h 2 O Zb9 (K5 (d:=Ft) m4) (I2 h O λb2 w h=>J3 h 0 O O O λw h=>O4 h 0 O O (od.by r (o (h.g [4] O)) ?_));rintro _ w ⟨rfl,h⟩;refine BR.O' (λl=>?_) λl=>?_
  ·refine i5 (I2 h O λF w h=>A4.Yb (u:=_) (Ca.of (w9:=8) kn O O O O O O) h 3 O O 0 O O O m4 (λ_ _=>rfl) λa1 G w h=>i5 ?_);rw[l,S1 O]at hs;rw[<-hs]at h⊢;refine⟨(m-1),?_,_,_,_,rfl,?_,h.q 6 [3,4,5,1] O⟩
   ·omega
   ·omega
  ·refine i5 ?_;rw[l,V0 Zb4,Jb]at hs;rw[<-hs]at h⊢;refine⟨(m-1),?_,_,_,_,rfl,?_,h.q 5 [2,3,4,0] O⟩
   ·omega
   ·omega
 ·have k:x.P0.take i.toNat=x.P0:=by rw[sd];omega
  rw[k]at h⊢;replace h:Hp _ _ (z6 _ (x)::_):=Hp.Yd (h.g [1,2] O);exact⟨_,_,rfl,h.g [1,2] O⟩
theorem ala{x:E9}(h:Hp c w (z6 b x::R))(d:x.P0.length<=64):Cs 62 #[Pt b,I p] w (λe w'=>∃a cap,e= .returned (.slice a (x.De p).length cap)∧Hp c w' (so 3 O5 a cap (x.De p)::z6 b x::R)):=by exact R2 func62 O (I2 h O λb1 w h=>ga (akP (M:=bk b1 [I p] 3) (lb:=[Pt b1]) (p:=λe=>Qe (W e.J0) p) (λh=>akO h) O h d) λa1 f w h=>⟨_,_,rfl,h.q 3 [0,2] O⟩)
end
section
variable{e:TypeId}
theorem A4.mks{P:Program}{ty:TypeId}{g:Option (Nat×Bool)}{x y:Operand}{K:Value->World->Prop}{w9:Nat}{z:Value}{n:Int}(d:α)
 (T:Ca P t e E.sz w9 z)(H:z.cells.toList=E.f d)(h:Hp c w L)(C:ρ x= .int .i64 n)(A:ρ y= .int .i64 n)(Y:1<=n∧n<=1000000)(r:w9<=4096)(o:0<E.sz)
 (k:∀b w',Hp c w' (so e E (some ⟨b,0,none⟩) n.toNat (List.replicate n.toNat d)::L)->K (.slice (some ⟨b,0,none⟩) n.toNat n.toNat) w'):
 A4 P ⟨dst,.makeSlice t x y,ty,db,af,g⟩ ρ w K PQ:=by
 obtain⟨i,G,u,a,J⟩:=T.i;subst J;have p:=T.z;obtain⟨m,rfl⟩:∃m:Nat,n=m:=⟨n.toNat,m4⟩;have D:IntKind.i64.wrap (m:Int)=m:=Ug ⟨m4,m4⟩;have hmb:m*i.bytes<=1000000*4096:=zq m4 r;have hbm:((i.bytes:Int)*(m:Int))<=281474976710656:=by
  have:((m*i.bytes:Nat):Int)<=4096000000:=m4
  rw[uz,Int.mul_comm]at this;omega
 have Q:¬m*i.size=0:=by rw[a];have:=Nat.mul_pos (show 0<m by omega) o;omega
 have R:(Array.range (m*i.size)).map (λj=>z.cells[j%z.cells.size]!)=(E.P3 (List.replicate m d)).toArray:=by
  have hfe:E.P3 (List.replicate m d)=(List.replicate m z.cells.toList).flatten:=by rw[H];unfold Qb.P3;rw[List.flatMap_def,List.map_replicate]
  rw[hfe];apply uE;intro j;have l:=jy z.cells.toList m j;rw[xE,p]at l;have hrt:((List.replicate m z.cells.toList).flatten.toArray)[j]?=(List.replicate m z.cells.toList).flatten[j]?:=Zb3
  rw[hrt,l,Array.getElem?_map,a];by_cases F:j<m*E.sz
  ·rw[S1 F];have V:j%E.sz<z.cells.size:=by rw[p];exact kE _ o
   grind
  ·simp[*]
 have M:=h.alloc (.cells (E.P3 (List.replicate m d)).toArray e);refine A4.val (v:= .slice (some ⟨w.heap.size,0,none⟩) m m) (w':=w.alloc (.cells (E.P3 (List.replicate m d)).toArray e)) ?_ (k w.heap.size _ ?_)
 ·have N:¬(m:Int)<0:=m4
  have S:¬(281474976710656<(i.bytes:Int)*(m:Int)):=m4
  have q:¬(m*i.bytes>roomBytes):=by unfold roomBytes;omega
  have s:∀c,(newRow e c).run P w= .ok ⟨w.heap.size,0,none⟩ (w.alloc (.cells c e)):=λc=>by simp only[newRow,Sem.run_bind,run_newObj_alloc,Result.andThen_ok,Sem.run_pure]
  simp only[execOp,C,A];simp[Instr.makeSlice,run_underlying T.t,sizeOf,typeInfo,zeroValue,G,u,asInt,asIntOf,D,N,S,askRoom,q,Q,s,R]
 ·refine M.imp λX Z=> .inr ⟨w.heap.size,[],[],rfl,?_,Zb3,Zb3,by unfold maxLen;omega⟩;simp[*]
theorem Lp:∀(pre l vs:List Value),vs.length=l.length->m8 (pre++l) pre.length vs=pre++vs
 |pre,[],[],_=>rfl
 |pre,[],_::_,h=>by simp at h
 |pre,_::_,[],h=>by simp at h
 |pre,x::l,v::vs,h=>by unfold m8;rw[Cz pre.length v (V7 _),cu,List.set_cons_zero];have:=Lp (pre++[v]) l vs (by simpa using h);simp_all
theorem ST.all{P:Program}{size:Nat}{l':List Value}{K:World->Prop}(h:Hp c w L)(i:Nat)(d:i3 L i=some (bk b l t))(a:v.cells.toList=l')(hs:l'.length=size)(f:l'.all (·.oneCell')=true)(k:l.length=size)
 (m:G7 L i (bk b l' t)=some L')(g:∀w',Hp c w' L'->K w'):ST P w ⟨b,0,none⟩ v size K:=by
 subst a;refine ST.Qm (h.Qm d) hs f (FE m4) λw' j=>?_;have e:=Lp [] l v.cells.toList m4;rw[show([]:List Value).length=0 from rfl,Bp,Bp]at e;grind[Hp.kG]
theorem Oa.sx{o:Nat}{xs:List α}(hs:Sx E w (Option.some ⟨b,o,none⟩) n cap xs)(g:n*E.sz=m)(a:K (.agg (E.P3 xs).toArray)):Oa (λw'=>w'=w) ⟨b,o,none⟩ m K:=by
 rcases hs.sl.A6 with⟨h0,_⟩|⟨l,o',h0,j,k⟩
 ·cases h0
 ·injection h0 with h0;injection h0 with d c;subst d c;refine⟨E.P3 xs,m4,λw' e i v f=>?_,a⟩;simp_all[i9]
theorem A4.akq{P:Program}{ty:TypeId}{g:Option (Nat×Bool)}{x:Operand}{K:Value->World->Prop}{k:Nat}{e:TypeId}
 (c:P.underlying t=Option.some (.array k e))(b:ρ x= .slice a n cap)(f:k<=n)(d:K (.pointer a) w):A4 P ⟨dst,.sliceToArrayPointer t x,ty,db,af,g⟩ ρ w K PQ:=by
 refine A4.val (w':=w) ?_ d;have hn':¬n<k:=m4
 simp[execOp,b,Instr.arrayAt,run_underlying c,hn']
end
theorem abR{P:Prop}(h:P:=by refine A4.Pk (Ca.of (w9:=1) kn O O O O O O) h 0 O O O L8 (by grind) (λ_ _=>rfl) λa1 V1 w h=>?_;rw[Bp]at h⊢;simp only[U2.o9,g1,g2,if_true,if_false,ite_true,ite_false,or_self,or_true,true_or,or_false,false_or,and_self,and_true,true_and,and_false,false_and,not_true_eq_false,not_false_eq_true,Bool.not_true,Bool.not_false,Bool.false_eq_true,reduceCtorEq,↓reduceIte]at hr;subst hr;replace h:Hp _ _ (M1 _ (x)::_):=Hp.Xd (h.g [2,3,4,5] O);exact⟨_,_,rfl,h.q 3 [1,0] O⟩):P:=h
theorem oa.P3(s:oa):oa.f s=eB.P3 s.1:=by
 unfold oa.f Qb.P3;induction s.1 with
 |nil=>rfl
 |cons x l a=>rw[Kb,EC,a];rfl
section
theorem OF{x:U2}(h:Hp c w (M1 b x::R)):Cr 149 #[Pt b] w c (I x.P1.length) (M1 b x::R):=by refine R2 func149 O (pN h.md λg f e a d h=>U0 h 0 O O ?_);replace h:Hp _ _ (M1 _ (x)::_):=Hp.Xd h;exact⟨rfl,h⟩
theorem rR{x:U2}(h:Hp c w (M1 b x::R)):Cr 296 #[Pt b,I i] w c (.bool (x.U' i)) (M1 b x::R):=by
 refine R2 func296 O (BR.T5 (λa=>?_) λa=>?_)
 ·refine pN h.md λj g f d e h=>U0 h 0 O O ?_;replace h:Hp _ _ (M1 _ (x)::_):=Hp.Xd h;refine⟨A8 O ?_,h⟩;grind[U2.U']
 ·refine⟨A8 O ?_,h⟩;grind[U2.U']
theorem akR{n:Int}(h:Hp c w R)(f:1<=n∧n<=512):Cs 80 #[I n] w (λe w'=>∃b,e= .returned (.tuple #[Pt b,I 0])∧Hp c w' (M1 b (U2.new n.toNat)::R)):=by
 refine R2 func80 O (Te (Te (A4.mks (E:=mA) kc (Ca.of (w9:=32) kn O O O O O O) O h O O m4 Zb4 Zb4 λb1 w h=>A4.Xp I oa.v h λb2 w h=>I2 h O λa w h=>?_)));replace h:=h.G4 457 uH;have d:Hp c w (bk a [.slice (some ⟨b1,0,none⟩) (List.replicate n.toNat kc).length n.toNat,.slice none ([]:List (Int×oa)).length 0,.map (some b2)] 279::so 288 mA (some ⟨b1,0,none⟩) n.toNat (List.replicate n.toNat kc)::so 457 uH none 0 []::mo I oa.v b2 []::R):=by rw[nz];exact h.g [1,3] O
 exact⟨a,rfl,Hp.Xd d⟩
theorem xR{x:U2}(h:Hp c w (M1 b x::R)):Cs 249 #[Pt b,I i] w (λe w'=>∃a cap,e= .returned (.tuple #[.slice a (x.o9 i).1.length cap,I (x.o9 i).2])∧Hp c w' (so 5 eB a cap (x.o9 i).1::M1 b x::R)):=by
 refine R2 func249 O ?_;generalize hr:x.o9 i=r;refine N1 (rR h) λw h=>BR.not (BR.O' (λg1=>?_) λg1=>?_)
 ·refine pN h.md λu t p l m h=>U0 h 0 O O (RD.xK GZ h 3 O _ (λg2=>?_) λj g2=>?_)
  ·refine I2 h O λb1 w h=>J3 h 0 O O O λw h=>Q5 (U0 h 1 O O ?_);have n:0<=i∧i<x.P1.length:=by simpa [U2.U'] using g1
   refine jd h 2 O λb2 k s=>Oa.sl h 2 O Zb9 (K5 (d:=kc) m4) (ST.all (l':=oa.f (x.P1.getD i.toNat kc)) h 0 O O (oa.Bm _) (oa.uy _) O O λw h=>I2 h O λo w h=>RD.ll kn O O ?_);replace h:=Hp.vg (E:=eB) [] h O Zb4;have L8:Sl w eB.sz (.slice (some ⟨b1,0,none⟩) 32 32) (x.P1.getD i.toNat kc).1.length (eB.P3 (x.P1.getD i.toNat kc).1):=by have:=(h.Ib (E:=eB) (x.P1.getD i.toNat kc).1 1 O (oa.P3 (x.P1.getD i.toNat kc)) (x.P1.getD i.toNat kc).2.symm).sl;rw[(x.P1.getD i.toNat kc).2];exact this
   exact abR
  ·refine I2 h O λb1 w h=>ST.all (l':=oa.f j) h 0 O O (oa.Bm j) (oa.uy j) O O λw h=>m5 (I2 h O λb2 w h=>RD.ll kn O O ?_);replace h:=Hp.vg (E:=eB) [] h O Zb4;have L8:Sl w eB.sz (.slice (some ⟨b1,0,none⟩) 32 32) j.1.length (eB.P3 j.1):=by have:=(h.Ib (E:=eB) j.1 1 O (oa.P3 j) j.2.symm).sl;rw[j.2];exact this
   exact abR
 ·simp only[U2.o9,g1,if_true,if_false,ite_true,ite_false,or_self,or_true,true_or,or_false,false_or,and_self,and_true,true_and,and_false,false_and,not_true_eq_false,not_false_eq_true,Bool.not_true,Bool.not_false,Bool.false_eq_true,reduceCtorEq,↓reduceIte]at hr;subst hr;replace h:=h.G4 (5) eB;exact⟨_,_,rfl,h⟩
end
section
variable{e:TypeId}
theorem A4.copy{P:Program}{ty d:TypeId}{g:Option (Nat×Bool)}{x y:Operand}{K:Value->World->Prop}{w9 b q sz:Nat}{z:Value}{a:Addr}
 (T:Ca P t e sz w9 z)(h:ρ x= .slice (some a) b q)(f:ρ y=v)(hs:Sl w sz v m l)(o:Nat.min m b=n)
 (s:ST P w a (.agg (l.take (n*sz)).toArray) (n*sz) (λw'=>K (I n) w')):
 A4 P ⟨dst,.call ⟨.builtin .copy,#[x,y],#[t,d]⟩,ty,db,af,g⟩ ρ w K PQ:=by
 obtain⟨i,p,A,c,u⟩:=T.i;obtain⟨D,w',j,k⟩:=s.ex;have hr':(storeCells a (l.take (n*sz))).run P w= .ok () w':=j;have r:(Builtin.lenOf v).run P w= .ok m w:=hs.lenOf;have hfc:(Builtin.firstCells sz n v).run P w= .ok (l.take (n*sz)).toArray w:=by
  cases hs with
  |nil=>simp[run_firstCells_none]
  |row C E=>grind[run_firstCells_some,Nat.mul_le_mul_right,i9,Z0]
 refine A4.val (v:=I n) (w':=w') ?_ k;simp[execOp,resolve,invoke,builtin,Builtin.copy_,run_underlying T.t,h,f,r,sizeOf,typeInfo,p,c,o,hfc,goInt,hr']
end
end Go.Proofs.YtaaihojmcfaejaaGreatDoor
