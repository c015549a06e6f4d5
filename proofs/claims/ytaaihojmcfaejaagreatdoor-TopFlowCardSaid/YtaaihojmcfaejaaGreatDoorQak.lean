/- Lemmas for the tops: the walk of the house and its laws. No condition is added. -/
import Derived.Test.YtaaihojmcfaejaaGreatDoorQaj
import Derived.Test.YtaaihojmcfaejaaGreatDoorQah
import Derived.Test.YtaaihojmcfaejaaGreatDoorQaf
import Derived.Test.YtaaihojmcfaejaaGreatDoorQag
set_option linter.all false
namespace Go.Proofs.YtaaihojmcfaejaaGreatDoor
open Go Go.RowKit Tryz
variable{b:Int}{R:List HP}{cap n:Nat}{a:Option Addr}{α:Type}{u0 u1 u2 v0 v1 v2 v3:Value}{c w:World}
section
set_option maxHeartbeats 4000000 in
theorem agG{g:Nat}{lb:List Value}{r:E2->Int}{l:List E2}{hi:Int}(h:Hp c w (so 157 F2 a cap l::R))(hf:Ks g lb E2.v r c R)(o:n=l.length)(p:hi=l.length)(hb:n<=1000000000):Cs 313 #[.slice a n cap,I hi,.func (.func g) #[] lb.toArray] w (λe w'=>e= .returned (.tuple #[])∧∃l',F7 r l l'∧I6 r l'∧Hp c w' (so 157 F2 a cap l'::R)):=by let Zo:List E2->HP:=λl=>so 157 F2 a cap l;have z0:=func313;have b:=@ZLp;have f:=@ZCp;have acA:=@ahp;have acz:=@agt;exact abZ
theorem agW{g:Nat}{lb:List Value}{r:E2->Int}{le:E2->E2->Bool}{l:List E2}(h:Hp c w (so 157 F2 a cap l::R))(hf:Ks g lb E2.v r c R)(Qd:∀a b,le a b=true↔r a<=r b)(hn:n=l.length)(hb:n<=1000000000):Cr 255 #[.slice a n cap,.func (.func g) #[] lb.toArray] w c (.tuple #[]) (so 157 F2 a cap (J7 le l)::R):=by let f:List E2->HP:=λl=>so 157 F2 a cap l;have z0:=func255;have d:=@ZLp;have e:=@ZCp;have z75:=@agG;exact abY
end
theorem vs1(h0:v0=u0):[v0]=[u0]:=by subst h0;rfl
theorem vs3(h0:v0=u0)(b:v1=u1)(a:v2=u2):[v0,v1,v2]=[u0,u1,u2]:=Zb6
theorem vs4{u3:Value}(h0:v0=u0)(c:v1=u1)(b:v2=u2)(a:v3=u3):[v0,v1,v2,v3]=[u0,u1,u2,u3]:=Zb6
theorem vs5{u3 a b:Value}(h0:v0=u0)(f:v1=u1)(e:v2=u2)(d:v3=u3)(c:a=b):[v0,v1,v2,v3,a]=[u0,u1,u2,u3,b]:=Zb6
theorem vs6{u3 b d a c:Value}(h0:v0=u0)(j:v1=u1)(i:v2=u2)(g:v3=u3)(f:b=d)(e:a=c):[v0,v1,v2,v3,b,a]=[u0,u1,u2,u3,d,c]:=Zb6
theorem bf.akG{x y:BitVec 64}{a:Int}{K:Value->Prop}(d:a=x.toInt)(c:b=y.toInt)(k:K (I (x^^^y).toInt)):bf .xor .i64 a b K:=by
 refine⟨?_⟩;subst d c;have:dg .xor .i64 x.toInt y.toInt=(x^^^y).toInt:=by show IntKind.i64.wrap (((BitVec.ofInt 64 x.toInt^^^BitVec.ofInt 64 y.toInt).toNat:Nat):Int)=_;rw[BitVec.ofInt_toInt,BitVec.ofInt_toInt,qA];simp
 simp_all
theorem bf.aeR{x y:BitVec 64}{a:Int}{K:Value->Prop}(d:a=(x.toNat:Int))(c:b=(y.toNat:Int))(k:K (U (x^^^y))):bf .xor .u64 a b K:=by
 subst d c;refine⟨?_⟩;have:dg .xor .u64 (x.toNat:Int) (y.toNat:Int)=((x^^^y).toNat:Int):=by show IntKind.u64.wrap (((BitVec.ofInt 64 (x.toNat:Int)^^^BitVec.ofInt 64 (y.toNat:Int)).toNat:Nat):Int)=_;rw[kj,kj,Xm]
 grind
theorem aoj(u:BitVec 64):(u&&&1#64)=0#64∨(u&&&1#64)=1#64:=Zb1
theorem adB(u:BitVec 64):(0-((u&&&1#64).toNat:Int))=(0#64-(u&&&1#64)).toInt:=Zb1
theorem Wr:∀(n:Nat)(u:BitVec 64),bytesLE u (n+1)=bytesLE u n++[(u>>>(8*n)).setWidth 8]
 |0,u=>by simp[bytesLE]
 |n+1,u=>by
  rw[bytesLE,Wr n,bytesLE,PE];have e:(u>>>8)>>>(8*n)=u>>>(8*(n+1)):=by rw[<-BitVec.shiftRight_add];congr 1;omega
  rw[e]
theorem lv:∀(n:Nat)(u:BitVec 64),(bytesLE u n).length=n
 |0,_=>rfl
 |n+1,u=>by unfold bytesLE;rw[ze,lv n]
theorem afj{n:Int}(h:0<=n):(8*n).toNat=8*n.toNat:=m4
section
theorem EY{x a:Int}(h:Hp c w R):Cr 337 #[I x,I a,I b] w c (.bool (decide (a<=x)&&decide (x<=b))) R:=by
 refine R2 func337 O (BR.T5 (λd=>?_) λd=>?_)
 ·refine⟨A8 O ?_,h⟩;grind[]
 ·refine⟨A8 O ?_,h⟩;grind[]
theorem agx{u:BitVec 64}(h:Hp c w R):Cr 335 #[U u] w c (I (zag u)) R:=by exact R2 func335 O (km (Bv.u64 (WR.toI (bf.pv (y:=1#64) O (WR.vp (i64 Zb1) (WR.vp (i64 Zb1) (bf.akG O (adB u) ⟨rfl,h⟩)))))))
theorem agv{n:Int}(h:Hp c w R):Cr 338 #[I n] w c (U (HC n)) R:=by exact R2 func338 O (WR.bO (km (WR.WF O (km (Bv.mk (WR.bO (bf.aeR O O ⟨rfl,h⟩)))))))
theorem Wg{u:BitVec 64}{n:Int}(h:Hp c w R)(j:0<=n∧n<=8):Cs 309 #[U u,I n] w (λe w'=>∃a cap,e= .returned (.slice a (U5 u n.toNat).length cap)∧Hp c w' (so 5 eB a cap (U5 u n.toNat)::R)):=by
 refine R2 func309 O ?_;have f:=afj j.1;refine N1 (EY h) λw h=>BR.not (BR.s9 Zb5 (i5 (km (Bv.u64 (BR.ne (λb=>?_) λb=>?_)))))
 ·have d:U5 u n.toNat=[]:=by
   unfold U5;rw[V0];intro e;rw[f,e]at b;exact b O
  rw[d];replace h:=h.G4 5 eB;exact⟨_,_,rfl,h⟩
 ·have d:U5 u n.toNat=bytesLE u n.toNat:=by
   unfold U5;rw[S1];apply Sh;rw[f]at b
   exact_mod_cast b
  rw[d];replace h:=h.G4 5 eB;refine p5.A6 kn [0,5,16,17] (λm vs w'=>∃(i:Int)(a:Option Addr)(cap:Nat),vs=[U (u>>>(8*i.toNat)),.slice a (bytesLE u i.toNat).length cap,I n,I i]∧(0<=i∧i+m=n)∧Hp c w' (so 5 eB a cap (bytesLE u i.toNat)::R)) n.toNat ⟨0,none,0,rfl,m4,h⟩ ?_;rintro m _ w1 t ⟨i,a,cap,rfl,r,h⟩;have s:=lv i.toNat u;refine BR.T5 (λk=>?_) λk=>?_
  ·have hs:=Wr i.toNat u;have p:(i+1).toNat=i.toNat+1:=m4
   rw[<-p]at hs;have o:u>>>(8*i.toNat)>>>8=u>>>(8*(i+1).toNat):=by rw[<-BitVec.shiftRight_add];congr 1;omega
   refine WR.toB (I2 h O λb1 w h=>A4.Yb (u:=_) (Ca.of (w9:=1) kn O O O O O O) h 1 O O 0 O O O m4 (λ_ _=>rfl) λa1 g w h=>km (Bv.u64 (i5 ?_)));rw[<-hs]at h⊢;refine⟨m-1,m4,i+1,a1,g,?_,⟨m4,m4⟩,h.q 2 [1] O⟩;show[U (u>>>(8*i.toNat)>>>8),Value.slice a1 (bytesLE u (i+1).toNat).length g,I n,I (i+1)]=_;rw[o]
  ·have l:i=n:=m4
   subst l;exact⟨_,_,rfl,h⟩
end
theorem NU{P:Prop}(h:P:=by
 rintro _ w (⟨rfl,h⟩|⟨rfl,h⟩)
 ·refine⟨_,rfl,?_⟩;rw[<-hx]at h;refine m5 (i5 ⟨(m-1),?_,_,_,rfl,?_,h⟩)
  ·omega
  ·omega
 ·exact⟨_,rfl,BR.not (m5 ⟨⟨_,rfl⟩,.inr h⟩)⟩):P:=h
theorem MU{P:Prop}(h:P:=by
 have e1:k=xs.length:=m4
 subst e1;exact⟨⟨_,rfl⟩,.inl ⟨_,rfl,h⟩⟩):P:=h
def B9{α:Type}(d:α)(xs:List α):Nat->List (Int×α)
 |0=>[]
 |k+1=>B9 d xs k++[(((xs.length-1-k:Nat):Int),xs.getD (xs.length-1-k) d)]
theorem vq(d:α)(xs:List α){k:Nat}{i:Int}(a:i=xs.length-1-k)(h0:0<=i):B9 d xs (k+1)=B9 d xs k++[(i,xs.getD i.toNat d)]:=by grind[B9]
theorem Qt{α:Type}(d:α)(xs:List α):∀k,(B9 d xs k).length=k
 |0=>rfl
 |k+1=>by rw[B9,j7,Qt d xs k];rfl
section
theorem aiS{xs:List Int}{b:Nat}(hs:Sx O5 c a xs.length cap xs)(o:xs.length<=1000000000)(e:List (Int×Int)->HP):
 Nv prog 353 [Pt b] (λ(x:Int×Int)=>[I x.1,I x.2]) c (λl=>l=B9 0 xs xs.length) (λl=>∃k,k<xs.length∧l=B9 0 xs (k+1)) e (bk b [.slice a xs.length cap] 32::R) (bk b [.slice a xs.length cap] 32::R):=by
 intro l X r W f h;refine R2 func353 O (U0 h 2 O O (i5 (p5.A6 kn [0,1,3] (λm vs w'=>∃(i:Int)(k:Nat),vs=[.func (.yield l) #[] #[],Pt b,I i]∧(i=xs.length-1-k∧k+m=xs.length)∧Hp c w' (e (B9 0 xs k)::X::bk b [.slice a xs.length cap] 32::R)) xs.length ⟨xs.length-1,0,rfl,m4,h⟩ ?_)));rintro m _ w1 p ⟨i,k,rfl,g,h⟩;refine BR.T5 (λj=>?_) λj=>?_
 ·have hx:=vq 0 xs g.1 m4;refine U0 h 2 O O (Lz hs λb2 n q=>LD.rM h hs Zb9 (K5 (d:=0) m4) O (qV.at (f (B9 0 xs k) (i,xs.getD i.toNat 0) _ _ ⟨k,m4,hx.symm⟩ h) ?_));exact NU
 ·exact MU
theorem aiQ{xs:List B}{b:Nat}(hs:Sx eB c a xs.length cap xs)(o:xs.length<=1000000000)(e:List (Int×B)->HP):
 Nv prog 362 [Pt b] (λ(x:Int×B)=>[I x.1,B8 x.2]) c (λl=>l=B9 (0#8) xs xs.length) (λl=>∃k,k<xs.length∧l=B9 (0#8) xs (k+1)) e (bk b [.slice a xs.length cap] 211::R) (bk b [.slice a xs.length cap] 211::R):=by
 intro l X r W f h;refine R2 func362 O (U0 h 2 O O (i5 (p5.A6 kn [0,1,3] (λm vs w'=>∃(i:Int)(k:Nat),vs=[.func (.yield l) #[] #[],Pt b,I i]∧(i=xs.length-1-k∧k+m=xs.length)∧Hp c w' (e (B9 (0#8) xs k)::X::bk b [.slice a xs.length cap] 211::R)) xs.length ⟨xs.length-1,0,rfl,m4,h⟩ ?_)));rintro m _ w1 p ⟨i,k,rfl,g,h⟩;refine BR.T5 (λj=>?_) λj=>?_
 ·have hx:=vq (0#8) xs g.1 m4;refine U0 h 2 O O (Lz hs λb2 n q=>LD.rM h hs Zb9 (K5 (d:=(0#8)) m4) O (qV.at (f (B9 (0#8) xs k) (i,xs.getD i.toNat (0#8)) _ _ ⟨k,m4,hx.symm⟩ h) ?_));exact NU
 ·exact MU
theorem aiR{xs:List E2}{b:Nat}(hs:Sx F2 c a xs.length cap xs)(o:xs.length<=1000000000)(e:List (Int×E2)->HP):
 Nv prog 360 [Pt b] (λ(x:Int×E2)=>[I x.1,x.2.v]) c (λl=>l=B9 Ef xs xs.length) (λl=>∃k,k<xs.length∧l=B9 Ef xs (k+1)) e (bk b [.slice a xs.length cap] 71::R) (bk b [.slice a xs.length cap] 71::R):=by
 intro l X r W f h;refine R2 func360 O (U0 h 2 O O (i5 (p5.A6 kn [0,1,3] (λm vs w'=>∃(i:Int)(k:Nat),vs=[.func (.yield l) #[] #[],Pt b,I i]∧(i=xs.length-1-k∧k+m=xs.length)∧Hp c w' (e (B9 Ef xs k)::X::bk b [.slice a xs.length cap] 71::R)) xs.length ⟨xs.length-1,0,rfl,m4,h⟩ ?_)));rintro m _ w1 p ⟨i,k,rfl,g,h⟩;refine BR.T5 (λj=>?_) λj=>?_
 ·have hx:=vq Ef xs g.1 m4;refine U0 h 2 O O (Lz hs λb2 n q=>Oa.ro h hs Zb9 (K5 (d:=Ef) m4) (qV.at (f (B9 Ef xs k) (i,xs.getD i.toNat Ef) _ _ ⟨k,m4,hx.symm⟩ h) ?_));exact NU
 ·exact MU
end
theorem Mo{α:Type}(d:α)(xs:List α):∀k,k<=xs.length->(B9 d xs k).map (·.2)=(xs.drop (xs.length-k)).reverse
 |0,_=>by simp[B9]
 |k+1,h=>by
  have a:xs.length-1-k<xs.length:=m4
  have e:xs.length-k=xs.length-1-k+1:=m4
  rw[B9,ic,Mo d xs k m4,show xs.length-(k+1)=xs.length-1-k by omega,IN a,List.reverse_cons,e];simp[a]
theorem Mz.one{T:Wm}{a:List ResultVar}{R:Ending->World->Prop}{D i:Nat}{e:td}{L L':List HP}(h:Hp c w L)(b:i3 L i=some (pt D (.deferred (some []))))(d:G7 L i (pt D (.deferred none))=some L')
 (k:∀w',Hp c w' L'->xw T (λx=>x=w') e a λvs=>R (.returned (vm vs)) w'):Mz T a R [D] e w:=
 ⟨⟨h.t8 b,trivial⟩,k _ (h.kG b (jj (o:= .deferred none)) d)⟩
theorem Mz.zero{T:Wm}{a:List ResultVar}{R:Ending->World->Prop}{e:td}(k:xw T (λx=>x=w) e a λvs=>R (.returned (vm vs)) w):Mz T a R [] e w:=
 ⟨trivial,k⟩
section
theorem agw(h:Hp c w R):Cs 336 #[.slice a n cap] w (λe w'=>∃b,e= .returned (.func (.func 353) #[] #[Pt b])∧Hp c w' (bk b [.slice a n cap] 32::R)):=by exact R2 func336 O (I2 h O λb1 w h=>⟨_,rfl,h⟩)
theorem ago(h:Hp c w R):Cs 352 #[.slice a n cap] w (λe w'=>∃b,e= .returned (.func (.func 362) #[] #[Pt b])∧Hp c w' (bk b [.slice a n cap] 211::R)):=by exact R2 func352 O (I2 h O λb1 w h=>⟨_,rfl,h⟩)
theorem agp(h:Hp c w R):Cs 349 #[.slice a n cap] w (λe w'=>∃b,e= .returned (.func (.func 360) #[] #[Pt b])∧Hp c w' (bk b [.slice a n cap] 71::R)):=by exact R2 func349 O (I2 h O λb1 w h=>⟨_,rfl,h⟩)
def Dr(l:List (Int×B)):BitVec 64:=l.foldl (λu x=>(u<<<8)|||x.2.setWidth 64) 0#64
theorem oP(xs:List B):Dr (B9 0#8 xs xs.length)=an xs:=by
 have h:=Mo 0#8 xs xs.length (V7 _);have e:∀l:List (Int×B),Dr l=(l.map (·.2)).foldl (λ(u:BitVec 64)(x:B)=>(u<<<8)|||x.setWidth 64) 0#64:=by intro l;unfold Dr;rw[List.foldl_map]
 rw[e,h,cu,qz,List.foldl_reverse];induction xs with
 |nil=>rfl
 |cons x l a=>simp_all[an,Mo]
theorem GY{xs:List B}(hs:Sx eB w a n cap xs)(e:xs.length<=8):Cs 332 #[.slice a n cap] w (Zb w (.tuple #[U (an xs),.bool true]) []):=by
 obtain rfl:=hs.len;have h:=Hp.start w;refine Fa kn func332 O O (Te (I2 h O λb1 w h=>He (ago h) λb2 w h=>RF.Zi kn O O (λ(x:Int×B)=>[I x.1,B8 x.2]) (λ_=>rfl) O O O (λl=>l=B9 0#8 xs xs.length) (λl=>∃k,k<xs.length∧l=B9 0#8 xs (k+1)) (λl=>bk b1 [U (Dr l)] 126) (λ_=>d6 False) (h.g [1] O) (aiQ hs m4 _) ?_ ?_ ?_))
 ·rintro pre ⟨i,x⟩ W M ⟨k,d,c⟩ h;refine⟨[bk b1 [U (Dr pre)] 126],h,λW M h=>?_⟩;have b:Dr (pre++[(i,x)])=(Dr pre<<<8)|||x.setWidth 64:=by unfold Dr;rw[Qh];rfl
  refine U0 h 0 O O (km (WR.WF O (WR.ofB (bf.JO O (J3 h 0 O O O λw h=>?_)))));show Hp _ _ (bk b1 [U (Dr (pre++[(i,x)]))] 126::M);rw[b];exact h
 ·rintro D l W rfl h;refine U0 h 0 O O ?_;rw[oP];exact Mz.one h (i:=1) O O λw h=>⟨rfl,h.q 3 [] O⟩
 ·rintro D j W h;exact h.uf.1.elim
end
end Go.Proofs.YtaaihojmcfaejaaGreatDoor
