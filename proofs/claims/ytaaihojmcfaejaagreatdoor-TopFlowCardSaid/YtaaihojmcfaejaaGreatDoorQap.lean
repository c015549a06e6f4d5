/- Lemmas for the tops: the walk of the house and its laws. No condition is added. -/
import Derived.Test.YtaaihojmcfaejaaGreatDoorQan
import Derived.Test.YtaaihojmcfaejaaGreatDoorQao
import Derived.Test.YtaaihojmcfaejaaGreatDoorQah
import Derived.Test.YtaaihojmcfaejaaGreatDoorQaf
import Derived.Test.YtaaihojmcfaejaaGreatDoorQak
import Derived.Test.YtaaihojmcfaejaaGreatDoorQal
import Derived.Test.YtaaihojmcfaejaaGreatDoorQae
set_option linter.all false
namespace Go.Proofs.YtaaihojmcfaejaaGreatDoor
open Go Go.RowKit Tryz
variable{v:Ba}{u:BitVec 64}{k s:Int}{xs:List B}{R:List HP}{E4 N b cap gf i m n:Nat}{a a2:Option Addr}{α:Type}{c w:World}{E:Qb α}
theorem Ht:∀xs:List Int,O5.P3 xs=xs.map I
 |[]=>rfl
 |x::xs=>by rw[Qb.Dc,Ht xs];rfl
theorem mS(pre l:List Value)(a:List Int)(post:List Value)(b:a.length=l.length):Go.Sort.putCells (Value.int .i64) pre.length a.toArray (pre++l++post).toArray=(pre++a.map I++post).toArray:=by have:=xM pre l (a.map I) post Zb6;rw[<-this];unfold Go.Sort.putCells<;>grind
theorem oG{l m:List α}(h:l.Perm m)(c:∀a∈l,∀b∈l,a=b):l=m:=by
 cases l with
 |nil=>simp_all
 |cons a l=>have e:a::l=List.replicate (l.length+1) a:=List.eq_replicate_iff.mpr ⟨Zb3,λb d=>(c a (Ka ..) b d).symm⟩;simp_all
theorem FJ{xs ys:List Int}(h:xs.Perm ys):F7 (id:Int->Int) xs ys:=by intro z;refine oG (h.filter _) λa d b c=>?_;simp_all
theorem Zp(xs:List Int):(xs.mergeSort λx y=>decide (x<=y))=J7 Pe xs:=by
 have d:∀a b:Int,Pe a b=true↔(id a:Int)<=id b:=λa b=>by unfold Pe;simp
 refine cD (r:=id) d (FJ (pV xs _).symm) ?_;have:=KE (le:=λ(x y:Int)=>decide (x<=y)) (λa b c f e=>by
  grind) (λa b=>by
  grind) xs
 refine Cq (λ{a b}h=>?_) this;simpa using h
section
theorem lZ{xs:List Int}(q:n=xs.length)(h:Hp c w (so 3 O5 a cap xs::R))(v:xs.length<=1000000000):Cr 158 #[.slice a n cap] w c (.tuple #[]) (so 3 O5 a cap (J7 Pe xs)::R):=by
 subst q;by_cases d:xs=[]
 ·subst d;refine(Any.slices_Sort_int_none Tryz.aoI a cap w).mono ?_;rintro e w' ⟨rfl,rfl⟩;exact⟨rfl,h⟩
 ·obtain⟨b,o,pre,post,rfl,rfl,f⟩:=h.El (i:=0) rfl d;have m:=f.t8;have x:=Ht xs;have r:Go.Sort.Holds (Value.int .i64) w b pre.length xs.toArray:=by
   intro j g;have y:j<xs.length:=by simpa using g
   have p:xs.toArray[j]! =xs[j]:=by rw[getElem!_pos _ j g];simp
   rw[p];refine⟨?_,?_⟩
   ·simp_all[World.cell?,List.getElem?_append_right,List.getElem?_append_left]
   ·simp_all[World.frozen?]
  refine(Any.slices_Sort_int Tryz.aoI b pre.length cap xs w r f.lt m4).mono ?_;rintro e w' ⟨rfl,n,t,rfl⟩;refine⟨rfl,?_⟩;rw[Zp];have l:(J7 Pe xs).length=xs.length:=(H5 xs).length_eq;generalize J7 Pe xs=s at l⊢;refine nS h d f l (λk u=>?_) ?_ O O O (by show w.drawn<=w.drawn+n;omega)
  ·unfold Go.Sort.grow Go.Sort.putRow Go.Sort.mapBlock Go.Sort.ahead;simp only;rw[tL Zb1,nL];by_cases hkb:b=k
   ·subst hkb;rw[S1 O,S1 O,m];grind[Go.Sort.onCells,mS,Ht]
   grind
  simp
end
theorem aaX{P:Prop}(h:P:=by
 rintro n _ w1 e0 ⟨done,left,rfl,⟨hn,hp⟩,h⟩;refine A4.mG h O (λe h0=>?_) λl1 e l2 p s w' el hs h=>?_
 ·subst e;rw[Jb]at hp;exact m5 ⟨⟨_,rfl⟩,.inl ⟨_,hp,h0.g [1,2,3] O⟩⟩
 ·have r7:(done++[e]).length<=B0.length:=by
   have:=hp.length_eq;rw[el]at this;simp at this⊢;omega
  have kh:((done++[e])++(l1++l2)).Perm (B0.map (·.1)):=by refine List.Perm.trans ?_ hp;rw[el,N',jz];exact wC _ List.perm_middle.symm
  have Rx:(l1++l2).length=n-1∧n-1<n:=by rw[el]at hn;simp at hn⊢;omega
  refine Q5 (A4.Zw (h.g [1] O) O (qV.at (hy done e _ _ r7 (h.g [2,3] O)) ?_));rintro _ w (⟨rfl,h⟩|⟨rfl,h⟩)
  ·refine⟨_,rfl,?_⟩;have h:=(h.g [2,3] O).Wp;rw[E' hs]at h;exact m5 ⟨n-1,Rx.2,_,_,rfl,⟨Rx.1,kh⟩,h⟩
  ·refine⟨_,rfl,?_⟩;have h:=(h.g [1,2] O).Wp;rw[E' hs]at h;exact Q5 ⟨⟨_,rfl⟩,.inr (h.xx.g [1,2] O)⟩):P:=h
section
theorem afR(h:Hp c w R):Cs 424 #[.map (some m)] w (λe w'=>∃b,e= .returned (.func (.func 441) #[] #[Pt b])∧Hp c w' (bk b [.map (some m)] 160::R)):=by exact R2 func424 O (I2 h O λb1 w h=>⟨_,rfl,h⟩)
theorem aiT{B0:List (Int×ib)}(d:List Int->HP):
 Nv prog 159 [Pt b] (λ(n:Int)=>[I n]) c (λl=>l.Perm (B0.map (·.1))) (λl=>l.length<=B0.length) d (bk b [.map (some m)] 247::mr I Hc m B0::R) (bk b [.map (some m)] 247::mr I Hc m B0::R):=by
 intro l X i W hy h;refine R2 func159 O (U0 h 2 O O (A4.dt (by exact Vi O O) (h.g [3] O) O λa w f h=>p5.A6 kn [0,1,5] (λn vs w'=>∃(done left:List Int),vs=[.func (.yield l) #[] #[],Pt b,Pt a]∧(left.length=n∧(done++left).Perm (B0.map (·.1)))∧Hp c w' (PO I Hc m a B0 left::d done::X::bk b [.map (some m)] 247::R)) (B0.map (·.1)).length ⟨[],_,rfl,⟨rfl,tj _⟩,h⟩ ?_));exact aaX
theorem aif(h:Hp c w R):Cs 110 #[.map (some m)] w (λe w'=>∃b,e= .returned (.func (.func 159) #[] #[Pt b])∧Hp c w' (bk b [.map (some m)] 247::R)):=by exact R2 func110 O (I2 h O λb1 w h=>⟨_,rfl,h⟩)
theorem aiO{B0:List (Int×T4)}(d:List Int->HP):
 Nv prog 469 [Pt b] (λ(n:Int)=>[I n]) c (λl=>l.Perm (B0.map (·.1))) (λl=>l.length<=B0.length) d (bk b [.map (some m)] 319::mr I M5 m B0::R) (bk b [.map (some m)] 319::mr I M5 m B0::R):=by
 intro l X i W hy h;refine R2 func469 O (U0 h 2 O O (A4.dt (by exact Vi O O) (h.g [3] O) O λa w f h=>p5.A6 kn [0,1,5] (λn vs w'=>∃(done left:List Int),vs=[.func (.yield l) #[] #[],Pt b,Pt a]∧(left.length=n∧(done++left).Perm (B0.map (·.1)))∧Hp c w' (PO I M5 m a B0 left::d done::X::bk b [.map (some m)] 319::R)) (B0.map (·.1)).length ⟨[],_,rfl,⟨rfl,tj _⟩,h⟩ ?_));exact aaX
theorem afv(h:Hp c w R):Cs 460 #[.map (some m)] w (λe w'=>∃b,e= .returned (.func (.func 469) #[] #[Pt b])∧Hp c w' (bk b [.map (some m)] 319::R)):=by exact R2 func460 O (I2 h O λb1 w h=>⟨_,rfl,h⟩)
theorem ahm{ks:List Int}(k:Ck gf=true)(hit:∀m:List Int->HP,Nv prog gf [Pt b] (λ(n:Int)=>[I n]) c (λl=>l.Perm ks) (λl=>l.length<=N) m R R)(o:N<=1000000000)(h:Hp c w R):Cs 207 #[.slice none 0 0,.func (.func gf) #[] #[Pt b]] w (λe w'=>∃a cap l,e= .returned (.slice a l.length cap)∧l.Perm ks∧Hp c w' (so 3 O5 a cap l::R)):=by
 refine Fa kn func207 O O (I2 h O λb1 w h=>RF.Zi kn O k (λ(n:Int)=>[I n]) (λ_=>rfl) O O O (λl=>l.Perm ks) (λl=>l.length<=N) (λl=>sf λ(g:Option Addr×Nat)=>C5 [bk b1 [.slice g.1 l.length g.2] 32,so 3 O5 g.1 g.2 l]) (λ_=>d6 False) ?_ (hit _) ?_ ?_ ?_)
 ·exact Hp.R8 (none,0) (Hp.C3 (A:=[bk b1 [.slice none (([]:List Int).length) 0] 32,so 3 O5 none 0 []]) ((h.G4 3 O5).g [1] O))
 ·rintro pre x W M d h;refine K9 h.ex (λq h=>?_);have h:=h.R6;have hlp:pre.length+1<=N:=by simpa using d
  refine⟨[bk b1 [.slice q.1 pre.length q.2] 32,so 3 O5 q.1 q.2 pre],h,λW M h=>?_⟩;exact U0 h 0 O O (I2 h O λb2 w h=>A4.Yb (u:=_) (Ca.of (w9:=8) kn O O O O O O) h 2 O O 0 O O O m4 (λ_ _=>rfl) λa1 f w h=>J3 h 1 O O O λw h=>Hp.R8 (a1,f) (Hp.C3 (A:=[bk b1 [.slice a1 ((pre++[x]).length) f] 32,so 3 O5 a1 f (pre++[x])]) (h.q 3 [1,2] O)))
 ·rintro D l W d h;refine K9 h.ex (λq h=>?_);have h:=h.R6;exact U0 h 0 O O (Mz.one h (i:=2) O O λw h=>⟨_,_,_,rfl,d,h.q 3 [1] O⟩)
 ·rintro D j W h;exact h.uf.1.elim
theorem ahE{ks:List Int}(g:Ck gf=true)(hit:∀j:List Int->HP,Nv prog gf [Pt b] (λ(n:Int)=>[I n]) c (λl=>l.Perm ks) (λl=>l.length<=N) j R R)(f:N<=1000000000)(h:Hp c w R):Cs 157 #[.func (.func gf) #[] #[Pt b]] w (λe w'=>∃a cap l,e= .returned (.slice a l.length cap)∧l.Perm ks∧Hp c w' (so 3 O5 a cap l::R)):=by refine R2 func157 O (xb (ahm g hit f h) ?_);rintro _ w ⟨a1,i,l,rfl,d,h⟩;exact⟨a1,i,l,rfl,d,h⟩
theorem NA{xs ys:List Int}(h:xs.Perm ys):J7 Pe xs=J7 Pe ys:=by
 have f:∀a b:Int,Pe a b=true↔(id a:Int)<=id b:=λa b=>by unfold Pe;simp
 rw[<-Zp,<-Zp];refine List.Perm.eq_of_pairwise (le:=λx y=>decide (x<=y)=true) ?_ ?_ ?_ ?_
 ·grind
 ·exact KE (λa b c e d=>Zb1) (λa b=>Zb1) xs
 ·exact KE (λa b c e d=>Zb1) (λa b=>Zb1) ys
 grind[List.mergeSort_perm]
theorem JR{ks:List Int}(g:Ck gf=true)(hit:∀i:List Int->HP,Nv prog gf [Pt b] (λ(n:Int)=>[I n]) c (λl=>l.Perm ks) (λl=>l.length<=N) i R R)(j:ks.length<=N)(f:N<=1000000000)(h:Hp c w R):Cs 109 #[.func (.func gf) #[] #[Pt b]] w (λe w'=>∃a cap,e= .returned (.slice a (J7 Pe ks).length cap)∧Hp c w' (so 3 O5 a cap (J7 Pe ks)::R)):=by
 refine R2 func109 O (xb (ahE g hit f h) ?_);rintro _ w ⟨a1,k,l,rfl,d,h⟩;have hll:l.length=(J7 Pe ks).length:=by rw[(H5 (le:=Pe) ks).length_eq];exact d.length_eq
 refine N1 (lZ O h (by rw[d.length_eq];omega)) λw h=>?_;rw[NA d]at h;rw[hll];exact⟨_,_,rfl,h⟩
end
theorem ach{P Q:Prop}(q:Q)(f:Q->P:=by intro q;exact R2 func297 O (i5 (ja.D0 kn o8 (λ_=>True) (qs [0,1,2,3,4,5,6,7,8] (vs [9] (qs [10,11] .done))) Zb2 trivial q))):P:=f q
theorem acg{P Q:Prop}(q:Q)(f:Q->P:=by intro q;exact Te (RD.Vh (m:=xs.length-3) kn O O O (Uy m4) m4 (RD.cut (l:=xs.length-3) kn O O (Uy m4) O m4 (N1 (agA (jh.up h) (Ls.up h) Kz) λw h'=>q w h')))):P:=f q
theorem aaG{P:Prop}(h:P:=by
 refine i5 ⟨(m2-1),?_,_,vs5 (V4 I ?_) O O O O,?_,h⟩
 ·omega
 ·omega
 ·omega):P:=h
theorem bf.of{op:BinOp}{k:IntKind}{a b z:Int}{K:Value->Prop}(h:dg op k a b=z)(c:K (.int k z)):bf op k a b K:=⟨Zb1⟩
theorem fJ(h:i<xs.length):xs.take (i+1)=xs.take i++[xs.getD i 0#8]:=Zb6
theorem WR.aik{z m:Int}{K:Value->Prop}(e:2^(min n IntKind.i64.bits)=m)(h: -9223372036854775808<=z*m∧z*m<=9223372036854775807)(k:K (I (z*m))):WR .i64 (z*2^(min n IntKind.i64.bits)) K:=by simp_all[WR.vp,i64]
theorem eU(a b:Nat)(d:a<2^62)(c:b<2^62):dg .xor .i64 (a:Int) (b:Int)=((a^^^b:Nat):Int):=by show IntKind.i64.wrap (((BitVec.ofInt 64 (a:Int)^^^BitVec.ofInt 64 (b:Int)).toNat:Nat):Int)=_;rw[rt,rt,BitVec.toNat_xor,vE,vE,Sk m4,Sk m4];have:=gL d c;grind[Ug]
def mu(s:Int):Prop:=0<=s∧s<=16777215
theorem BP(h:mu s):mu (Jt s):=by
 obtain⟨h0,k⟩:=h;unfold Jt;split
 ·rename_i j;obtain⟨n,rfl⟩:∃n:Nat,s=n:=⟨s.toNat,m4⟩;have e:(n:Int)*2=((2*n:Nat):Int):=m4
  rw[e,show(25578747:Int)=((25578747:Nat):Int)from rfl,eU _ _ m4 m4];obtain⟨y,c,f⟩:∃y,2*n=2^24+y∧y<2^24:=⟨2*n-2^24,m4,m4⟩;have d:(2^24+y)^^^25578747=y^^^8801531:=by
   rw[show(25578747:Nat)=2^24+8801531 from rfl];apply Nat.eq_of_testBit_eq;intro i;rw[Nat.testBit_xor,Nat.testBit_xor];by_cases a:i<24
   ·rw[iV a,iV a]
   ·by_cases l:i=24
    ·grind
    ·have g:∀z,z<2^24->(2^24+z).testBit i=false∧z.testBit i=false:=λz b=>
      ⟨sL (iz (show 2^24+z<2^25 by omega) (Fs m4 m4)),sL (iz b (Fs m4 m4))⟩
     grind
  rw[c,d];have:=gL f (show 8801531<2^24 by omega);unfold mu;omega
 ·unfold mu;omega
theorem ZD:∀(n:Nat){s:Int},mu s->mu (Jy n s)
 |0,_,h=>h
 |n+1,_,h=>ZD n (BP h)
theorem WB:∀(n:Nat)(s:Int),Jy (n+1) s=Jt (Jy n s)
 |0,_=>rfl
 |n+1,s=>by rw[Jy,WB n,Jy]
theorem aeS(n k:Nat)(a:n<16777216)(b:k<16777216):mu (dg .xor .i64 (n:Int) (k:Int)):=by rw[eU n k (Nat.lt_trans a Zb4) (Nat.lt_trans b Zb4)];have h:=gL (n:=24) a b;exact⟨m4,m4⟩
theorem fN{b:B}(h:mu s):mu (dg .xor .i64 s (b.toNat*65536)):=by have c:=b.isLt;have a:=aeS s.toNat (b.toNat*65536) (by have:=h.1;have:=h.2;omega) m4;rw[Int.toNat_of_nonneg h.1,uz]at a;exact a
theorem Ky:∀(l:List B){s:Int},mu s->mu (Eo s l)
 |[],_,h=>h
 |b::l,s,h=>by unfold Eo;rw[Ti];have a:=ZD 8 (fN (b:=b) h);generalize Jy 8 (dg .xor .i64 s (b.toNat*65536))=z at a⊢;exact Ky l a
theorem bE(l:List B)(b:B)(s:Int):Eo s (l++[b])=Jy 8 (dg .xor .i64 (Eo s l) (b.toNat*65536)):=by unfold Eo<;>grind
section
theorem Sx.take{xs:List α}(hs:Sx E c a n cap xs)(d:m<=n):Sx E c a m cap (xs.take m):=by
 have h:=hs.cut (l:=0) (m:=m) ⟨ye _,d⟩;have e:(if cap=0 then a else a.map (·.add (0*E.sz)))=a:=by
  rcases hs.sl.A6 with⟨rfl,_,_,_⟩|⟨b,o,rfl,_,_⟩
  ·simp
  ·simp[i9]
 simp_all
theorem Sx.drop{l:Nat}{xs:List α}(hs:Sx E c a n cap xs)(b:l<=n):Sx E c (if cap=l then a else a.map (·.add (l*E.sz))) (n-l) (cap-l) (xs.drop l):=by have h:=hs.cut (l:=l) (m:=n) ⟨b,V7 _⟩;rw[sd (by rw[hs.len];omega)]at h;exact h
theorem agj(hs:Sx eB w a n cap xs)(y:xs.length<=1000000000):Cs 361 #[I 11994318,.slice a n cap] w (Zb w (I (Td xs)) []):=by
 obtain rfl:=hs.len;have h:=Hp.start w;refine R2 func361 O (bf.of (z:=11994318) Zb4 (p5.A6 kn [5,10,11,12] (λm vs w'=>∃(i:Int),vs=[I (Td (xs.take i.toNat)),.slice a xs.length cap,I xs.length,I i]∧(0<=i∧i+m=xs.length)∧Hp w w' []) xs.length ⟨0,rfl,m4,h⟩ ?_));rintro m _ w1 D ⟨i,rfl,x,h⟩;have s:mu (Td (xs.take i.toNat)):=Ky _ ⟨Zb4,Zb4⟩;refine BR.T5 (λo=>?_) λo=>?_
 ·have f:=fJ (xs:=xs) (i:=i.toNat) m4;have c:(i+1).toNat=i.toNat+1:=m4
  rw[<-c]at f;have e:=bE (xs.take i.toNat) (xs.getD i.toNat 0#8) 11994318;rw[<-f]at e;have A:=(xs.getD i.toNat 0#8).isLt;have t:=fN (b:=xs.getD i.toNat 0#8) s;refine Lz hs λb1 v E=>LD.rM h hs Zb9 (K5 (d:=0#8) m4) O (i5 (km (WR.aik (m:=65536) O m4 (bf.mk (p5.A6 kn [5,10,11,12,21] (λm vs w'=>∃(j:Int),vs=[I (Jy j.toNat (dg .xor .i64 (Td (xs.take i.toNat)) ((xs.getD i.toNat 0#8).toNat*65536))),.slice a xs.length cap,I xs.length,I i,I j]∧(0<=j∧j+m=8)∧Hp w w' []) 8 ⟨0,rfl,m4,h⟩ ?_)))));rintro m2 _ u C ⟨j,rfl,F,h⟩;have g:=ZD j.toNat t;have hjs:=WB j.toNat (dg .xor .i64 (Td (xs.take i.toNat)) ((xs.getD i.toNat 0#8).toNat*65536));have q:(j+1).toNat=j.toNat+1:=m4
  rw[<-q]at hjs;unfold mu at g;refine BR.T5 (λl=>?_) λl=>?_
  ·refine km (WR.aik (m:=2) O m4 (BR.T5 (λk=>?_) λk=>?_))
   ·refine bf.mk ?_;unfold Jt at hjs;rw[S1 m4]at hjs;exact aaG
   ·unfold Jt at hjs;rw[V0 m4]at hjs;exact aaG
  ·have p:j=8:=m4
   subst p;have r:Jy (8:Int).toNat (dg .xor .i64 (Td (xs.take i.toNat)) ((xs.getD i.toNat 0#8).toNat*65536))=Td (xs.take (i+1).toNat):=e.symm;rw[r];refine i5 ⟨(m-1),?_,_,rfl,?_,h⟩
   ·omega
   ·omega
 ·have c:xs.take i.toNat=xs:=sd m4;rw[c];exact⟨rfl,h⟩
theorem CY(hs:Sx eB w a n cap xs)(b:xs.length<=1000000000):Cs 351 #[.slice a n cap] w (Zb w (I (Td xs)) []):=by obtain rfl:=hs.len;have h:=Hp.start w;exact R2 func351 O (N1 (agj (hs.up h) Zb9) λw h=>⟨rfl,h⟩)
theorem DY(h:Hp c w R):Cs 350 #[I s] w (λe w'=>∃a,e= .returned (.slice a 3 3)∧Hp c w' (so 5 eB a 3 (Mf s)::R)):=by refine R2 func350 O (km (Bv.mk (WR.bT (km (Bv.mk (WR.bT (WR.bT (I2 h O λb1 w h=>?_))))))));replace h:=Hp.vg (E:=eB) (Mf s) h O (by show 3<=_;decide);exact⟨_,rfl,h⟩
theorem agA{ys:List B}(hs:Sx eB w a n cap xs)(c:Sx eB w a2 m E4 ys)(d:xs.length<=1000000000):Cs 330 #[.slice a n cap,.slice a2 m E4] w (Zb w (.bool (decide (Mf (Td xs)=ys))) []):=by have h:=Hp.start w;refine R2 func330 O (N1 (CY (hs.up h) Zb9) λw b=>?_);replace h:=h.H6 b;refine He (DY h) λa1 w h=>N1 (RY (xs:=Mf (Td xs)) (h.Z4 0 O) (c.up h)) λw b=>?_;replace h:=h.H6 b;exact⟨rfl,h.q 1 [] O⟩
theorem Uy{i:Int}{d:Nat}(h:i=m):fF (some (I i)) d=some (m:Int):=by rw[h];rfl
theorem LA(hs:Sx eB w a n cap xs)(k:xs.length<=1000000000):Cs 297 #[.slice a n cap] w (λe w'=>∃g i,e= .returned (.tuple #[.slice g ((Vc xs).getD []).length i,.bool (Vc xs).isSome])∧Hp w w' [so 5 eB g i ((Vc xs).getD [])]):=by
 obtain rfl:=hs.len;have h:=Hp.start w;have j:=hs.cap;by_cases d:xs.length<3
 ·have b:Vc xs=none:=by unfold Vc;rw[S1 d]
  rw[b];refine R2 func297 O ?_;replace h:=h.G4 5 eB;refine i5 (ja.D0 kn o8 (λ_=>True) (qs [0,1,2,3,4,5,6,7,8] (vs [9] (qs [10,11] .done))) Zb2 trivial ?_);replace h:=h.drew;exact Zt (Q5 ⟨_,_,rfl,h⟩)
 ·have jh:=hs.take (m:=xs.length-3) m4;have Ls:=hs.drop (l:=xs.length-3) m4;have b:Vc xs=if Mf (Td (xs.take (xs.length-3)))=xs.drop (xs.length-3)then some (xs.take (xs.length-3))else none:=by unfold Vc;rw[V0 d]
  have Kz:(xs.take (xs.length-3)).length<=1000000000:=by rw[jh.len];omega
  by_cases c:Mf (Td (xs.take (xs.length-3)))=xs.drop (xs.length-3)
  ·rw[S1 c]at b;rw[b];refine ach ?_;replace h:=h.drew;refine acg λw h'=>?_;replace h:=h.H6 h';refine BR.not (BR.Mv c (RD.Vh (m:=xs.length-3) kn O O O (Uy m4) m4 (ga (agz (jh.up h) Kz) λa1 o w h'=>?_)));replace h:=h.H6 h';exact⟨_,_,rfl,h⟩
  ·rw[V0 c]at b;rw[b];refine ach ?_;replace h:=h.drew;refine acg λw h'=>?_;replace h:=h.H6 h';refine BR.not (BR.YD c ?_);replace h:=h.G4 5 eB;exact⟨_,_,rfl,h⟩
theorem afH(hs:Sx eB w a xs.length cap xs)(f:xs.length<=1000):Cs 444 #[.slice a xs.length cap] w (λe w'=>∃b c,e= .returned (.slice b (Rf xs).length c)∧Hp w w' [so 5 eB b c (Rf xs)]):=by
 have h:=Hp.start w;refine R2 func444 O (N1 (CY (hs.up h) m4) λw h=>He (DY h) λa1 w h=>I2 h O λb1 w h=>?_);have d:Sy [⟨a,cap,xs⟩,⟨a1,3,Mf (Td xs)⟩]=Rf xs:=by simp[Sy,Rf]
 refine xb (HY (l:=[⟨a,cap,xs⟩,⟨a1,3,Mf (Td xs)⟩]) (h.Ib _ 0 O O O) (by intro s Mh;simp at Mh;rcases Mh with rfl|rfl;exact hs.up h;exact h.Z4 1 O) Zb3 (by intro s Mh;simp at Mh;rcases Mh with rfl|rfl;exact f;show 3<=1000;omega)) ?_;rw[d];rintro _ w ⟨a2,E4,rfl,g⟩;replace h:=h.H6 g;exact⟨_,_,rfl,h.q 3 [0] O⟩
end
theorem uC{P Q:Prop}(q:Q)(f:Q->P:=by intro q;exact R2 func107 O (I2 h O λb1 w h=>Y6 h [0,51,2,3,4,55,6,7,8,9,11,60,12,13] λh=>U0 h 0 O O ⟨h,Te (U0 h 0 O O ⟨h,Te (xg 0 O O (xg 0 O O (N1 (ahG h) λw h=>q b1 w h)))⟩)⟩)):P:=f q
theorem aaJ{P:Prop}(h:P:=by exact J3 h 0 O O O λw h=>O4 h 0 O O (J3 h 1 O O O λw h=>O4 h 1 O O ⟨rfl,h.q 3 [] O⟩)):P:=h
theorem Hp.Jm{L:List HP}{l:List Value}{t:TypeId}(h:Hp c w (bk b l t::L)):Hp c w ((sf λl=>bk b l t)::L):=Hp.R8 l h
section
theorem nZ(h:Hp c w R):Cr 153 #[v.v] w c (.bool v.right) R:=by
 refine R2 func153 O (I2 h O λb1 w h=>U0 h 0 O O (BR.O' (λa=>?_) λa=>?_))
 ·refine⟨A8 O ?_,h.q 1 [] O⟩;grind[Ba.right]
 ·refine U0 h 0 O O ⟨A8 O ?_,h.q 1 [] O⟩;grind[Ba.right]
theorem ahG{r:A5}(h:Hp c w R):Cr 152 #[r.v] w c r.E0.v R:=by
 by_cases d:r.W0=1
 ·have a:r.E0=⟨r.W0,r.tx,0#16,r.key,r.old,r.new⟩:=by unfold A5.E0;rw[S1 d]
  rw[a];refine R2 func152 O (I2 h O λb1 w h=>I2 h O λb2 w h=>U0 h 1 O O (I2 h O λb w h=>J3 h 0 O O O λw h=>U0 h 2 O O (mf (ja.D0 kn o8 (λw'=>Hp _ w' ((sf λl=>bk b l 195)::_)) (qs [0,2,4,6,1,8,3,5,7] (ws [9] (qs [10] (ws [11] (qs [12] (ws [13] (qs [14] (vs [15] .done)))))))) Zb2 (Hp.Jm h.drew) ?_))));replace h:=h.drew;refine U3 2 O O (xg 2 O O (xg 2 O O (xg 2 O O (J3 h 0 O O O λw h=>⟨Hp.Jm h,J3 h 0 O O O λw h=>⟨Hp.Jm h,J3 h 0 O O O λw h=>⟨Hp.Jm h,J3 h 0 O O O λw h=>O4 h 0 O O ?_⟩⟩⟩))));exact J3 h 1 O O O λw h=>O4 h 1 O O ⟨rfl,h.q 3 [] O⟩
 by_cases e:r.W0=2
 ·have a:r.E0=⟨r.W0,r.tx,r.J0,Y3,X0,X0⟩:=by unfold A5.E0;rw[V0 d,S1 e]
  rw[a];refine R2 func152 O (I2 h O λb1 w h=>I2 h O λb2 w h=>U0 h 1 O O (I2 h O λb w h=>J3 h 0 O O O λw h=>U0 h 2 O O (Wa (mf (ja.D0 kn o8 (λw'=>Hp _ w' ((sf λl=>bk b l 195)::_)) (qs [0,2,1,4,3] (ws [5] (qs [6] (vs [7] .done)))) Zb2 (Hp.Jm h.drew) ?_)))));replace h:=h.drew;exact U3 2 O O (U3 2 O O (J3 h 0 O O O λw h=>⟨Hp.Jm h,J3 h 0 O O O λw h=>O4 h 0 O O (J3 h 1 O O O λw h=>O4 h 1 O O ⟨rfl,h.q 3 [] O⟩)⟩))
 by_cases f:r.W0=7
 ·have a:r.E0=⟨r.W0,0,0#16,r.key,X0,r.new⟩:=by unfold A5.E0;rw[V0 d,V0 e,S1 f]
  rw[a];refine R2 func152 O (I2 h O λb1 w h=>I2 h O λb2 w h=>U0 h 1 O O (I2 h O λb w h=>J3 h 0 O O O λw h=>U0 h 2 O O (Wa (Wa (mf (ja.D0 kn o8 (λw'=>Hp _ w' ((sf λl=>bk b l 195)::_)) (qs [0,2,1,4,3] (ws [5] (qs [6] (vs [7] .done)))) Zb2 (Hp.Jm h.drew) ?_))))));replace h:=h.drew;exact xg 2 O O (xg 2 O O (J3 h 0 O O O λw h=>⟨Hp.Jm h,J3 h 0 O O O λw h=>O4 h 0 O O (J3 h 1 O O O λw h=>O4 h 1 O O ⟨rfl,h.q 3 [] O⟩)⟩))
 by_cases g:r.W0=8
 ·have a:r.E0=⟨r.W0,0,r.J0,Y3,X0,X0⟩:=by unfold A5.E0;rw[V0 d,V0 e,V0 f,S1 g]
  rw[a];refine R2 func152 O (I2 h O λb1 w h=>I2 h O λb2 w h=>U0 h 1 O O (I2 h O λb w h=>J3 h 0 O O O λw h=>U0 h 2 O O (Wa (Wa (Wa (mf (U0 h 2 O O ?_)))))));exact aaJ
 have a:r.E0=⟨r.W0,r.tx,0#16,Y3,X0,X0⟩:=by unfold A5.E0;rw[V0 d,V0 e,V0 f,V0 g]
 rw[a];refine R2 func152 O (I2 h O λb1 w h=>I2 h O λb2 w h=>U0 h 1 O O (I2 h O λb w h=>J3 h 0 O O O λw h=>U0 h 2 O O (Wa (Wa (Wa (Wa (U0 h 2 O O ?_)))))));exact aaJ
theorem zu(h:Hp c w R):Cr 304 #[I k] w c (.bool (Tf k)) R:=by
 refine R2 func304 O (BR.eq (λa=>?_) λa=>?_)
 ·refine⟨A8 O ?_,h⟩;grind[Tf]
 ·refine⟨A8 O ?_,h⟩;grind[Tf]
theorem KA(h:Hp c w R):Cr 305 #[I k] w c (.bool (Ci k)) R:=by
 refine R2 func305 O (BR.eq (λa=>?_) λa=>?_)
 ·refine⟨A8 O ?_,h⟩;grind[Ci]
 ·refine⟨A8 O ?_,h⟩;grind[Ci]
theorem YL{k:Bool}(h:Hp c w R):Cr 311 #[.bool k] w c (I (Mk k)) R:=by
 refine R2 func311 O (BR.O' (λa=>?_) λa=>?_)
 ·refine⟨Ya O ?_,h⟩;grind[Mk]
 ·refine⟨Ya O ?_,h⟩;grind[Mk]
theorem Bw(h:Hp c w R):Cs 302 #[] w (λe w'=>∃a,e= .returned (.slice a 2 2)∧Hp c w' (so 3 O5 a 2 [3,21]::R)):=by refine R2 func302 O (I2 h O λb1 w h=>?_);replace h:=Hp.vg (E:=O5) [3,21] h O Zb4;exact⟨_,rfl,h⟩
theorem qR(h:Hp c w R):Cs 306 #[] w (λe w'=>∃a,e= .returned (.slice a 4 4)∧Hp c w' (so 3 O5 a 4 [1,1,3,3]::R)):=by refine R2 func306 O (I2 h O λb1 w h=>?_);replace h:=Hp.vg (E:=O5) [1,1,3,3] h O Zb4;exact⟨_,rfl,h⟩
theorem vO{a b:A5}:sg ([a.W0==b.W0]++([a.tx==b.tx]++([(a.J0.toNat:Int)==(b.J0.toNat:Int)]++([(a.key.a.toNat:Int)==(b.key.a.toNat:Int)]++([(a.key.b.toNat:Int)==(b.key.b.toNat:Int)]++([(a.key.x.toNat:Int)==(b.key.x.toNat:Int)]++([(a.key.y.toNat:Int)==(b.key.y.toNat:Int)]++[])))++([a.old.K3==b.old.K3]++([a.old.n==b.old.n]++[])++([a.new.K3==b.new.K3]++([a.new.n==b.new.n]++[])++[]))))))=decide (a=b):=by
 obtain⟨z,i,t,⟨a1,b1,f,d⟩,⟨p,m⟩,⟨r,k⟩⟩:=a;obtain⟨w,g,s,⟨a2,b2,x2,c⟩,⟨o,l⟩,⟨q,j⟩⟩:=b;have e:∀(n:Nat)(u v:BitVec n),((u.toNat:Int)==(v.toNat:Int))=decide (u=v):=λn u v=>by
  by_cases h:u=v
  ·simp[*]
  grind[BitVec.eq_of_toNat_eq]
 simp only[e,az,sg,A5.mk.injEq,w4.mk.injEq,Ba.mk.injEq,eqD,akd,Bool.and_true,Bool.decide_and]
def A5.Lv(r:A5):Bool:=
 if r.W0=1 then(decide (r.tx>=1)&&decide (r.tx<=1048576))&&r.old.right&&r.new.right
 else if r.W0=2 then(decide (r.tx>=1)&&decide (r.tx<=1048576))&&decide (¬(r.J0.toNat:Int)=0)
 else if r.W0=7 then r.new.K3
 else if r.W0=8 then decide ((r.J0.toNat:Int)<=64)
 else decide (r.tx>=1)&&decide (r.tx<=1048576)
set_option maxHeartbeats 2000000 in
theorem QF{r:A5}(h:Hp c w R):Cr 107 #[r.v] w c (.bool r.right) R:=by
 by_cases n:r.W0<1∨r.W0>8
 ·have b:r.right=false:=by unfold A5.right;rw[S1 m4]
  rw[b];refine R2 func107 O (I2 h O λb1 w h=>Y6 h [0,51,2,3,4,55,6,7,8,9,11,60,12,13] λh=>U0 h 0 O O ⟨h,BR.T5 (λa=>?_) λa=>?_⟩)
  ·exact⟨h,Q5 ⟨h,Q5 ⟨rfl,h.q 1 [] O⟩⟩⟩
  ·exact U0 h 0 O O ⟨h,Zt ⟨h,Q5 ⟨rfl,h.q 1 [] O⟩⟩⟩
 by_cases e:r.E0=r
 ·have b:r.right=r.Lv:=by unfold A5.right A5.Lv;rw[V0 Zb6]
  by_cases g:r.W0=1
  ·have d:r.Lv=((decide (r.tx>=1)&&decide (r.tx<=1048576))&&r.old.right&&r.new.right):=by unfold A5.Lv;rw[S1 g]
   rw[b,d];refine uC λb1 w h=>?_;refine⟨h,RD.xV Zb2 Zb2 O O (BR.not (BR.s9 (vO.trans (Si e)) (U0 h 0 O O (BR.T5 (λa=>?_) λa=>?_))))⟩
   ·refine U0 h 0 O O (U0 h 0 O O (mf (BR.T5 (λk=>?_) λk=>?_)))
    ·refine O4 h 0 O O (N1 (nZ h) λw h=>BR.O' (λm=>?_) λm=>?_)
     ·refine O4 h 0 O O (N1 (nZ h) λw h=>⟨A8 O ?_,h.q 1 [] O⟩);grind[]
     ·refine⟨A8 O ?_,h.q 1 [] O⟩;grind[]
    ·refine m5 ⟨A8 O ?_,h.q 1 [] O⟩;grind[]
   ·refine U0 h 0 O O (mf (m5 (m5 ⟨A8 O ?_,h.q 1 [] O⟩)));grind[]
  by_cases i:r.W0=2
  ·have d:r.Lv=((decide (r.tx>=1)&&decide (r.tx<=1048576))&&decide (¬(r.J0.toNat:Int)=0)):=by unfold A5.Lv;rw[V0 g,S1 i]
   rw[b,d];refine uC λb1 w h=>?_;refine⟨h,RD.xV Zb2 Zb2 O O (BR.not (BR.s9 (vO.trans (Si e)) (U0 h 0 O O (BR.T5 (λa=>?_) λa=>?_))))⟩
   ·refine U0 h 0 O O (U0 h 0 O O (Wa (mf (BR.T5 (λk=>?_) λk=>?_))))
    ·refine U0 h 0 O O ⟨A8 O ?_,h.q 1 [] O⟩;grind[]
    ·refine⟨A8 O ?_,h.q 1 [] O⟩;grind[]
   ·refine U0 h 0 O O (Wa (mf (m5 ⟨A8 O ?_,h.q 1 [] O⟩)));grind[]
  by_cases j:r.W0=7
  ·have d:r.Lv=(r.new.K3):=by unfold A5.Lv;rw[V0 g,V0 i,S1 j]
   rw[b,d];refine uC λb1 w h=>?_;refine⟨h,RD.xV Zb2 Zb2 O O (BR.not (BR.s9 (vO.trans (Si e)) (U0 h 0 O O (BR.T5 (λa=>?_) λa=>?_))))⟩
   ·exact U0 h 0 O O (U0 h 0 O O (Wa (Wa (mf (U0 h 0 O O ⟨rfl,h.q 1 [] O⟩)))))
   ·exact U0 h 0 O O (Wa (Wa (mf (U0 h 0 O O ⟨rfl,h.q 1 [] O⟩))))
  by_cases l:r.W0=8
  ·have d:r.Lv=(decide ((r.J0.toNat:Int)<=64)):=by unfold A5.Lv;rw[V0 g,V0 i,V0 j,S1 l]
   rw[b,d];refine uC λb1 w h=>?_;refine⟨h,RD.xV Zb2 Zb2 O O (BR.not (BR.s9 (vO.trans (Si e)) (U0 h 0 O O (BR.T5 (λa=>?_) λa=>?_))))⟩
   ·exact U0 h 0 O O (U0 h 0 O O (Wa (Wa (Wa (mf (U0 h 0 O O ⟨rfl,h.q 1 [] O⟩))))))
   ·exact U0 h 0 O O (Wa (Wa (Wa (mf (U0 h 0 O O ⟨rfl,h.q 1 [] O⟩)))))
  have d:r.Lv=(decide (r.tx>=1)&&decide (r.tx<=1048576)):=by unfold A5.Lv;rw[V0 g,V0 i,V0 j,V0 l]
  rw[b,d];refine uC λb1 w h=>?_;refine⟨h,RD.xV Zb2 Zb2 O O (BR.not (BR.s9 (vO.trans (Si e)) (U0 h 0 O O (BR.T5 (λa=>?_) λa=>?_))))⟩
  ·refine U0 h 0 O O (U0 h 0 O O (Wa (Wa (Wa (Wa ⟨A8 O ?_,h.q 1 [] O⟩)))));grind[]
  ·refine U0 h 0 O O (Wa (Wa (Wa (Wa ⟨A8 O ?_,h.q 1 [] O⟩))));grind[]
 ·have b:r.right=false:=by unfold A5.right;rw[S1 (.inr (.inr e))]
  rw[b];refine uC λb1 w h=>?_;exact⟨h,RD.xV Zb2 Zb2 O O (BR.not (BR.no (vO.trans (Em e)) ⟨rfl,h.q 1 [] O⟩))⟩
end
theorem aam{P:Prop}(h:P:=by
 rw[OE];have:(2:Int)^n<=2^64:=by exact_mod_cast Fs (n:=2) m4 (by omega:n<=64)
 congr 1;exact Int.emod_eq_of_lt hv0 m4):P:=h
def Kh:List B->Nat
 |[]=>0
 |b::l=>b.toNat+256*Kh l
theorem nk:∀l:List B,Kh l<2^(8*l.length)
 |[]=>by simp[Kh]
 |b::l=>by have h:=nk l;have a:=b.isLt;unfold Kh;rw[ze,Nat.mul_succ,oE];omega
theorem Yn:∀l:List B,l.length<=8->(an l).toNat=Kh l
 |[],_=>rfl
 |b::l,h=>by
  have f:l.length<=7:=by simp at h;omega
  have c:=Yn l m4;have d:=nk l;have h56:Kh l<2^56:=iz d (Fs m4 m4);have e:=b.isLt;unfold an Kh;rw[VK,yC,c,CC,Sk (a:=b.toNat) m4];rw[Ds,Sk m4,<-Ds,<-oV e,Ds];omega
theorem Lu:∀(n:Nat)(u:BitVec 64),Kh (bytesLE u n)=u.toNat%2^(8*n)
 |0,u=>by simp[bytesLE,Kh,Nat.mod_one]
 |n+1,u=>by unfold bytesLE Kh;rw[Lu n,mz,CC,pz];rw[Nat.mul_succ,oE,qE (2^(8*n)),Nat.mod_mul]
theorem eh:∀(n:Nat)(u:BitVec 64),(bytesLE u n).length=n
 |0,_=>rfl
 |n+1,u=>by unfold bytesLE;rw[ze,eh n]
theorem Pf:u>>>n=0#64↔u.toNat<2^n:=by
 constructor
 ·intro h;have:=V4 BitVec.toNat h;rw[mz,pz]at this;simp_all
 ·intro h;apply Sh;rw[mz,pz,gu h];rfl
theorem Ss(h:u.toNat<2^(8*n)):U5 u n=bytesLE u n:=by unfold U5;rw[S1 (Pf.2 h)]
theorem Sc(h:u.toNat<2^(8*n)):(U5 u n).length=n:=by rw[Ss h,eh]
theorem Nq(a:n<=8)(h:u.toNat<2^(8*n)):an (U5 u n)=u:=by grind[BitVec.eq_of_toNat_eq,Ss,Yn,eh,Lu,Nat.mod_eq_of_lt]
def M7(n:Int):Prop:= -9223372036854775808<=n∧n<=9223372036854775807
theorem MV{n:Int}(h:M7 n):zag (HC n)=n:=by
 have a:n=(BitVec.ofInt 64 n).toInt:=by rw[bL];unfold M7 at h;rw[Int.bmod_eq_of_le m4 m4]
 have hs:n.fdiv (2^63)=if n<0 then -1 else 0:=by unfold M7 at h;rw[Int.fdiv_eq_ediv_of_nonneg _ Zb4];split<;>omega
 have g:BitVec.ofInt 64 (-1)=BitVec.allOnes 64:=Zb4
 have h01:(0#64-1#64)=BitVec.allOnes 64:=Zb4
 unfold zag HC;rw[hs];generalize j:BitVec.ofInt 64 n=x at a;by_cases h0:n<0
 ·rw[S1 h0,g];have f:x.getLsbD 63=true:=by
   have:x.msb=true:=by rw[BitVec.msb_eq_toInt,<-a];simpa using h0
   rw[gV]at this;exact this
  have d:(x<<<1^^^BitVec.allOnes 64)&&&1#64=1#64:=by
   apply IE;intro i b;rcases i with _|i
   ·simp
   ·simp
  rw[d,h01];have c:((x<<<1^^^BitVec.allOnes 64)>>>1)^^^BitVec.allOnes 64=x:=by
   apply IE;intro i b;by_cases h63:i=63
   ·simp[*]
   ·have k:1+i<64:=m4
    have hi3:¬1+i<1:=m4
    rw[BitVec.getLsbD_xor,BitVec.getLsbD_ushiftRight,BitVec.getLsbD_xor,BitVec.getLsbD_shiftLeft,BitVec.getLsbD_allOnes,BitVec.getLsbD_allOnes,Nat.add_sub_cancel_left];simp[*]
  rw[c,<-a]
 ·rw[V0 h0];have f:x.getLsbD 63=false:=by
   have:x.msb=false:=by rw[BitVec.msb_eq_toInt,<-a];simpa using h0
   rw[gV]at this;exact this
  have e:BitVec.ofInt 64 0=0#64:=Zb4
  rw[e,BitVec.xor_zero];have d:(x<<<1)&&&1#64=0#64:=by
   apply IE;intro i b;rcases i with _|i
   ·simp
   ·simp
  rw[d,BitVec.sub_zero,BitVec.xor_zero];have c:(x<<<1)>>>1=x:=by
   apply IE;intro i b;by_cases h63:i=63
   ·simp_all
   ·grind
  rw[c,<-a]
theorem ow:∀(l:List (Nat×Int))(u:BitVec 64),Kc l=some u->(l.map (·.1)).sum<=64->u.toNat<2^(l.map (·.1)).sum
 |[],u,h,_=>by grind[Kc]
 |(n,v)::l,u,h,hs=>by
  unfold Kc at h;simp only[List.map_cons,List.sum_cons]at hs⊢;cases a:Kc l with
  |none=>simp_all
  |some x=>
   rw[a]at h;simp only at h;have c:=ow l x a m4;split at h
   ·rename_i b;injection h with h;subst h;have hv':=Pf.1 b;rw[VK];apply Nat.or_lt_two_pow
    ·rw[yC,Ds];refine Nat.lt_of_le_of_lt (Nat.mod_le _ _) ?_;simp_all[Nat.pow_add,Nat.mul_comm,Nat.two_pow_pos]
    grind[Nat.lt_of_lt_of_le,Nat.pow_le_pow_right]
   ·cases h
theorem Yo:∀(l:List (Nat×Int))(u:BitVec 64),Kc l=some u->(l.map (·.1)).sum<=64->(∀x∈l,0<=x.2∧x.2<2^x.1∧x.1<64)->Rc (l.map (·.1)) u=some (l.map (·.2))
 |[],u,h,_,_=>by simp_all[Kc,Rc]
 |(n,v)::l,u,h,hs,c=>by
  unfold Kc at h;simp only[List.map_cons,List.sum_cons]at hs;cases a:Kc l with
  |none=>simp_all
  |some x=>
   rw[a]at h;simp only at h;have p:=Yo l x a m4 (λy g=>c y (Ta _ g));have i:=ow l x a m4;obtain⟨hv0,o,b⟩:=c (n,v) Ka;simp only at hv0 o b;split at h
   ·rename_i f;injection h with h;have hz':=Pf.1 f;have hvn:(BitVec.ofInt 64 v).toNat=v.toNat:=by exact aam
    have d:u.toNat=x.toNat*2^n+v.toNat:=by
     rw[<-h,VK,yC,hvn];have k:x.toNat*2^n<2^64:=by
      calc x.toNat*2^n<2^(l.map (·.1)).sum*2^n:=Nat.mul_lt_mul_of_pos_right i (BE n)
       _=2^((l.map (·.1)).sum+n):=(oE _ _ _).symm
       _<=2^64:=Fs m4 m4
     rw[Ds,Sk k,<-Ds,<-oV m4]
    have e:v.toNat<2^n:=by rw[<-hvn];exact hz'
    have t:u>>>n=x:=by apply Sh;rw[mz,pz,d,qE,Nat.mul_add_div (BE n),gu e,Nat.add_zero]
    have s:((u&&&((1#64<<<n)-1#64)).toNat:Int)=v:=by
     have j:((1#64<<<n)-1#64).toNat=2^n-1:=by
      have m:(1#64<<<n).toNat=2^n:=by rw[yC];show(1<<<n)%2^64=2^n;rw[Ds,bu,Sk (mL m4 b)]
      rw[YK,m];have:(1#64).toNat=1:=rfl;rw[this];have r:=BE n;have q:2^n<2^64:=mL m4 b;have:2^64-1+2^n=2^64+(2^n-1):=m4
      rw[this,Nat.add_mod_left,Sk m4]
     rw[rE,j,Nat.and_two_pow_sub_one_eq_mod,d,qE,Nat.mul_add_mod,Sk e];omega
    simp_all[Rc]
   ·cases h
theorem nw:∀(l:List (Nat×Int)),(∀x∈l,0<=x.2∧x.2<2^x.1∧x.1<64)->∃u,Kc l=some u
 |[],_=>⟨_,rfl⟩
 |(n,v)::l,a=>by
  obtain⟨x,c⟩:=nw l (λy b=>a y (Ta _ b));obtain⟨hv0,e,d⟩:=a (n,v) Ka;simp only at hv0 e d;unfold Kc;rw[c];simp only;have hvn:(BitVec.ofInt 64 v).toNat=v.toNat:=by exact aam
  have f:BitVec.ofInt 64 v>>>n=0#64:=Pf.2 Zb6;simp[*]
theorem aal{P:Prop}(h:P:=by obtain⟨u,hu⟩:=nw _ hv;exact⟨u,hu,ow _ u hu (by simp),Yo _ u hu (by simp) hv⟩):P:=h
theorem si{V5:List B}{l:Bool}(b:n<=8)(a:u.toNat<2^(8*n)):Tk.take ⟨U5 u n++V5,l⟩ n=(u,⟨V5,l⟩):=by simp_all[Sc,Tk.take,if_neg,Nq]
theorem OQ{b:B}{V5:List B}{l:Bool}:Tk.take ⟨b::V5,l⟩ 1=(b.setWidth 64,⟨V5,l⟩):=by simp[Tk.take,an]
theorem Th(u:BitVec 64):∀f n:Nat,n+f=9->1<=n->n<=8->1<=df u f n∧df u f n<=8∧u.toNat<2^(8*df u f n)
 |0,n,h,_,_=>m4
 |f+1,n,h,c,b=>by
  unfold df;by_cases a:u>>>(8*n)=0#64
  ·simp_all[Pf]
  ·rw[V0 a];have:n≠8:=by intro e;subst e;exact a (Pf.2 u.isLt)
   exact Th u f (n+1) m4 m4 m4
def rV(v:Ba):Prop:=v.right=true∧M7 v.n
theorem Zd(v:Ba):(F4 v).length<=8:=by
 unfold F4;split
 ·simp
 ·obtain⟨c,b,a⟩:=Th (HC v.n) 8 1 rfl m4 m4;grind[Sc]
theorem uA(b:rV v)(V5:List B)(l:Bool):Tk.val ⟨F4 v++V5,l⟩ (Mk v.K3) (max (((F4 v).length:Int)-1) 0)=(v,⟨V5,l⟩):=by
 obtain⟨K3,n⟩:=v;obtain⟨f,e⟩:=b;cases K3 with
 |false=>simp_all[Ba.right,F4,Mk,Tk.val,X0]
 |true=>
  obtain⟨d,c,a⟩:=Th (HC n) 8 1 rfl m4 m4;have hs:F4 ⟨true,n⟩=U5 (HC n) (df (HC n) 8 1):=by simp[F4]
  rw[hs,Sc a];generalize df (HC n) 8 1=m at d c a;have g:(max ((m:Int)-1) 0+1).toNat=m:=m4
  simp_all[Tk.val,Mk,si,MV]
structure LN(r:A5):Prop where
 right:r.right=true
 old:M7 r.old.n
 new:M7 r.new.n
structure acy(r:A5):Prop where
 k:1<=r.W0∧r.W0<=8
 tx:0<=r.tx∧r.tx<=1048576
 E0:r.E0=r
 old:r.old.right=true
 new:r.new.right=true
theorem LN.in_{r:A5}(h:r.right=true):acy r:=by
 unfold A5.right at h;split at h
 ·cases h
 rename_i h0;simp only[not_or,Decidable.not_not]at h0;obtain⟨d,c,b⟩:=h0;have a:=b;unfold A5.E0 at a;refine⟨m4,?_,b,?_,?_⟩;all_goals
  simp only at h;repeat' split at h;all_goals (repeat' split at a)
  all_goals first
   |omega
   |(simp only[Bool.and_eq_true,decide_eq_true_eq]at h;omega)
   |(have:=V4 A5.tx a;simp only at this;omega)
   |(simp only[Bool.and_eq_true]at h;exact h.1.2)
   |(simp only[Bool.and_eq_true]at h;exact h.2)
   |(have:=V4 A5.old a;simp only at this;rw[<-this];rfl)
   |(have:=V4 A5.new a;simp only at this;rw[<-this];rfl)
   |simp_all[Ba.right]
theorem Vx{r:A5}(h:acy r):∃u,Kc [(3,r.W0-1),(21,r.tx)]=some u∧u.toNat<2^24∧Rc [3,21] u=some [r.W0-1,r.tx]:=by
 have c:=h.k;have b:=h.tx;have hv:∀x∈[(3,r.W0-1),(21,r.tx)],0<=x.2∧x.2<2^x.1∧x.1<64:=by
  intro x a;simp at a;rcases a with rfl|rfl
  ·grind
  ·grind
 exact aal
theorem lN(b:Bool):0<=Mk b∧Mk b<2:=by cases b<;>decide
theorem ny(r:A5):∃u,Kc [(1,Mk r.old.K3),(1,Mk r.new.K3),(3,max (((F4 r.old).length:Int)-1) 0),(3,max (((F4 r.new).length:Int)-1) 0)]=some u∧u.toNat<2^8∧Rc [1,1,3,3] u=some [Mk r.old.K3,Mk r.new.K3,max (((F4 r.old).length:Int)-1) 0,max (((F4 r.new).length:Int)-1) 0]:=by
 have e:=lN r.old.K3;have d:=lN r.new.K3;have c:=Zd r.old;have b:=Zd r.new;have hv:∀x∈[(1,Mk r.old.K3),(1,Mk r.new.K3),(3,max (((F4 r.old).length:Int)-1) 0),(3,max (((F4 r.new).length:Int)-1) 0)],0<=x.2∧x.2<2^x.1∧x.1<64:=by intro x a;simp only[List.mem_cons,List.not_mem_nil,or_false]at a;rcases a with rfl|rfl|rfl|rfl<;>exact⟨by simp only;omega,by simp only;omega,by simp only;omega⟩
 exact aal
theorem BW(b:B):(b.setWidth 64).setWidth 8=b:=Zb3
theorem alu(h:u.toNat<2^8):(u.setWidth 8).setWidth 64=u:=by grind[BitVec.eq_of_toNat_eq,BitVec.toNat_setWidth]
theorem aim(m:BitVec 16):(W m).setWidth 16=m:=by grind[W]
theorem aky(m:BitVec 16):(W m).toNat<2^(8*2):=by unfold W;rw[CC];omega
theorem cy{r:A5}(h:r.right=true)(q:M7 r.old.n)(s:M7 r.new.n){b:List B}(c:P8 r=some b)(V5:List B):Tk.tf ⟨b++V5,false⟩=(r,⟨V5,false⟩)∧3<=b.length:=by
 have j:=LN.in_ h;obtain⟨u,p,k,hu3⟩:=Vx j;have g:=j.E0;unfold P8 at c;rw[h,V0 Zb4]at c;simp only at c;rw[p]at c;simp only[Option.getD_some]at c;have v:=Sc (u:=u) (n:=3) k;unfold Tk.tf;by_cases d:Tf r.W0=true
 ·rw[S1 d]at c;injection c with c;subst c;refine⟨?_,Zb6⟩;have m:U5 u 3++U5 (W r.J0) 2++V5=U5 u 3++(U5 (W r.J0) 2++V5):=Zb3
  rw[m,si m4 k];simp only[hu3,Option.getD_some];have i:r.W0-1+1=r.W0:=m4
  simp only[List.getD_cons_zero,List.getD_cons_succ,i,d,if_true];rw[si m4 (aky r.J0),aim];have l:r=⟨r.W0,r.tx,r.J0,Y3,X0,X0⟩:=by
   unfold Tf at d;simp only[Bool.or_eq_true,decide_eq_true_eq]at d;unfold A5.E0 at g;rcases d with d|d
   ·simp_all
   ·grind
  show(({Xi with W0:=r.W0,tx:=r.tx,J0:=r.J0}:A5),_)=_;grind[Xi]
 ·rw[V0 d]at c;by_cases e:Ci r.W0=true
  ·rw[S1 e]at c;obtain⟨f,t,o,hf3⟩:=ny r;rw[t]at c;simp only[Option.getD_some]at c;injection c with c;subst c;refine⟨?_,Zb6⟩;have m:U5 u 3++r.key.bytes++[f.setWidth 8]++F4 r.old++F4 r.new++V5=U5 u 3++(r.key.a::r.key.b::r.key.x::r.key.y::f.setWidth 8::(F4 r.old++(F4 r.new++V5))):=by simp[w4.bytes]
   rw[m,si m4 k];simp only[hu3,Option.getD_some];have i:r.W0-1+1=r.W0:=m4
   simp only[List.getD_cons_zero,List.getD_cons_succ,i,d,e,if_true];rw[V0 Zb4];simp only[OQ,alu o,hf3,Option.getD_some,List.getD_cons_zero,List.getD_cons_succ,uA (show rV r.old from⟨j.old,q⟩),uA (show rV r.new from⟨j.new,s⟩),BW];have l:r=⟨r.W0,r.tx,0#16,r.key,r.old,r.new⟩:=by
    unfold Ci at e;simp only[Bool.or_eq_true,decide_eq_true_eq]at e;unfold A5.E0 at g;rcases e with e|e
    ·simp_all
    ·grind
   show(({Xi with W0:=r.W0,tx:=r.tx,key:=_,old:=r.old,new:=r.new}:A5),_)=_;unfold Xi;simp only;rw[<-l]
  ·rw[V0 e]at c;injection c with c;subst c;refine⟨?_,m4⟩;rw[si m4 k];simp only[hu3,Option.getD_some];have i:r.W0-1+1=r.W0:=m4
   simp only[List.getD_cons_zero,List.getD_cons_succ,i];rw[V0 d,V0 e];have l:r=⟨r.W0,r.tx,0#16,Y3,X0,X0⟩:=by unfold Ci at e;unfold Tf at d;simp only[Bool.or_eq_true,decide_eq_true_eq,not_or]at e d;unfold A5.E0 at g;rw[V0 e.1,V0 d.1,V0 e.2,V0 d.2]at g;rw[<-g]
   show(({Xi with W0:=r.W0,tx:=r.tx}:A5),_)=_;grind[Xi]
theorem EK{r:A5}(h:r.right=true)(a:M7 r.old.n)(c:M7 r.new.n){b:List B}(d:P8 r=some b)(V5:List B):rb (b++V5)=(r,b.length):=by obtain⟨f,e⟩:=cy h a c d V5<;>grind[rb,List.take_left]
theorem Gy:rb []=(Xi,0):=Zb4
theorem bv:∀(l:List A5)(b:List B)(f:Nat),(∀r∈l,r.right=true∧M7 r.old.n∧M7 r.new.n)->N5 l=some b->b.length<=f->s8 f b=(l,[])
 |[],b,f,_,h,_=>by
  simp only[N5,Option.some.injEq]at h;subst h;cases f with
  |zero=>rfl
  |succ f=>simp[s8,Gy]
 |r::l,b,f,c,h,k=>by
  unfold N5 at h;cases a:P8 r with
  |none=>simp_all
  |some x=>
   cases d:N5 l with
   |none=>simp_all
   |some y=>
    rw[a,d]at h;simp only[Option.some.injEq]at h;subst h;obtain⟨i,g,e⟩:=c r Ka;have p:=(cy i g e a y).2;have o:=EK i g e a y;rw[j7]at k;cases f with
    |zero=>omega
    |succ f=>have m:=bv l y f (λq j=>c q (Ta _ j)) d m4;unfold s8<;>grind
theorem CF{ws:List Int}(a:∀n∈ws,1<=n∧n<=63)(i:Nat):0<=(ws.take i).sum∧(ws.take i).sum<=63*i:=by
 induction ws generalizing i with
 |nil=>simp;omega
 |cons x l b=>
  cases i with
  |zero=>simp
  |succ i=>have e:=a x Ka;have d:=b (λn c=>a n (Ta _ c)) i;grind
theorem TQ{ws:List Int}(h:i<ws.length):(ws.take (i+1)).sum=(ws.take i).sum+ws.getD i 0:=by rw[bV h,List.sum_append];simp[h]
section
theorem FY{ws:List Int}(hs:Sx O5 w a ws.length cap ws)(p:ws.length<=1000)(b:∀n∈ws,1<=n∧n<=63)(t:ws.sum<=64):Cs 334 #[.slice a ws.length cap] w (Zb w (.bool true) []):=by
 have h:=Hp.start w;refine R2 func334 O (p5.A6 kn [3,6,7,8] (λm vs w'=>∃(i:Int),vs=[I (ws.take i.toNat).sum,.slice a ws.length cap,I ws.length,I i]∧(0<=i∧i+m=ws.length)∧Hp w w' []) ws.length ⟨0,rfl,m4,h⟩ ?_);rintro m _ w1 q ⟨i,rfl,l,h⟩;have u:=CF b i.toNat;refine BR.T5 (λg=>?_) λg=>?_
 ·have e:=TQ (ws:=ws) (i:=i.toNat) m4;have c:(i+1).toNat=i.toNat+1:=m4
  rw[<-c]at e;have r:=CF b (i+1).toNat;have j:ws.getD i.toNat 0∈ws:=by
   have:i.toNat<ws.length:=m4
   simp[this]
  have o:=b _ j;refine Lz hs λb1 k s=>LD.rM h hs Zb9 (K5 (d:=0) m4) O (N1 (EY h) λw h=>BR.not (BR.O' (λf=>?_) λf=>?_))
  ·refine i5 (i5 ⟨(m-1),?_,_,vs4 (V4 I ?_) O O O,?_,h⟩)
   ·omega
   ·omega
   ·omega
  ·refine⟨A8 O ?_,h⟩;grind[]
 ·have c:ws.take i.toNat=ws:=sd m4;rw[c];refine⟨A8 O ?_,h⟩;grind[]
def Al:List Int->BitVec 64->List Int×BitVec 64
 |[],u=>([],u)
 |n::l,u=>(((u&&&((1#64<<<n.toNat)-1#64)).toNat:Int)::(Al l (u>>>n.toNat)).1,(Al l (u>>>n.toNat)).2)
theorem yA:∀(l:List Int)(n:Int)(u:BitVec 64),Al (l++[n]) u=((Al l u).1++[(((Al l u).2&&&((1#64<<<n.toNat)-1#64)).toNat:Int)],(Al l u).2>>>n.toNat)
 |[],n,u=>rfl
 |m::l,n,u=>by rw[PE,Al,yA l n,Al];rfl
theorem Mq:∀(ws:List Int)(u:BitVec 64),Rc (ws.map Int.toNat) u=if(Al ws u).2=0#64 then some (Al ws u).1 else none
 |[],u=>rfl
 |n::l,u=>by rw[Kb,Rc,Mq l,Al];grind
theorem wF:∀(ws:List Int)(u:BitVec 64),(Al ws u).1.length=ws.length
 |[],_=>rfl
 |n::l,u=>by rw[Al,ze,wF l];rfl
theorem LP(x:BitVec 64){n:Int}(b:1<=n∧n<=63):((x&&&((1#64<<<n.toNat)-1#64)).toNat:Int)<9223372036854775808:=by
 have hn':n.toNat<64:=m4
 have a:(1#64<<<n.toNat).toNat=2^n.toNat:=by rw[yC];show(1<<<n.toNat)%2^64=2^n.toNat;rw[Ds,bu,Sk (mL m4 hn')]
 have e:=BE n.toNat;have d:2^n.toNat<=2^63:=Fs m4 m4;have c:((1#64<<<n.toNat)-1#64).toNat=2^n.toNat-1:=by
  rw[YK,a];have:(1#64).toNat=1:=rfl;rw[this];have:2^64-1+2^n.toNat=2^64+(2^n.toNat-1):=m4
  rw[this,Nat.add_mod_left,Sk m4]
 grind[Nat.and_le_right]
theorem RJ(x:BitVec 64):BitVec.ofInt 64 ((x.toNat:Int)-1)=x-1#64:=by apply Sh;rw[OE,YK];grind
theorem xF{x:BitVec 64}(h:(x.toNat:Int)<9223372036854775808):x.toInt=x.toNat:=Zb1
theorem cO{ws:List Int}(h:i<ws.length):ws.take (i+1)=ws.take i++[ws.getD i 0]:=Zb6
theorem JY{ws r:List Int}(hs:Sx O5 w a ws.length cap ws)(s:ws.length<=1000)(l:∀n∈ws,1<=n∧n<=63)(y:ws.sum<=64)(b:Rc (ws.map Int.toNat) u=some r):Cs 301 #[.slice a ws.length cap,U u] w (λe w'=>∃c f,e= .returned (.tuple #[.slice c r.length f,.bool true])∧Hp w w' [so 3 O5 c f r]):=by
 have h:=Hp.start w;rw[Mq]at b;split at b
 case isFalse=>cases b
 rename_i o;injection b with b;subst b;refine R2 func301 O (xb (FY hs s l y) ?_);rintro _ w1 ⟨rfl,h⟩;refine BR.not (Q5 ?_);replace h:=h.G4 3 O5;refine p5.A6 kn [1,6,12,13,14] (λm vs w'=>∃(i:Int)(c:Option Addr)(f:Nat),vs=[U (Al (ws.take i.toNat) u).2,.slice c (Al (ws.take i.toNat) u).1.length f,.slice a ws.length cap,I ws.length,I i]∧(0<=i∧i+m=ws.length)∧Hp w w' [so 3 O5 c f (Al (ws.take i.toNat) u).1]) ws.length ⟨0,none,0,rfl,m4,h⟩ ?_;rintro m _ w1 F ⟨i,a1,H,rfl,E,h⟩;have A:=wF (ws.take i.toNat) u;have C:(ws.take i.toNat).length<=ws.length:=Zb5
 refine BR.T5 (λt=>?_) λt=>?_
 ·have k:=cO (ws:=ws) (i:=i.toNat) m4;have j:(i+1).toNat=i.toNat+1:=m4
  rw[<-j]at k;have g:=yA (ws.take i.toNat) (ws.getD i.toNat 0) u;rw[<-k]at g;have v:(Al (ws.take (i+1).toNat) u).1=_:=V4 Prod.fst g;have G:(Al (ws.take (i+1).toNat) u).2=_:=V4 Prod.snd g;have z:ws.getD i.toNat 0∈ws:=by
   have:i.toNat<ws.length:=m4
   simp[this]
  have p:=l _ z;have hsm:=LP (Al (ws.take i.toNat) u).2 p;refine Lz hs λb1 D J=>LD.rM h hs Zb9 (K5 (d:=0) m4) O (km (WR.WF (x:=1#64) O (WR.bO (bf.pv O (WR.toI (I2 h O λb2 w h=>A4.Yb (u:=_) (Ca.of (w9:=8) kn O O O O O O) h 1 O O 0 O O O m4 (λ_ _=>rfl) λa2 E4 w h=>km (Bv.u64 (i5 ?_))))))));refine⟨(m-1),?_,_,_,_,vs5 (V4 (λ(x:BitVec 64)=>U x) ?_) (V4 (λn=>Value.slice _ n _) ?_) O O O,?_,Hp.subst (h.q 2 [1] O) ?_⟩
  ·omega
  ·grind[]
  ·grind[]
  ·omega
  ·rw[v,RJ,xF hsm]
 ·have j:ws.take i.toNat=ws:=sd m4;rw[j]at h⊢;rw[o];exact m5 ⟨_,_,rfl,h⟩
def rS(z:List (Nat×Int))(k:Nat):BitVec 64:=(Kc (z.drop (z.length-k))).getD 0#64
theorem qw{z:List (Nat×Int)}:∀{u:BitVec 64}(i:Nat),Kc z=some u->∃v,Kc (z.drop i)=some v:=by
 induction z with
 |nil=>simp_all
 |cons x l a=>
  intro u i h;cases i with
  |zero=>grind
  |succ i=>
   obtain⟨n,v⟩:=x;unfold Kc at h;cases b:Kc l with
   |none=>simp_all
   |some y=>exact a i b
theorem qS{z:List (Nat×Int)}(h:Kc z=some u){k:Nat}(f:k<z.length){v:Int}(a:z[z.length-1-k]?=some (n,v)):BitVec.ofInt 64 v>>>n=0#64∧rS z (k+1)=(rS z k<<<n)|||BitVec.ofInt 64 v:=by
 have b:z.length-1-k<z.length:=m4
 have e:z.drop (z.length-(k+1))=(n,v)::z.drop (z.length-k):=by rw[show z.length-(k+1)=z.length-1-k by omega,IN b,show z.length-1-k+1=z.length-k by omega];rw[d8 b]at a;injection a with a;rw[a]
 obtain⟨p,c⟩:=qw (z.length-(k+1)) h;obtain⟨q,d⟩:=qw (z.length-k) h;unfold rS;rw[e]at c⊢;rw[c,d];simp_all[Kc]
theorem IP{d:α}{xs:List α}{pre:List (Int×α)}{x:Int×α}{k:Nat}(a:k<xs.length)(h:pre++[x]=B9 d xs (k+1)):pre=B9 d xs k∧x.1=xs.length-1-k∧x.2=xs.getD x.1.toNat d:=by rw[B9]at h;obtain⟨c,b⟩:=List.append_inj' h rfl<;>grind
theorem yu{wl vl:List Int}(hs:Sx O5 w a wl.length cap wl)(s:Sx O5 w a2 vl.length E4 vl)(N:wl.length<=1000)(J:vl.length=wl.length)(r:∀n∈wl,1<=n∧n<=63)(V:wl.sum<=64)(c:Kc ((wl.map Int.toNat).zip vl)=some u):Cs 308 #[.slice a wl.length cap,.slice a2 vl.length E4] w (Zb w (.tuple #[U u,.bool true]) []):=by
 have h:=Hp.start w;have A:((wl.map Int.toNat).zip vl).length=vl.length:=Zb5
 refine Fa kn func308 O O (I2 h O λb1 w h=>I2 h O λb2 w h=>I2 h O λz w h=>U0 h 2 O O (N1 (FY (hs.up h) Zb9 Zb9 Zb9) λw y=>?_));replace h:=h.H6 y;refine m5 (U0 h 2 O O (Mj (I2 h O λb w h=>He (agw h) λb5 w h=>RF.Zi kn O O (λ(x:Int×Int)=>[I x.1,I x.2]) (λ_=>rfl) O O O (λl=>l=B9 0 vl vl.length) (λl=>∃k,k<vl.length∧l=B9 0 vl (k+1)) (λl=>C5 [bk b [U (rS ((wl.map Int.toNat).zip vl) l.length)] 126,bk b1 [.slice a wl.length cap] 32]) (λ_=>d6 False) (R:=[bk b5 [.slice a2 vl.length E4] 32,bk z [.bool false] 4,bk b2 [U 0#64] 126]) ?_ (aiS s m4 _) ?_ ?_ ?_)))
 ·have m:rS ((wl.map Int.toNat).zip vl) 0=0#64:=by unfold rS;rw[Nat.sub_zero,sE];rfl
  refine Hp.C3 (?_:Hp _ _ ([bk b [U (rS ((wl.map Int.toNat).zip vl) 0)] 126,bk b1 [.slice a wl.length cap] 32]++_));rw[m];exact h.g [1,4] O
 ·rintro pre x W M ⟨k,v,t⟩ h;obtain⟨rfl,K,p⟩:=IP v t;have f:=Qt 0 vl k;rw[f]at h;replace h:=h.R6;have hwi:x.1.toNat<wl.length:=m4
  have hvi:x.1.toNat<vl.length:=m4
  have o:((wl.map Int.toNat).zip vl)[((wl.map Int.toNat).zip vl).length-1-k]?=some ((wl.getD x.1.toNat 0).toNat,x.2):=by rw[show((wl.map Int.toNat).zip vl).length-1-k=x.1.toNat by omega];rw[List.getElem?_zip_eq_some,p];simp[hwi,hvi]
  obtain⟨hz0,E⟩:=qS c m4 o;have F:wl.getD x.1.toNat 0∈wl:=by simp[hwi]
  have L:=r _ F;refine⟨[bk b [U (rS ((wl.map Int.toNat).zip vl) k)] 126,bk b1 [.slice a wl.length cap] 32],h,λW M h=>?_⟩;refine WR.bO (U0 h 1 O O (Lz hs λS H T=>LD.rM h hs Zb9 (K5 (d:=0) m4) O (km (Bv.u64 (BR.ne (λe=>?_) λe=>?_)))))
  ·exact absurd (by rw[hz0];rfl) e
  ·refine Y6 h [2,6,7,0,51,3,54,5,8,109] λh=>WR.bO (U3 0 O O (U0 h 1 O O ⟨h,Lz hs λQ G X=>LD.rM h hs Zb9 (K5 (d:=0) m4) O ⟨h,km (WR.WF O (bf.JO O (J3 h 0 O O O λw h=>?_)))⟩⟩));have amf:(B9 0 vl k++[x]).length=k+1:=by rw[j7,f];rfl
   refine Hp.C3 (?_:Hp _ _ ([bk b [U (rS ((wl.map Int.toNat).zip vl) (B9 0 vl k++[x]).length)] 126,bk b1 [.slice a wl.length cap] 32]++M));rw[amf,E];exact h
 ·rintro D l W rfl h;have C:rS ((wl.map Int.toNat).zip vl) (B9 0 vl vl.length).length=u:=by rw[Qt,<-A];unfold rS;rw[cu,qz,c];rfl
  rw[C]at h;replace h:=h.R6;exact U0 h 0 O O (J3 h 5 O O O λw h=>J3 h 4 O O O λw h=>Mz.one h (i:=2) O O λw h=>U0 h 5 O O (U0 h 4 O O ⟨rfl,h.q 6 [] O⟩))
 ·rintro D j W h;exact h.uf.1.elim
end
section
theorem ZL(h:Hp c w R):Cs 310 #[v.v] w (λe w'=>∃i j,e= .returned (.slice i (F4 v).length j)∧Hp c w' (so 5 eB i j (F4 v)::R)):=by
 by_cases f:v.K3=true
 ·have hs:F4 v=U5 (HC v.n) (df (HC v.n) 8 1):=by unfold F4;rw[f];rfl
  have l:=Th (HC v.n) 8 1 O m4 m4;obtain⟨z,hz0⟩:∃z,df (HC v.n) 8 1=z:=⟨_,rfl⟩;rw[hz0]at hs l;rw[hs];refine R2 func310 O (I2 h O λb1 w h=>U0 h 0 O O (BR.not (BR.s9 f (U0 h 0 O O (N1 (agv h) λw h=>p5.A6 kn [3,4] (λm vs w'=>∃(n:Int),vs=[U (HC v.n),I n]∧(1<=n∧n<=8∧n+m=9∧df (HC v.n) m n.toNat=z)∧Hp c w' (bk b1 [.bool v.K3,I v.n] 40::R)) 8 ⟨1,rfl,⟨m4,m4,m4,hz0⟩,h⟩ ?_)))));rintro m _ w1 s ⟨n,rfl,o,h⟩;obtain⟨m,rfl⟩:∃k,m=k+1:=⟨m-1,m4⟩;have a:=o.2.2.2;unfold df at a;have g:=afj (n:=n) m4;refine i5 (km (Bv.u64 (BR.ne (λb=>?_) λb=>?_)))
  ·have d:¬HC v.n>>>(8*n.toNat)=0#64:=by
    intro e;rw[g,e]at b;exact b O
   rw[V0 d]at a;have r:n≠8:=by intro e;subst e;exact d (Pf.2 (HC v.n).isLt)
   have p:(n+1).toNat=n.toNat+1:=m4
   rw[<-p]at a;exact i5 ⟨m,m4,n+1,rfl,⟨m4,m4,m4,a⟩,h⟩
  ·have d:HC v.n>>>(8*n.toNat)=0#64:=by
    apply Sh;rw[g]at b
    exact_mod_cast b
   rw[S1 d]at a;subst a;exact ga (Wg h m4) λa1 t w h=>⟨_,_,rfl,h.q 2 [0] O⟩
 ·have hs:F4 v=[]:=by unfold F4;rw[S1 Zb1]
  rw[hs];refine R2 func310 O (I2 h O λb1 w h=>U0 h 0 O O (BR.not (BR.no Zb1 ?_)));replace h:=h.G4 5 eB;exact⟨_,_,rfl,h.q 2 [0] O⟩
theorem IF{t:Tk}(hs:Sx eB c a n cap t.V5)(h:Hp c w (bk b [.slice a n cap,.bool t.Dx] 408::R))(p:0<=k∧k<=8):
 Cs 303 #[Pt b,I k] w (λe w'=>∃f n' g,e= .returned (U (t.take k.toNat).1)∧Sx eB c f n' g (t.take k.toNat).2.V5∧Hp c w' (bk b [.slice f n' g,.bool (t.take k.toNat).2.Dx] 408::R)):=by
 obtain rfl:=hs.len;have o:=hs.cap;by_cases q:k>t.V5.length
 ·have d:t.take k.toNat=(0#64,{t with Dx:=true}):=by unfold Tk.take;rw[S1 m4]
  rw[d];refine R2 func303 O (U0 h 0 O O (Zt (J3 h 0 O O O λw h=>⟨_,_,_,rfl,?_,h⟩)));assumption
 ·have d:t.take k.toNat=(an (t.V5.take k.toNat),{t with V5:=t.V5.drop k.toNat}):=by unfold Tk.take;rw[V0 m4]
  have i:=hs.take (m:=k.toNat) m4;have r:=hs.drop (l:=k.toNat) m4;rw[d];refine R2 func303 O (U0 h 0 O O (Te (U0 h 0 O O (RD.Vh (m:=Int.toNat _) kn O O O (Xr m4) m4 (N1 (GY (i.up h) Zb7) λw j=>?_)))));replace h:=h.H6 j;refine U0 h 0 O O (RD.cut (l:=Int.toNat _) kn O O (Xr m4) O m4 (J3 h 0 O O O λw h=>⟨_,_,_,rfl,?_,h⟩));assumption
end
theorem PU{P Q:Prop}(q:Q)(f:Q->P:=by intro q;exact R2 func251 O (I2 h O λb1 w h=>He (Bw h) λa1 w h=>xb (IF (t:=t) hs (h.g [2] O) m4) (q b1 a1 w h))):P:=f q
theorem OU{P Q:Prop}(q:Q)(f:Q->P:=by intro q;exact ga (JY (ws:=[3,21]) (r:=[k,x]) (h.Z4 1 O) Zb4 Zb4 Zb4 hu) λa3 na w h'=>q a3 na w h'):P:=f q
theorem acj{P Q:Prop}(q:Q)(f:Q->P:=by intro q;exact Y6 h [0,1,4,5,2,3,6,7,58,109] λh=>Jc.sl h 0 O Zb1 λb2 o1 U9=>Jc.sl h 0 O Zb1 λb3 o2 Lj=>LD.Km (λ_ h=>h) 0 O Zb9 O O (i5 (LD.Km (λ_ h=>h) 0 O Zb9 O O (I2 h O λb4 w h=>⟨h.q 5 [1,2,3,4] O,J3 h 0 O O O λw h=>U0 h 0 O O (N1 (zu h) λw h=>BR.no Zb1 (q b2 o1 U9 b3 o2 Lj b4 w h))⟩)))):P:=f q
theorem qN{P:Prop}(h:P:=by exact Jc.mk ⟨_,rfl,by omega,by omega,J3 h 1 O O O λw h=>i5 ⟨m-1,by omega,_,a7,n7,amH,rfl,⟨by omega,by omega,hs7⟩,h.g [1] O⟩⟩):P:=h
theorem Tk.PL(t:Tk)(a:n<=8):(t.take n).1.toNat<2^(8*n):=by grind[Tk.take,Yn,nk]
theorem qT(h:u.toNat<2^24):Rc [3,21] u=some [((u&&&7#64).toNat:Int),(((u>>>3)&&&2097151#64).toNat:Int)]:=by simp_all[Pf,Rc]
theorem HT(h:u.toNat<2^8):Rc [1,1,3,3] u=some [((u&&&1#64).toNat:Int),(((u>>>1)&&&1#64).toNat:Int),(((u>>>1>>>1)&&&7#64).toNat:Int),(((u>>>1>>>1>>>3)&&&7#64).toNat:Int)]:=by simp_all[Pf,Rc]
theorem kU(u:BitVec 64):(u&&&7#64).toNat<=7:=by rw[rE];exact Nat.and_le_right
section
theorem IY{t:Tk}{d sz:Int}(hs:Sx eB c a n cap t.V5)(h:Hp c w (bk b [.slice a n cap,.bool t.Dx] 408::R))(o:0<=sz∧sz<=7):
 Cs 307 #[Pt b,I d,I sz] w (λe w'=>∃j n' k,e= .returned (t.val d sz).1.v∧Sx eB c j n' k (t.val d sz).2.V5∧Hp c w' (bk b [.slice j n' k,.bool (t.val d sz).2.Dx] 408::R)):=by
 by_cases i:d=0
 ·have f:t.val d sz=(X0,t):=by unfold Tk.val;rw[S1 i]
  rw[f];refine R2 func307 O (I2 h O λb1 w h=>mf (J3 h 0 O O O λw h=>O4 h 0 O O ⟨_,_,_,rfl,?_,h.q 2 [1] O⟩));assumption
 ·have f:t.val d sz=(⟨true,zag (t.take (sz+1).toNat).1⟩,(t.take (sz+1).toNat).2):=by unfold Tk.val;rw[V0 i]
  rw[f];refine R2 func307 O (I2 h O λb1 w h=>Wa (i5 (xb (IF (t:=t) hs (h.g [1] O) m4) ?_)));rintro _ w ⟨a1,l,p,rfl,m,h⟩;refine N1 (agx h) λw h=>J3 h 1 O O O λw h=>O4 h 1 O O ⟨_,_,_,rfl,?_,h.q 2 [0] O⟩;assumption
def tkN(t:Tk):Nat->Tk
 |0=>t
 |i+1=>((tkN t i).take 1).2
def kb(i j:Nat)(y:B):B:=match Nat.blt j i with
 |true=>y
 |false=>0#8
theorem agY{t:Tk}(hs:Sx eB c a n cap t.V5)(h:Hp c w (bk b [.slice a n cap,.bool t.Dx] 408::R)):
 Cs 251 #[Pt b] w (λe w'=>∃u n' C,e= .returned t.tf.1.v∧Sx eB c u n' C t.tf.2.V5∧Hp c w' (bk b [.slice u n' C,.bool t.tf.2.Dx] 408::R)):=by
 have hu:=qT (t.PL (n:=3) m4);have h7:=kU (t.take 3).1;obtain⟨k,X⟩:∃k:Int,k=((t.take 3).1&&&7#64).toNat:=⟨_,rfl⟩;obtain⟨x,V⟩:∃x:Int,x=(((t.take 3).1>>>3)&&&2097151#64).toNat:=⟨_,rfl⟩;rw[<-X,<-V]at hu;by_cases E:Tf (k+1)=true
 ·have p:t.tf=({Xi with W0:=k+1,tx:=x,J0:=((t.take 3).2.take 2).1.setWidth 16},((t.take 3).2.take 2).2):=by
   unfold Tk.tf;simp only[hu,Option.getD_some,List.getD_cons_zero,List.getD_cons_succ,E,if_true]
  rw[p];refine PU λb1 a1 w h=>?_;rintro _ w ⟨a2,s,E4,rfl,l,h⟩;refine OU λa3 na w h'=>?_;replace h:=h.H6 h';refine Y6 h [0,1,4,5,2,3,6,7,58,109] λh=>Jc.sl h 0 O Zb1 λb2 o1 U9=>Jc.sl h 0 O Zb1 λb3 o2 Lj=>LD.Km (λ_ h=>h) 0 O Zb9 O O (i5 (LD.Km (λ_ h=>h) 0 O Zb9 O O (I2 h O λb4 w h=>⟨h.q 5 [1,2,3,4] O,J3 h 0 O O O λw h=>U0 h 0 O O (N1 (zu h) λw h=>BR.s9 Zb9 ?_)⟩)));refine xb (IF (t:=(t.take 3).2) l (h.g [2] O) m4) ?_;rintro _ w ⟨a5,n5,Mt,rfl,Ls,h⟩;refine WR.afi (J3 h 1 O O O λw h=>O4 h 1 O O (J3 h 4 O O O λw h=>O4 h 4 O O ⟨_,_,_,rfl,?_,h.q 5 [0] O⟩));assumption
 ·by_cases D:Ci (k+1)=true
  ·obtain⟨d,adS,A⟩:∃d:Nat->Tk,d 0=(t.take 3).2∧∀i,d (i+1)=((d i).take 1).2:=⟨tkN (t.take 3).2,rfl,λ_=>rfl⟩;obtain⟨j,hky⟩:∃j:Nat->B,∀i,((d i).take 1).1.setWidth 8=j i:=⟨_,λ_=>rfl⟩;obtain⟨y,hty⟩:∃y,(d 4).take 1=y:=⟨_,rfl⟩;have hyl:=(d 4).PL (n:=1) m4;rw[hty]at hyl;have F:=HT hyl;have EB:=kU (y.1>>>1>>>1);have hb3:=kU (y.1>>>1>>>1>>>3);obtain⟨S,hf0⟩:∃z:Int,z=(y.1&&&1#64).toNat:=⟨_,rfl⟩;obtain⟨f1,hf1⟩:∃z:Int,z=((y.1>>>1)&&&1#64).toNat:=⟨_,rfl⟩;obtain⟨f2,T⟩:∃z:Int,z=((y.1>>>1>>>1)&&&7#64).toNat:=⟨_,rfl⟩;obtain⟨N,hf3⟩:∃z:Int,z=((y.1>>>1>>>1>>>3)&&&7#64).toNat:=⟨_,rfl⟩;rw[<-hf0,<-hf1,<-T,<-hf3]at F;obtain⟨o,H⟩:∃o,y.2.val S f2=o:=⟨_,rfl⟩;obtain⟨q,G⟩:∃q,o.2.val f1 N=q:=⟨_,rfl⟩;have p:t.tf=({Xi with W0:=k+1,tx:=x,key:=⟨j 0,j 1,j 2,j 3⟩,old:=o.1,new:=q.1},q.2):=by rw[<-G,<-H];unfold Tk.tf;simp only[hu,Option.getD_some,List.getD_cons_zero,List.getD_cons_succ];rw[V0 E,S1 D];have M:=A 0;have L:=A 1;have K:=A 2;have J:=A 3;simp only[Nat.zero_add,Nat.reduceAdd]at M L K J;simp only[<-adS,<-M,<-L,<-K,<-J,hty,F,hky,Option.getD_some,List.getD_cons_zero,List.getD_cons_succ]
   rw[p];clear p;refine PU λb1 a1 w h=>?_;rintro _ w ⟨a2,s,E4,rfl,l,h⟩;refine OU λa3 na w h'=>?_;replace h:=h.H6 h';refine acj λb2 o1 U9 b3 o2 Lj b4 w h=>?_;refine U0 h 0 O O (N1 (KA h) λw h=>BR.s9 D ?_);replace l:Sx eB c a2 s E4 (d 0).V5:=by rw[adS];exact l
   replace h:Hp c w (bk b4 [I (k+1),I x,gb 0#16,B8 0#8,B8 0#8,B8 0#8,B8 0#8,.bool false,I 0,.bool false,I 0] 195::bk b [.slice a2 s E4,.bool (d 0).Dx] 408::bk b1 [I 0,I 0,gb 0#16,B8 0#8,B8 0#8,B8 0#8,B8 0#8,.bool false,I 0,.bool false,I 0] 195::R):=by rw[adS];exact h.q 5 [0,2,4] O
   refine p5.A6 kn [0,2,5,36] (λm vs w'=>∃(i:Int)(u:Option Addr)(n' C:Nat),vs=[Pt b,Pt b1,Pt b4,I i]∧(0<=i∧i+m=4∧Sx eB c u n' C (d i.toNat).V5)∧Hp c w' (bk b4 [I (k+1),I x,gb 0#16,B8 (kb i.toNat 0 (j 0)),B8 (kb i.toNat 1 (j 1)),B8 (kb i.toNat 2 (j 2)),B8 (kb i.toNat 3 (j 3)),.bool false,I 0,.bool false,I 0] 195::bk b [.slice u n' C,.bool (d i.toNat).Dx] 408::bk b1 [I 0,I 0,gb 0#16,B8 0#8,B8 0#8,B8 0#8,B8 0#8,.bool false,I 0,.bool false,I 0] 195::R)) 4 ⟨0,a2,s,E4,rfl,⟨m4,m4,l⟩,h⟩ ?_;rintro m _ w1 e0 ⟨i,a6,n6,PK,rfl,hm',h⟩;obtain⟨WP,him,hs6⟩:=hm';refine BR.T5 (λZ=>?_) λZ=>?_
   ·have Y:(i+1).toNat=i.toNat+1:=m4
    have hkt:((d i.toNat).take (1:Int).toNat).1.setWidth 8=j i.toNat:=hky _;have hkn:((d i.toNat).take (1:Int).toNat).2=d (i+1).toNat:=by rw[Y,A];rfl
    refine xb (IF (t:=d i.toNat) hs6 (h.g [1] O) m4) ?_;rintro _ w ⟨a7,n7,amH,rfl,hs7,h⟩;rw[hkn]at hs7 h;refine WR.toB ?_;rw[hkt];clear hkt hkn;rcases(by omega:i=0∨i=1∨i=2∨i=3)with rfl|rfl|rfl|rfl
    ·exact qN
    ·exact qN
    ·exact qN
    ·exact qN
   ·obtain rfl:i=4:=m4
    refine He (qR h) λa8 w h=>?_;have ajd:(d (4:Int).toNat).take (1:Int).toNat=y:=hty;refine xb (IF (t:=d (4:Int).toNat) hs6 (h.g [2] O) m4) ?_;rw[ajd];clear ajd;rintro _ w ⟨a9,n9,aoi,rfl,hs9,h⟩;refine ga (JY (ws:=[1,1,3,3]) (r:=[S,f1,f2,N]) (h.Z4 1 O) Zb4 Zb4 Zb4 F) λa10 ant w h'=>?_;replace h:=h.H6 h';refine Y6 h [0,1,2,4,5,3,56,107,8,109] λh=>Jc.sl h 0 O Zb1 λb5 o3 lh=>Jc.sl h 0 O Zb1 λb6 o4 jX=>LD.Km (λ_ h=>h) 0 O Zb9 O O (LD.qf h 0 O Zb9 O O ⟨h,xb (IY (t:=y.2) hs9 (h.g [1] O) m4) ?_⟩);rw[H];rintro _ w ⟨a11,n11,ans,rfl,alQ,h⟩;refine J3 h 3 O O O λw h=>Y6 h [0,1,2,4,5,3,56,107,8,109] λh=>Jc.sl h 1 O Zb1 λb7 o5 iA=>Jc.sl h 1 O Zb1 λb8 o6 ha6=>LD.Km (λ_ h=>h) 1 O Zb9 O O (LD.qf h 1 O Zb9 O O ⟨h,xb (IY (t:=o.2) alQ h m4) ?_⟩);rw[G];rintro _ w ⟨a12,n12,anr,rfl,anT,h⟩;refine J3 h 3 O O O λw h=>O4 h 3 O O (J3 h 4 O O O λw h=>O4 h 4 O O ⟨_,_,_,rfl,?_,h.q 5 [0] O⟩);assumption
  ·have p:t.tf=({Xi with W0:=k+1,tx:=x},(t.take 3).2):=by
    unfold Tk.tf;simp only[hu,Option.getD_some,List.getD_cons_zero,List.getD_cons_succ];rw[V0 E,V0 D]
   rw[p];refine PU λb1 a1 w h=>?_;rintro _ w ⟨a2,s,E4,rfl,l,h⟩;refine OU λa3 na w h'=>?_;replace h:=h.H6 h';refine acj λb2 o1 U9 b3 o2 Lj b4 w h=>?_;refine U0 h 0 O O (N1 (KA h) λw h=>BR.no Zb1 (O4 h 0 O O (J3 h 4 O O O λw h=>O4 h 4 O O ⟨_,_,_,rfl,?_,h.q 5 [2] O⟩)));assumption
end
section
theorem Hp.UQ{L:List HP}{o:Nat}{l:List Value}{t:TypeId}(xs:List α)(h:Hp c w L)(j:Nat)(e:i3 L j=some (bk b l t))(a:xs.length=n)(f:∀i v,i3 (E.P3 xs) i=some v->i3 l (o+i)=some v):Sx E w (some ⟨b,o,none⟩) n n xs:=
 ⟨.row (by rw[E.p8,a]) (λi v d=>(h.Qm e).cell (f i v d)),a,V7 _⟩
theorem cE{l:List Rm}(hs:Sx Nm w a n cap l)(g:∀s∈l,Sx eB w s.a s.xs.length s.cap s.xs)(h:n<=10)(f:∀s∈l,s.xs.length<=1000){z:List B}(d:Sy l=z):
 Cs 312 #[.slice a n cap] w (λe w'=>∃b c,e= .returned (.slice b z.length c)∧Hp w w' [so 5 eB b c z]):=by
 obtain rfl:=hs.len;grind[HY]
theorem ajY{a1 a3 a4 a5:Option Addr}{c1 c2 c3 c4 c5 h g:Nat}{RI d c b xs5:List B}(k:Sx eB w a1 RI.length c1 RI)(f:Sx eB w a2 h c2 d)(e:Sx eB w a3 g c3 c)(j:Sx eB w a4 b.length c4 b)(i:Sx eB w a5 xs5.length c5 xs5):∀s∈([⟨a1,c1,RI⟩,⟨a2,c2,d⟩,⟨a3,c3,c⟩,⟨a4,c4,b⟩,⟨a5,c5,xs5⟩]:List Rm),Sx eB w s.a s.xs.length s.cap s.xs:=by obtain rfl:=f.len;obtain rfl:=e.len<;>grind
theorem aae{a1 a3 a4 a5:Option Addr}{c1 c2 c3 c4 c5:Nat}{RI b a c xs5:List B}(i:RI.length<=3)(g:b.length<=16)(f:a.length<=16)(e:c.length<=8)(d:xs5.length<=8):∀s∈([⟨a1,c1,RI⟩,⟨a2,c2,b⟩,⟨a3,c3,a⟩,⟨a4,c4,c⟩,⟨a5,c5,xs5⟩]:List Rm),s.xs.length<=1000:=Zb1
set_option maxHeartbeats 4000000 in
theorem SY{r:A5}(h:Hp c w R):Cs 252 #[r.v] w (λe w'=>∃M S,e= .returned (.tuple #[.slice M ((P8 r).getD []).length S,.bool (P8 r).isSome])∧Hp c w' (so 5 eB M S ((P8 r).getD [])::R)):=by
 by_cases H:r.right=true
 ·obtain⟨u,m,X,hu3⟩:=Vx (LN.in_ H);have hk:=(LN.in_ H).k;have V:=Sc (u:=u) (n:=3) X;have T:(U5 u (3:Int).toNat).length=3:=V;have bj:(U5 (W r.J0) (2:Int).toNat).length=2:=Sc (aky r.J0);by_cases L:Tf r.W0=true
  ·have o:P8 r=some (U5 u 3++U5 (W r.J0) 2):=by
    unfold P8;rw[H,V0 Zb4];simp only[m,Option.getD_some];rw[S1 L]
   rw[o];refine R2 func252 O (I2 h O λb1 w h=>O4 h 0 O O (N1 (QF h) λw h=>BR.not (BR.s9 Zb9 (Bs h (qs [1,4,2,3,5] (.w2 0 (vs [6,7] (qs [8,9,10,11,12] .done)) 6 (vs [0,7] (qs [8,9,10,11,12] .done)))) λh=>U3 0 O O (i5 (U3 0 O O ⟨?_,?_⟩))))))
   ·refine He (Bw h) λa1 w h=>⟨h.q 2 [1] O,I2 h O λb2 w h=>?_⟩;replace h:=h.g [1] O;refine N1 (yu (wl:=[3,21]) (vl:=[r.W0-1,r.tx]) (h.Z4 0 O) (h.Ib [r.W0-1,r.tx] 1 O O O) Zb4 O Zb4 Zb4 m) λw a=>?_;replace h:=h.H6 a;exact ga (Wg h m4) λa2 b w h=>U0 h 3 O O (N1 (zu h) λw h=>BR.s9 Zb9 (U0 h 3 O O (WR.W (ga (Wg h m4) λa3 E4 w h=>A4.Pk (Ca.of (w9:=1) kn O O O O O O) h 1 O O O (h.Ew 0 O) m4 (λ_ _=>rfl) λa4 d w h=>⟨_,_,rfl,h.q 5 [1] O⟩))))
   ·refine I2 h O λb2 w h=>⟨h.q 2 [1] O,He (Bw h) λa1 w h=>N1 (yu (wl:=[3,21]) (vl:=[r.W0-1,r.tx]) (h.Z4 0 O) (h.Ib [r.W0-1,r.tx] 1 O O O) Zb4 O Zb4 Zb4 m) λw a=>?_⟩;replace h:=h.H6 a;exact ga (Wg h m4) λa2 b w h=>U0 h 3 O O (N1 (zu h) λw h=>BR.s9 Zb9 (U0 h 3 O O (WR.W (ga (Wg h m4) λa3 E4 w h=>A4.Pk (Ca.of (w9:=1) kn O O O O O O) h 1 O O O (h.Ew 0 O) m4 (λ_ _=>rfl) λa4 d w h=>⟨_,_,rfl,h.q 5 [1] O⟩))))
  ·by_cases J:Ci r.W0=true
   ·obtain⟨f,K,nY,hf3⟩:=ny r;have hso:=Zd r.old;have Q:=Zd r.new;have o:P8 r=some (U5 u 3++r.key.bytes++[f.setWidth 8]++F4 r.old++F4 r.new):=by unfold P8;rw[H,V0 Zb4];simp only[m,Option.getD_some];rw[V0 L,S1 J];simp only[K,Option.getD_some]
    have N:∀z:Int,max z 0=if 0>z then 0 else z:=by intro z;split<;>omega
    rw[N,N]at K;rw[o];refine R2 func252 O (I2 h O λb1 w h=>O4 h 0 O O (N1 (QF h) λw h=>BR.not (BR.s9 Zb9 (Bs h (qs [1,4,2,3,5] (.w2 0 (vs [6,7] (qs [8,9,10,11,12] .done)) 6 (vs [0,7] (qs [8,9,10,11,12] .done)))) λh=>U3 0 O O (i5 (U3 0 O O ⟨?_,?_⟩))))))
    ·refine He (Bw h) λa1 w h=>⟨h.q 2 [1] O,I2 h O λb2 w h=>?_⟩;replace h:=h.g [1] O;refine N1 (yu (wl:=[3,21]) (vl:=[r.W0-1,r.tx]) (h.Z4 0 O) (h.Ib [r.W0-1,r.tx] 1 O O O) Zb4 O Zb4 Zb4 m) λw a=>?_;replace h:=h.H6 a;refine ga (Wg h m4) λa2 b w h=>U0 h 3 O O (N1 (zu h) λw h=>BR.no Zb1 (U0 h 3 O O (N1 (KA h) λw h=>BR.s9 J (Y6 h [0,3,1,4,52,105,6,7] λh=>xg 3 O O (xg 3 O O (ga (ZL h) λa3 E4 w h=>⟨h.q 5 [1,2,3,4] O,?_⟩))))));refine ga (ZL h) λa4 d w h=>Y6 h [1,2,5,6,9,13,3,7,10,11,12,14,15,16,50,54,58,117,118,19,20,21,22,23] λh=>U3 5 O O (U3 5 O O (i5 (i5 (He (qR h) λa5 w h=>⟨h.q 7 [1,2,3,4,5,6] O,N1 (YL h) λw h=>⟨h.q 7 [1,2,3,4,5,6] O,N1 (YL h) λw h=>⟨h.q 7 [1,2,3,4,5,6] O,?_⟩⟩⟩))));refine I2 h O λY w h=>N1 (yu (wl:=[1,1,3,3]) (vl:=[Mk r.old.K3,Mk r.new.K3,if 0>((F4 r.old).length:Int)-1 then 0 else((F4 r.old).length:Int)-1,if 0>((F4 r.new).length:Int)-1 then 0 else((F4 r.new).length:Int)-1]) (h.Z4 1 O) (h.Ib _ 0 O O O) Zb3 O Zb4 Zb4 K) λw a=>?_;replace h:=h.H6 a;refine RD.ll kn O O (WR.toB (I2 h O λl w h=>I2 h O λb5 w h=>?_));have F:Sy [⟨a2,b,U5 u (3:Int).toNat⟩,⟨some ⟨b1,3,none⟩,4,r.key.bytes⟩,⟨some ⟨l,0,none⟩,1,[f.setWidth 8]⟩,⟨a3,E4,F4 r.old⟩,⟨a4,d,F4 r.new⟩]=U5 u 3++r.key.bytes++[f.setWidth 8]++F4 r.old++F4 r.new:=by simp only[Sy,List.flatMap_cons,List.flatMap_nil,List.append_nil,List.append_assoc];rfl
     have y:=h.Z4 6 O;have x:Sx eB w (some ⟨b1,3,none⟩) 4 4 r.key.bytes:=h.UQ (E:=eB) r.key.bytes 9 O O (by
      intro i v j;rcases i with _|_|_|_|i
      ·exact j
      ·exact j
      ·exact j
      ·exact j
      ·cases i<;>cases j)
     have t:Sx eB w (some ⟨l,0,none⟩) 1 1 [f.setWidth 8]:=h.Ib (E:=eB) [f.setWidth 8] 1 O O O;have s:=h.Z4 5 O;have p:=h.Z4 4 O;have D:=ajY y x t s p;have C:=aae (RI:=U5 u (3:Int).toNat) (a1:=a2) (c1:=b) (a2:=some ⟨b1,3,none⟩) (c2:=4) (a3:=some ⟨l,0,none⟩) (c3:=1) (a4:=a3) (c4:=E4) (a5:=a4) (c5:=d) (yq T) (show r.key.bytes.length<=16 from by show 4<=16;omega) (show[f.setWidth 8].length<=16 from by simp) hso Q;have A:Sx Nm w (some ⟨b5,0,none⟩) 5 5 [⟨a2,b,U5 u (3:Int).toNat⟩,⟨some ⟨b1,3,none⟩,4,r.key.bytes⟩,⟨some ⟨l,0,none⟩,1,[f.setWidth 8]⟩,⟨a3,E4,F4 r.old⟩,⟨a4,d,F4 r.new⟩]:=h.Ib (E:=Nm) [⟨a2,b,U5 u (3:Int).toNat⟩,⟨some ⟨b1,3,none⟩,4,r.key.bytes⟩,⟨some ⟨l,0,none⟩,1,[f.setWidth 8]⟩,⟨a3,E4,F4 r.old⟩,⟨a4,d,F4 r.new⟩] 0 O O O;have G:=cE A D m4 C F;clear y x t s p D C A F;refine xb G ?_;clear G;rintro _ w ⟨Z,PK,rfl,a⟩;replace h:=h.H6 a;exact⟨_,_,rfl,h.q 11 [0] O⟩
    ·refine I2 h O λb2 w h=>⟨h.q 2 [1] O,He (Bw h) λa1 w h=>N1 (yu (wl:=[3,21]) (vl:=[r.W0-1,r.tx]) (h.Z4 0 O) (h.Ib [r.W0-1,r.tx] 1 O O O) Zb4 O Zb4 Zb4 m) λw a=>?_⟩;replace h:=h.H6 a;refine ga (Wg h m4) λa2 b w h=>U0 h 3 O O (N1 (zu h) λw h=>BR.no Zb1 (U0 h 3 O O (N1 (KA h) λw h=>BR.s9 J (Y6 h [0,3,1,4,52,105,6,7] λh=>xg 3 O O (xg 3 O O (ga (ZL h) λa3 E4 w h=>⟨h.q 5 [1,2,3,4] O,?_⟩))))));refine ga (ZL h) λa4 d w h=>Y6 h [1,2,5,6,9,13,3,7,10,11,12,14,15,16,50,54,58,117,118,19,20,21,22,23] λh=>U3 5 O O (U3 5 O O (i5 (i5 (He (qR h) λa5 w h=>⟨h.q 7 [1,2,3,4,5,6] O,N1 (YL h) λw h=>⟨h.q 7 [1,2,3,4,5,6] O,N1 (YL h) λw h=>⟨h.q 7 [1,2,3,4,5,6] O,?_⟩⟩⟩))));refine I2 h O λY w h=>N1 (yu (wl:=[1,1,3,3]) (vl:=[Mk r.old.K3,Mk r.new.K3,if 0>((F4 r.old).length:Int)-1 then 0 else((F4 r.old).length:Int)-1,if 0>((F4 r.new).length:Int)-1 then 0 else((F4 r.new).length:Int)-1]) (h.Z4 1 O) (h.Ib _ 0 O O O) Zb3 O Zb4 Zb4 K) λw a=>?_;replace h:=h.H6 a;refine RD.ll kn O O (WR.toB (I2 h O λl w h=>I2 h O λb5 w h=>?_));have F:Sy [⟨a2,b,U5 u (3:Int).toNat⟩,⟨some ⟨b1,3,none⟩,4,r.key.bytes⟩,⟨some ⟨l,0,none⟩,1,[f.setWidth 8]⟩,⟨a3,E4,F4 r.old⟩,⟨a4,d,F4 r.new⟩]=U5 u 3++r.key.bytes++[f.setWidth 8]++F4 r.old++F4 r.new:=by simp only[Sy,List.flatMap_cons,List.flatMap_nil,List.append_nil,List.append_assoc];rfl
     have y:=h.Z4 6 O;have x:Sx eB w (some ⟨b1,3,none⟩) 4 4 r.key.bytes:=h.UQ (E:=eB) r.key.bytes 9 O O (by
      intro i v j;rcases i with _|_|_|_|i
      ·exact j
      ·exact j
      ·exact j
      ·exact j
      ·cases i<;>cases j)
     have t:Sx eB w (some ⟨l,0,none⟩) 1 1 [f.setWidth 8]:=h.Ib (E:=eB) [f.setWidth 8] 1 O O O;have s:=h.Z4 5 O;have p:=h.Z4 4 O;have D:=ajY y x t s p;have C:=aae (RI:=U5 u (3:Int).toNat) (a1:=a2) (c1:=b) (a2:=some ⟨b1,3,none⟩) (c2:=4) (a3:=some ⟨l,0,none⟩) (c3:=1) (a4:=a3) (c4:=E4) (a5:=a4) (c5:=d) (yq T) (show r.key.bytes.length<=16 from by show 4<=16;omega) (show[f.setWidth 8].length<=16 from by simp) hso Q;have A:Sx Nm w (some ⟨b5,0,none⟩) 5 5 [⟨a2,b,U5 u (3:Int).toNat⟩,⟨some ⟨b1,3,none⟩,4,r.key.bytes⟩,⟨some ⟨l,0,none⟩,1,[f.setWidth 8]⟩,⟨a3,E4,F4 r.old⟩,⟨a4,d,F4 r.new⟩]:=h.Ib (E:=Nm) [⟨a2,b,U5 u (3:Int).toNat⟩,⟨some ⟨b1,3,none⟩,4,r.key.bytes⟩,⟨some ⟨l,0,none⟩,1,[f.setWidth 8]⟩,⟨a3,E4,F4 r.old⟩,⟨a4,d,F4 r.new⟩] 0 O O O;have G:=cE A D m4 C F;clear y x t s p D C A F;refine xb G ?_;clear G;rintro _ w ⟨Z,PK,rfl,a⟩;replace h:=h.H6 a;exact⟨_,_,rfl,h.q 11 [0] O⟩
   ·have o:P8 r=some (U5 u 3):=by
     unfold P8;rw[H,V0 Zb4];simp only[m,Option.getD_some];rw[V0 L,V0 J]
    rw[o];refine R2 func252 O (I2 h O λb1 w h=>O4 h 0 O O (N1 (QF h) λw h=>BR.not (BR.s9 Zb9 (Bs h (qs [1,4,2,3,5] (.w2 0 (vs [6,7] (qs [8,9,10,11,12] .done)) 6 (vs [0,7] (qs [8,9,10,11,12] .done)))) λh=>U3 0 O O (i5 (U3 0 O O ⟨?_,?_⟩))))))
    ·refine He (Bw h) λa1 w h=>⟨h.q 2 [1] O,I2 h O λb2 w h=>?_⟩;replace h:=h.g [1] O;refine N1 (yu (wl:=[3,21]) (vl:=[r.W0-1,r.tx]) (h.Z4 0 O) (h.Ib [r.W0-1,r.tx] 1 O O O) Zb4 O Zb4 Zb4 m) λw a=>?_;replace h:=h.H6 a;exact ga (Wg h m4) λa2 b w h=>U0 h 3 O O (N1 (zu h) λw h=>BR.no Zb1 (U0 h 3 O O (N1 (KA h) λw h=>BR.no Zb1 ⟨_,_,rfl,h.q 4 [0] O⟩)))
    ·refine I2 h O λb2 w h=>⟨h.q 2 [1] O,He (Bw h) λa1 w h=>N1 (yu (wl:=[3,21]) (vl:=[r.W0-1,r.tx]) (h.Z4 0 O) (h.Ib [r.W0-1,r.tx] 1 O O O) Zb4 O Zb4 Zb4 m) λw a=>?_⟩;replace h:=h.H6 a;exact ga (Wg h m4) λa2 b w h=>U0 h 3 O O (N1 (zu h) λw h=>BR.no Zb1 (U0 h 3 O O (N1 (KA h) λw h=>BR.no Zb1 ⟨_,_,rfl,h.q 4 [0] O⟩)))
 ·have o:P8 r=none:=by unfold P8;rw[S1 Zb6]
  rw[o];refine R2 func252 O ?_;replace h:=h.G4 5 eB;exact I2 h O λb1 w h=>O4 h 0 O O (N1 (QF h) λw h=>BR.not (BR.no Zb6 ⟨_,_,rfl,h.q 2 [1] O⟩))
end
end Go.Proofs.YtaaihojmcfaejaaGreatDoor
