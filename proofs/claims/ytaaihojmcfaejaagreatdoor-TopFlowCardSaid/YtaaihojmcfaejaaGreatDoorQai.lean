/- Lemmas for the tops: the walk of the house and its laws. No condition is added. -/
import Derived.Test.YtaaihojmcfaejaaGreatDoorQag
import Derived.Test.YtaaihojmcfaejaaGreatDoorQah
import Derived.Test.YtaaihojmcfaejaaGreatDoorQaf
set_option linter.all false
namespace Go.Proofs.YtaaihojmcfaejaaGreatDoor
open Go Go.RowKit Tryz
variable{hi lo mid x:Int}{L R:List HP}{post pre:List Int}{lb:List Value}{b cap g n o p:Nat}{a:Option Addr}{α:Type}{e:TypeId}{K:Value->Prop}{c w:World}{l xs:List α}{y:α}{r:α->Int}
theorem aaI{P:Prop}(h:P:=by refine zL h 0 O ‹_› ‹_› ⟨Hp.Ab h,zL h 0 O ‹_› ‹_› ⟨Hp.Ab h,Yt h 0 O λb5 o5 iA=>ST.qf (y:=y) h 0 O ‹_› aF O O O O O λw h=>Jc.bW h 0 O (by omega) (by grind) λb6 o6 ha6=>ST.qf (y:=x) h 0 O ‹_› aee O O O O O λw h=>?_⟩⟩;rw[hsw]at h;refine i5 ?_;rw[N']at h;exact⟨p'.length,by omega,j-1,p',y::q,rfl,⟨by omega,rfl,QZ.step (hz.mp g2),by grind⟩,h⟩):P:=h
section
variable{S:World->Prop}
theorem ZLi{xs:List Int}(h:Hp c w L)(j:Nat)(g:i3 L j=some (so e O5 a cap xs))(i:a=some ⟨b,o,none⟩)(d:i3 xs n=some x)(f:K (I x)):LD (λw'=>w'=w) ⟨b,o+n*O5.sz,none⟩ K:=LD.qf h j g i d O f
theorem ZCi{xs:List Int}(i:∀w,S w->Hp c w L)(j:Nat)(g:i3 L j=some (so e O5 a cap xs))(h:a=some ⟨b,o,none⟩)(d:i3 xs n=some x)(f:K (I x)):LD S ⟨b,o+n*O5.sz,none⟩ K:=LD.Km i j g h d O f
theorem ZLp{xs:List E2}{x:E2}(h:Hp c w L)(j:Nat)(i:i3 L j=some (so e F2 a cap xs))(k:a=some ⟨b,o,none⟩)(d:i3 xs n=some x)(g:K (.agg (F2.f x).toArray)):Oa (λw'=>w'=w) ⟨b,o+n*F2.sz,none⟩ F2.sz K:=Oa.sl h j i k d g
theorem ZCp{xs:List E2}{x:E2}(k:∀w,S w->Hp c w L)(j:Nat)(h:i3 L j=some (so e F2 a cap xs))(i:a=some ⟨b,o,none⟩)(d:i3 xs n=some x)(g:K (.agg (F2.f x).toArray)):Oa S ⟨b,o+n*F2.sz,none⟩ F2.sz K:=Oa.EI k j h i d g
end
section
structure Ks{α:Type}(g:Nat)(lb:List Value)(V:α->Value)(r:α->Int)(c:World)(R:List HP):Prop where
 hX:Ck g=true
 run:∀(x y:α)(w:World)(M:HP),Hp c w (M::R)->Cs g (V x::V y::lb).toArray w (λe w'=>∃z,e= .returned (I z)∧(z<0↔r x<r y)∧Hp c w' (M::R))
theorem qc(u v:List α)(x:α):i3 (u++x::v) u.length=some x:=by rw[Z0];simp
theorem Hp.Ab{E:Qb α}(h:Hp c w (so e E a cap l::L)):Hp c w ((sf λ(l:List α)=>so e E a cap l)::L):=Hp.R8 (f:=λ(l:List α)=>so e E a cap l) l h
theorem ES{mid d p q V5:List α}{x:α}(b:F7 r mid (d++x::V5))(hs:Ep r (d++[x]) p x q)(a:∀z,p.getLast?=some z->r z<=r x):F7 r mid ((p++x::q)++V5)∧I6 r (p++x::q):=by refine⟨b.trans ?_,hs.done a⟩;have:=hs.akM.jI (F7.refl V5);simp_all
theorem abX{P:Prop}(h:P:=by
 have hN:n=pre.length+(mid.length+post.length):=by rw[hn];simp
 refine R2 z0 O (i5 (p5.A6 kn [0,1,2,3,8] (λm vs w'=>∃(i:Int)(k:Nat)(d V5:List _),vs=[.slice a n cap,I lo,I hi,.func (.func g) #[] lb.toArray,I i]∧(i=lo+1+k∧F7 r mid (d++V5)∧I6 r d∧d.length=min (k+1) mid.length∧d.length+V5.length=mid.length∧k+m=mid.length)∧Hp c w' (Zo (pre++(d++(V5++post)))::R)) mid.length ⟨lo+1,0,mid.take 1,mid.drop 1,rfl,⟨Zb3,by rw[Vd];exact F7.refl _,by cases mid with|nil=>exact List.Pairwise.nil|cons y l=>exact List.pairwise_singleton _ _,Zb3,Zb5,m4⟩,by grind[List.take_append_drop]⟩ ?_));rintro m _ w1 e0 ⟨i,k,d,V5,rfl,⟨hik,A7,RZ,Wx,DB,hkm⟩,h⟩;refine BR.T5 (λg1=>?_) λg1=>?_
 ·obtain⟨x,Jh,rfl⟩:∃x Jh,V5=x::Jh:=by
   cases V5 with
   |nil=>grind
   |cons x l=>simp
  have mP:d.length=k+1:=by rw[Wx];omega
  refine p5.A6 kn [0,1,2,3,8,9] (λm2 vs w'=>∃(j:Int)(p q:List _),vs=[.slice a n cap,I lo,I hi,.func (.func g) #[] lb.toArray,I i,I j]∧(j=lo+p.length∧p.length=m2∧Ep r (d++[x]) p x q∧p.length+q.length=d.length)∧Hp c w' (Zo (pre++(p++x::(q++(Jh++post))))::R)) d.length ⟨i,d,[],rfl,⟨m4,rfl,Ep.start RZ,Zb3⟩,h⟩ ?_;rintro m2 _ w2 e2 ⟨j,p,q,rfl,⟨hj,hp,QZ,AV⟩,h⟩;have TP:Jh.length+d.length+1=mid.length:=by simp at DB;omega
  rcases EE p with rfl|⟨p',y,rfl⟩
  ·refine Y6 h [0,1,2,3,4,5,6,7,9,10,11,12,8,63,114,15,16] λh=>BR.T5 (λg2=>?_) λg2=>?_
   ·exfalso;grind
   ·refine⟨h,m5 (i5 ?_)⟩;have aF:=ES A7 QZ (λz hz=>by simp at hz);refine⟨m-1,m4,i+1,k+1,[]++x::q,Jh,rfl,⟨m4,aF.1,aF.2,?_,?_,m4⟩,?_⟩
    ·grind
    ·grind
    ·exact h
  ·rw[List.concat_eq_append]at QZ hj hp AV h;have Mm:(p'++[y]).length=p'.length+1:=Zb3
   have Rl:pre++(p'++[y]++x::(q++(Jh++post)))=(pre++p')++y::x::(q++(Jh++post)):=Zb3
   rw[Rl]at h;have qp:((pre++p')++y::x::(q++(Jh++post))).length=n:=by rw[hN];simp;omega
   have dP:i3 ((pre++p')++y::x::(q++(Jh++post))) (j-1).toNat=some y:=by
    have e:(j-1).toNat=(pre++p').length:=Zb5
    rw[e];exact qc _ _ _
   have aF:i3 ((pre++p')++y::x::(q++(Jh++post))) j.toNat=some x:=by
    have e:j.toNat=((pre++p')++[y]).length:=Zb5
    have e2:(pre++p')++y::x::(q++(Jh++post))=((pre++p')++[y])++x::(q++(Jh++post)):=Zb3
    rw[e,e2];exact qc _ _ _
   have hju:j.toNat=(pre++p').length+1:=Zb5
   have amh:(j-1).toNat=(pre++p').length:=Zb5
   have aee:i3 ((pre++p'++y::x::(q++(Jh++post))).set j.toNat y) (j-1).toNat=some y:=by rw[Z0]at dP⊢;rw[QE m4];exact dP
   have hsw:((pre++p'++y::x::(q++(Jh++post))).set j.toNat y).set (j-1).toNat x=pre++p'++x::y::(q++(Jh++post)):=by rw[hju,amh];exact SQ _ _ _ _
   refine Y6 h [0,1,2,3,4,5,6,7,9,10,11,12,8,63,114,15,16] λh=>Zt (Yt h 0 O λb1 o1 U9=>i5 (Yt h 0 O λb2 o2 Lj=>zC (λ_ h=>h) 0 O Zb9 aF (zL h 0 O Zb9 dP ⟨h,od.by hf.hX (hf.run x y _ _ h) ?_⟩)));rintro _ w ⟨z,rfl,hz,h⟩;refine BR.T5 (λg2=>?_) λg2=>?_
   ·refine ja.D0 kn o8 (λw'=>Hp c w' ((sf λ(l:List _)=>Zo l)::R)) (qs [0,1,2,3,4,5,6,7,8,10,11,12] (.w2 9 (ws [13] (qs [14] (vs [15] (qs [16] (vs [17] .done))))) 13 (ws [9] (qs [14] (vs [15] (qs [16] (vs [17] .done))))))) Zb2 (Hp.Ab h).drew ?_;replace h:=h.drew;refine i5 (i5 (Yt h 0 O λb3 o3 lh=>Yt h 0 O λb4 o4 jX=>⟨?_,?_⟩))
    ·exact aaI
    ·exact aaI
   ·refine i5 ?_;have aF:=ES A7 QZ (λu hu=>Zb1);refine⟨m-1,m4,i+1,k+1,(p'++[y])++x::q,Jh,rfl,⟨m4,aF.1,aF.2,?_,?_,m4⟩,?_⟩
    ·grind
    ·grind
    grind
 ·obtain rfl:V5=[]:=List.length_eq_zero_iff.mp m4;rw[Jb]at A7;refine⟨rfl,_,?_,?_,?_,h⟩
  ·assumption
  ·assumption
  ·assumption):P:=h
set_option maxHeartbeats 1000000 in
theorem aie{r:Int->Int}{mid:List Int}(h:Hp c w (so 3 O5 a cap (pre++(mid++post))::R))(hf:Ks g lb I r c R)(hn:n=(pre++(mid++post)).length)(s:lo=pre.length)(o:hi=pre.length+mid.length)(f:n<=1000000000):Cs 112 #[.slice a n cap,I lo,I hi,.func (.func g) #[] lb.toArray] w (λe w'=>e= .returned (.tuple #[])∧∃b,b.length=mid.length∧F7 r mid b∧I6 r b∧Hp c w' (so 3 O5 a cap (pre++(b++post))::R)):=by let Zo:List Int->HP:=λl=>so 3 O5 a cap l;have z0:=func112;have zL:=@ZLi;have zC:=@ZCi;exact abX
end
theorem abQ{P:Prop}(h:P:=by exact Oa.sl h 0 O ‹_› ‹_› ⟨Hp.Ab h,Oa.sl h 0 O ‹_› ‹_› ⟨Hp.Ab h,Yt h 0 O λb5 o5 iA=>ST.qf (y:=y) h 0 O ‹_› hx O O O O O λw h=>Jc.bW h 0 O (by omega) (by simp) λb6 o6 ha6=>ST.qf (y:=x) h 0 O ‹_› WG O O O O O λw h=>i5 (i5 ⟨m-2,by omega,i+1,j-1,_,rfl,by omega,by grind,h⟩)⟩⟩):P:=h
section
def Is(xs:List α)(i:Nat)(ys:List α):Prop:=ys.length=xs.length∧∀k,k<xs.length->ys[k]?=if k<i∨xs.length<=k+i then xs.reverse[k]? else xs[k]?
theorem Is.start(xs:List α):Is xs 0 xs:=⟨rfl,λk a=>Zb1⟩
theorem Is.step{ys:List α}{i j:Nat}{x:α}(h:Is xs i ys)(g:i<j)(e:i+j+1=xs.length)(b:i3 ys i=some x)(a:i3 ys j=some y):Is xs (i+1) ((ys.set i y).set j x):=by obtain⟨c,f⟩:=h;rw[Z0]at b a;refine⟨by simp[c],λk d=>?_⟩;grind
theorem Is.done{ys:List α}{i:Nat}(h:Is xs i ys)(hi:xs.length<=2*i+1):ys=xs.reverse:=by obtain⟨b,a⟩:=h;apply tv;grind
theorem PH{c:Type}[DecidableEq c](f:α->c)(l:List α):∀(n:Nat)(x y:α),l.length<=n->D6 (λa b=>decide (f a=f b)) (l++[x]++[y])=if f x=f y then D6 (λa b=>decide (f a=f b)) (l++[x])else D6 (λa b=>decide (f a=f b)) (l++[x])++[y]:=by
 intro n;induction n generalizing l with
 |zero=>simp_all[cB1,cB2]
 |succ n d=>
  intro x y e
  match l with
  |[]=>grind
  |[a]=>grind[cB1,cB2]
  |a::b::l=>simp only[List.cons_append,cB2];grind
theorem zF{m:Nat}{x:α}(b:i3 xs (m-1)=some x)(a:i3 xs m=some y)(c:1<=m):xs.take (m+1)=xs.take (m-1)++[x]++[y]∧xs.take m=xs.take (m-1)++[x]:=by rw[Z0]at b a;have e:=yL (l:=xs) (i:=m);have d:=yL (l:=xs) (i:=m-1);simp_all
theorem Wh{c:Type}[DecidableEq c](f:α->c){m:Nat}{x:α}(g:1<=m)(e:i3 xs (m-1)=some x)(d:i3 xs m=some y):D6 (λa b=>decide (f a=f b)) (xs.take (m+1))=if f y=f x then D6 (λa b=>decide (f a=f b)) (xs.take m)else D6 (λa b=>decide (f a=f b)) (xs.take m)++[y]:=by obtain⟨i,h⟩:=zF e d g;rw[i,h,PH f _ _ x y (V7 _)];grind
theorem Ig{eq:α->α->Bool}:∀(n:Nat)(l:List α),l.length<=n->(D6 eq l).length<=l.length
 |0,l,h=>by simp_all[D6]
 |n+1,[],h=>by simp[D6]
 |n+1,[x],h=>by simp[cB1]
 |n+1,x::y::l,h=>by
  rw[cB2];split
  ·have:=Ig (eq:=eq) n (x::l) Zb7;grind
  ·have:=Ig (eq:=eq) n (y::l) Zb7;simp_all
end
section
theorem agX{xs:List E2}(h:Hp c w (so 157 F2 a cap xs::R))(o:xs.length<=1000000000):Cr 254 #[.slice a xs.length cap] w c (.tuple #[]) (so 157 F2 a cap xs.reverse::R):=by
 refine R2 func254 O (i5 (p5.A6 kn [0,2,3] (λm vs w'=>∃(i j:Int)(ys:List E2),vs=[.slice a xs.length cap,I i,I j]∧(0<=i∧i+j+1=xs.length∧m=(j+1-i).toNat∧-1<=j)∧Is xs i.toNat ys∧Hp c w' (so 157 F2 a cap ys::R)) xs.length ⟨0,(xs.length:Int)-1,xs,rfl,m4,Is.start xs,h⟩ ?_));rintro m _ w1 p ⟨i,j,ys,rfl,s,hys,h⟩;have d:=hys.1;rw[<-d];refine BR.T5 (λe=>?_) λe=>?_
 ·obtain⟨x,hx⟩:∃x,i3 ys i.toNat=some x:=⟨ys[i.toNat],by rw[Z0,d8]⟩;obtain⟨y,b⟩:∃y,i3 ys j.toNat=some y:=⟨ys[j.toNat],by rw[Z0,d8]⟩;have t:=hys.step (i:=i.toNat) (j:=j.toNat) m4 m4 hx b;have WG:i3 (ys.set i.toNat y) j.toNat=some y:=by rw[Z0]at b⊢;rw[wL,V0 m4];exact b
  refine ja.D0 kn o8 (λw'=>Hp c w' ((sf λ(l:List E2)=>so 157 F2 a cap l)::R)) (qs [0,1,2,3,4,5,6,8,9,10] (.w2 7 (ws [11] (qs [12] (vs [13] (qs [14] (vs [15] .done))))) 11 (ws [7] (qs [12] (vs [13] (qs [14] (vs [15] .done))))))) Zb2 (Hp.Ab h).drew ?_;replace h:=h.drew;refine Yt h 0 O λr g k=>Yt h 0 O λq f n=>⟨?_,?_⟩
  ·exact abQ
  ·exact abQ
 ·rw[hys.done m4]at h;exact⟨rfl,h⟩
theorem QY{x y:E2}(h:Hp c w R):Cr 257 #[x.v,y.v] w c (.bool (decide (x.key=y.key))) R:=by obtain⟨⟨a1,a2,a3,a4⟩,u⟩:=x;obtain⟨⟨b1,b2,b,a⟩,v⟩:=y;refine R2 func257 O (I2 h O λb1 w h=>I2 h O λb2 w h=>O4 h 1 O O (O4 h 0 O O (RD.eqa Zb2 Zb2 O O ⟨A8 O ?_,h.q 2 [] O⟩)));simp[sg,eqD,Int.ofNat_inj,BitVec.toNat_inj]
theorem Jc.drp{E:Qb α}{l:Nat}{i:Int}(h:Hp c w L)(j:Nat)(d:i3 L j=some (so e E a cap xs))(hi:0<=i∧i<n)(m:l+n<=xs.length)
 (k:∀b o,a=some ⟨b,o,none⟩->K (.pointer (some ⟨b,o+(l+i.toNat)*E.sz,none⟩))):Jc (if cap=l then a else a.map (·.add (l*E.sz))) n i E.sz K:=by
 have g:xs≠[]:=λe=>Zb1
 obtain⟨b,o,pre,post,f,_,_⟩:=h.El d g;obtain⟨p,_⟩:=h.Ch j d;rw[V0 m4,f,Es,i9];refine⟨⟨b,o+l*E.sz,none⟩,rfl,hi.1,hi.2,?_⟩;simp_all[i9,Nat.add_mul,Nat.add_assoc]
def bd(l:List E2):List E2:=D6 (λa b=>decide (a.key=b.key)) l
theorem Ty(l:List E2)(h:l.length<2):bd l=l:=by
 match l,h with
 |[],_=>simp[bd,D6]
 |[x],_=>simp[bd,cB1]
theorem agV{xs:List E2}(h:Hp c w (so 157 F2 a cap xs::R))(hb:xs.length<=1000000000):Cr 256 #[.slice a xs.length cap,.func (.func 257) #[] #[]] w c (.slice a (bd xs).length cap) (so 157 F2 a cap (bd xs)::R):=by
 refine R2 func256 O (BR.T5 (λg1=>?_) λg1=>?_)
 ·rw[Ty xs m4];exact⟨rfl,h⟩
 obtain⟨Q,SD⟩:=h.Ch 0 rfl;refine p5.A6 kn [0,1,5] (λm vs w'=>∃(k:Int),vs=[.slice a xs.length cap,.func (.func 257) #[] #[],I k]∧(1<=k∧k<=xs.length∧m=(xs.length-k).toNat)∧bd (xs.take k.toNat)=xs.take k.toNat∧Hp c w' (so 157 F2 a cap xs::R)) (xs.length-1) ⟨1,rfl,m4,Ty _ Zb5,h⟩ ?_;rintro m _ w1 e0 ⟨k,rfl,hk,hck,h⟩;refine BR.T5 (λg2=>?_) λg2=>?_
 ·obtain⟨x,H⟩:∃x,i3 xs (k.toNat-1)=some x:=⟨xs[k.toNat-1],by rw[Z0,d8]⟩;obtain⟨y,F⟩:∃y,i3 xs k.toNat=some y:=⟨xs[k.toNat],by rw[Z0,d8]⟩;have s:=Wh (λ(p:E2)=>p.key) m4 H F;have S:i3 xs (k-1).toNat=some x:=by rw[show(k-1).toNat=k.toNat-1 by omega];exact H
  refine Y6 h [0,1,2,3,5,6,7,8,4,59,110] λh=>jd h 0 O λb1 V L=>i5 (jd h 0 O λb2 T N=>Oa.EI (E:=F2) (λ_ h=>h) 0 O Zb9 F (Oa.sl h 0 O Zb9 S ⟨h,N1 (QY h) λw h=>BR.T5 (λr=>?_) λr=>?_⟩))
  ·rw[S1 r]at s;refine RD.cut (l:=k.toNat) kn O O (Xr m4) O m4 ?_;have hCl:(bd (xs.take k.toNat)).length=k.toNat:=by rw[hck,Ga];omega
   refine p5.A6 kn [0,1,5,6,7] (λm vs w'=>∃(q b:Int)(G:List E2),vs=[.slice a xs.length cap,.func (.func 257) #[] #[],I q,.slice (if cap=k.toNat then a else a.map (·.add (k.toNat*F2.sz))) (xs.length-k.toNat) (cap-k.toNat),I b]∧(1<=b∧k+b<=xs.length∧m=(xs.length-k-b).toNat∧q=(bd (xs.take (k+b).toNat)).length∧q+G.length+1=k+b)∧Hp c w' (so 157 F2 a cap (bd (xs.take (k+b).toNat)++G++xs.drop ((k+b).toNat-1))::R)) (xs.length-k-1).toNat ⟨k,1,[],rfl,⟨m4,m4,m4,?_,?_⟩,?_⟩ ?_
   ·grind[bd]
   ·simp
   ·rw[show(k+1).toNat=k.toNat+1 by omega];have e:bd (xs.take (k.toNat+1))=xs.take k.toNat:=s.trans hck;simp_all
   ·rintro t _ w2 e2 ⟨q,b,G,rfl,hq,h⟩;obtain⟨C,d⟩:∃C,bd (xs.take (k+b).toNat)=C:=⟨_,rfl⟩;obtain⟨M,i⟩:∃M,(k+b).toNat=M:=⟨_,rfl⟩;rw[d,i]at h;rw[d]at hq;refine BR.T5 (λg4=>?_) λg4=>?_
    ·have hMl:M<xs.length:=m4
     obtain⟨u,K⟩:∃u,i3 xs (M-1)=some u:=⟨xs[M-1],by rw[Z0,d8]⟩;obtain⟨v,J⟩:∃v,i3 xs M=some v:=⟨xs[M],by rw[Z0,d8]⟩;have j:=Wh (λ(p:E2)=>p.key) m4 K J;have f:=ud xs (M-1) u K;rw[show M-1+1=M by omega]at f;have eA:=ud xs M v J;have r7:(C++G++xs.drop (M-1)).length=xs.length:=Zb5
     have AB:(C++G).length=M-1:=Zb5
     have hnu:i3 (C++G++xs.drop (M-1)) (k.toNat+(b-1).toNat)=some u:=by rw[f,show k.toNat+(b-1).toNat=(C++G).length by omega];exact qc _ _ _
     have A:i3 (C++G++xs.drop (M-1)) (k.toNat+b.toNat)=some v:=by rw[f,eA,show C++G++u::v::xs.drop (M+1)=(C++G++[u])++v::xs.drop (M+1) by simp,show k.toNat+b.toNat=(C++G++[u]).length by simp;omega];exact qc _ _ _
     refine Y6 h [0,1,2,3,5,6,7,8,4,59,110,11] λh=>Jc.drp h 0 O m4 m4 λb1 V L=>i5 (Jc.drp h 0 O m4 m4 λb2 T N=>Oa.EI (E:=F2) (λ_ h=>h) 0 O L A (Oa.sl h 0 O N hnu ⟨h,N1 (QY h) λw h=>?_⟩));have eM:(k+(b+1)).toNat=M+1:=m4
     refine BR.not (BR.T5 (λo=>?_) λo=>?_)
     ·rw[S1 o]at j;have e5:bd (xs.take (M+1))=C:=j.trans (by rw[<-d,<-i];rfl);refine i5 ⟨t-1,m4,q,b+1,G++[u],rfl,?_,?_⟩
      ·grind
      simp_all
     ·rw[V0 o]at j;have e5:bd (xs.take (M+1))=C++[v]:=j.trans (by rw[<-d,<-i];rfl);refine Jc.drp h 0 O m4 m4 λb3 o3 X=>Oa.sl h 0 O X A ?_;obtain⟨z,Z,D⟩:∃z Z,G++[u]=z::Z:=by
       cases G with
       |nil=>simp
       |cons g G=>simp
      have YO:=V4 List.length D;simp at YO;have Rd:C++G++xs.drop (M-1)=C++z::(Z++xs.drop M):=by rw[f,show C++G++u::xs.drop M=C++(G++[u])++xs.drop M by simp,D];simp
      have hnz:i3 (C++G++xs.drop (M-1)) q.toNat=some z:=by rw[Rd,show q.toNat=C.length by omega];exact qc _ _ _
      refine Yt h 0 O λb4 o4 Y=>ST.qf (y:=v) h 0 O Y hnz O O O O O λw h=>i5 (i5 ⟨t-1,m4,q+1,b+1,Z,rfl,?_,?_⟩)
      ·grind
      simp_all
    ·have hMl:M=xs.length:=m4
     have hC2:bd xs=C:=by rw[<-d,i,hMl,jg]
     rw[hC2];have hql:q.toNat=C.length:=m4
     obtain⟨n,hn⟩:∃n,xs.length=n:=⟨_,rfl⟩;rw[hn]at Q⊢;replace h:=h.so_take 0 C.length O Zb3 O;rw[N',Bq]at h;exact RD.cut (l:=C.length) (m:=n) kn O O (show some q=some (C.length:Int) by congr 1;omega) O m4 (A4.FX (Ca.of kn O O O O O O) O h 0 O O m4 λw h=>RD.Vh (m:=C.length) kn O O O (show some q=some (C.length:Int) by congr 1;omega) m4 ⟨rfl,h⟩)
  ·rw[V0 r]at s;refine i5 ⟨m-1,m4,k+1,rfl,m4,?_,h⟩;rw[show(k+1).toNat=k.toNat+1 by omega];simp_all[bd,List.take_add_one,Z0]
 ·have e:xs.take k.toNat=xs:=by rw[show k.toNat=xs.length by omega,jg]
  rw[e]at hck;rw[hck];exact⟨rfl,h⟩
theorem agT{x:E2}(h:Hp c w R):Cr 259 #[x.v] w c (.bool (!x.val.K3)) R:=by exact R2 func259 O (I2 h O λb1 w h=>U0 h 0 O O ⟨rfl,h.q 1 [] O⟩)
end
theorem aaD{P:Prop}(h:P:=by
 refine zL h 0 O Zb9 Zb9 ⟨Hp.Ab h,zL h 0 O Zb9 Zb9 ⟨Hp.Ab h,Yt h 0 O λb5 o5 iA=>ST.qf (y:=y) h 0 O Zb9 aF O O O O O λw h=>Jc.bW h 0 O m4 Zb6 λb6 o6 ha6=>ST.qf (y:=x) h 0 O Zb9 aee O O O O O λw h=>?_⟩⟩;rw[hsw]at h;refine i5 ?_;have e9:pre++B1++y::(A3++(M++A1)++x::(B3++post))=pre++((B1++[y])++(A3++(M++((A1++[x])++(B3++post))))):=Zb3
 rw[e9]at h;exact⟨m-1,m4,i+1,A1++[x],A3,B1++[y],B3,rfl,⟨Zb5,by rw[hA];simp,by rw[hB];simp,Zb5,Zb5⟩,h⟩):P:=h
section
theorem RQ(u v t:List α)(x y:α):((u++x::(v++y::t)).set u.length y).set (u.length+(v.length+1)) x=u++y::(v++x::t):=Zb3
theorem abW{P:Prop}(h:P:=by
 have hN:n=pre.length+(A.length+(M.length+(B.length+post.length))):=by rw[hn];simp
 refine R2 z0 O (p5.A6 kn [0,1,2,3,4,10] (λm vs w'=>∃(i:Int)(A1 A2 B1 B2:List _),vs=[.slice a n cap,I lo,I hi,I k,fv,I i]∧(i=A1.length∧A=A1++A2∧B=B1++B2∧A1.length=B1.length∧A1.length+m=A.length)∧Hp c w' (Zo (pre++(B1++(A2++(M++(A1++(B2++post))))))::R)) A.length ⟨0,[],A,[],B,rfl,⟨rfl,rfl,rfl,rfl,Zb3⟩,h⟩ ?_);rintro m _ w1 e0 ⟨i,A1,A2,B1,B2,rfl,⟨Jz,hA,hB,hl,hm⟩,h⟩;have hlA:A.length=A1.length+A2.length:=by rw[hA,j7]
 have hlB:B.length=B1.length+B2.length:=by rw[hB,j7]
 refine BR.T5 (λg1=>?_) λg1=>?_
 ·obtain⟨x,A3,rfl⟩:∃x A3,A2=x::A3:=by
   cases A2 with
   |nil=>simp_all
   |cons x l=>simp
  obtain⟨y,B3,rfl⟩:∃y B3,B2=y::B3:=by
   cases B2 with
   |nil=>simp_all
   |cons x l=>simp
  have Rl:pre++(B1++(x::A3++(M++(A1++(y::B3++post)))))=(pre++B1)++x::((A3++(M++A1))++y::(B3++post)):=Zb3
  rw[Rl]at h;simp only[List.length_cons]at hlA hlB;have qp:((pre++B1)++x::((A3++(M++A1))++y::(B3++post))).length=n:=by rw[hN];simp;omega
  have hiu:(lo+i).toNat=(pre++B1).length:=Zb5
  have hiv:(hi+i).toNat=(pre++B1).length+((A3++(M++A1)).length+1):=Zb5
  have aF:i3 ((pre++B1)++x::((A3++(M++A1))++y::(B3++post))) (lo+i).toNat=some x:=by rw[hiu];exact qc _ _ _
  have dP:i3 ((pre++B1)++x::((A3++(M++A1))++y::(B3++post))) (hi+i).toNat=some y:=by
   have e2:(pre++B1)++x::((A3++(M++A1))++y::(B3++post))=((pre++B1)++x::(A3++(M++A1)))++y::(B3++post):=Zb3
   have e3:(hi+i).toNat=((pre++B1)++x::(A3++(M++A1))).length:=by rw[hiv];simp;omega
   rw[e2,e3];exact qc _ _ _
  have aee:i3 (((pre++B1)++x::((A3++(M++A1))++y::(B3++post))).set (lo+i).toNat y) (hi+i).toNat=some y:=by rw[Z0]at dP⊢;rw[QE m4];exact dP
  have hsw:(((pre++B1)++x::((A3++(M++A1))++y::(B3++post))).set (lo+i).toNat y).set (hi+i).toNat x=(pre++B1)++y::((A3++(M++A1))++x::(B3++post)):=by rw[hiu,hiv];exact RQ _ _ _ _ _
  refine ja.D0 kn o8 (λw'=>Hp c w' ((sf λ(l:List _)=>Zo l)::R)) (qs [0,1,2,3,4,5,6,7,8,9,10,11,12,14,15,16,17,18] (.w2 13 (ws [19] (qs [20] (vs [21] (qs [22] (vs [23] .done))))) 19 (ws [13] (qs [20] (vs [21] (qs [22] (vs [23] .done))))))) Zb2 (Hp.Ab h).drew ?_;replace h:=h.drew;refine i5 (i5 (i5 (Yt h 0 O λb3 o3 lh=>i5 (Yt h 0 O λb4 o4 jX=>⟨?_,?_⟩))))
  ·exact aaD
  ·exact aaD
 ·have IV:A2=[]:=List.length_eq_zero_iff.mp m4;have hB0:B2=[]:=List.length_eq_zero_iff.mp m4;subst IV hB0;rw[Jb]at hA hB;subst hA hB;exact⟨rfl,h⟩):P:=h
set_option maxHeartbeats 1000000 in
theorem ahk{A M B:List Int}{k:Int}{fv:Value}(h:Hp c w (so 3 O5 a cap (pre++(A++(M++(B++post))))::R))(hn:n=(pre++(A++(M++(B++post)))).length)(g:lo=pre.length)(f:hi=pre.length+A.length+M.length)(d:k=A.length)(hAB:A.length=B.length)(e:n<=1000000000):Cr 210 #[.slice a n cap,I lo,I hi,I k,fv] w c (.tuple #[]) (so 3 O5 a cap (pre++(B++(M++(A++post))))::R):=by let Zo:List Int->HP:=λl=>so 3 O5 a cap l;have z0:=func210;have zL:=@ZLi;have b:=@ZCi;exact abW
theorem abV{P:Prop}(h:P:=by
 have hN:n=pre.length+(X.length+(Y.length+post.length)):=by rw[hn];simp
 refine R2 z0 O (i5 (i5 (p5.A6 kn [0,2,4,10,11] (λm vs w'=>∃(i j:Int)(P X' Y' S:List _),vs=[.slice a n cap,I mid,fv,I i,I j]∧(i=X'.length∧j=Y'.length∧P++(Y'++(X'++S))=Y++X∧(pre.length:Int)+P.length+X'.length=mid∧0<X'.length∧0<Y'.length∧m=X'.length+Y'.length)∧Hp c w' (Zo (pre++(P++(X'++(Y'++(S++post)))))::R)) (X.length+Y.length) ⟨mid-lo,hi-mid,[],X,Y,[],rfl,⟨m4,m4,Zb3,Zb5,h0.1,h0.2,rfl⟩,h⟩ ?_)));rintro m _ w1 e0 ⟨i,j,P,X',Y',S,rfl,⟨cA,hj',heq,XZ,XG,hy0,hm⟩,h⟩;have r7:=V4 List.length heq;simp only[List.length_append]at r7;refine BR.ne (λg1=>?_) λg1=>?_
 ·refine BR.T5 (λg2=>?_) λg2=>?_
  ·obtain⟨X1,X2,hX,Jv⟩:∃X1 X2,X'=X1++X2∧X1.length=Y'.length:=⟨X'.take Y'.length,X'.drop Y'.length,(Vd ..).symm,Zb1⟩;subst hX;have hXl:(X1++X2).length=X1.length+X2.length:=j7;have e1:pre++(P++((X1++X2)++(Y'++(S++post))))=(pre++P)++(X1++(X2++(Y'++(S++post)))):=Zb3
   rw[e1]at h;have Mm:(pre++P).length=pre.length+P.length:=j7;refine i5 (N1 (OV (pre:=pre++P) (A:=X1) (M:=X2) (B:=Y') (post:=S++post) h Zb1 m4 m4 m4 Jv hb) λw h=>?_);have e2:(pre++P)++(Y'++(X2++(X1++(S++post))))=pre++((P++Y')++(X2++(X1++(S++post)))):=Zb3
   rw[e2]at h;exact i5 ⟨X2.length+X1.length,m4,i-j,j,P++Y',X2,X1,S,rfl,⟨m4,m4,Zb1,Zb1,m4,m4,rfl⟩,h⟩
  ·obtain⟨Y1,Y2,hY,hY2⟩:∃Y1 Y2,Y'=Y1++Y2∧Y2.length=X'.length:=⟨Y'.take (Y'.length-X'.length),Y'.drop (Y'.length-X'.length),(Vd ..).symm,Zb1⟩;subst hY;have hYl:(Y1++Y2).length=Y1.length+Y2.length:=j7;have e1:pre++(P++(X'++((Y1++Y2)++(S++post))))=(pre++P)++(X'++(Y1++(Y2++(S++post)))):=Zb3
   rw[e1]at h;have Mm:(pre++P).length=pre.length+P.length:=j7;refine i5 (i5 (i5 (N1 (OV (pre:=pre++P) (A:=X') (M:=Y1) (B:=Y2) (post:=S++post) h Zb1 m4 m4 m4 m4 hb) λw h=>?_)));have e2:(pre++P)++(Y2++(Y1++(X'++(S++post))))=pre++(P++(Y2++(Y1++((X'++S)++post)))):=Zb3
   rw[e2]at h;exact i5 ⟨Y2.length+Y1.length,m4,i,j-i,P,Y2,Y1,X'++S,rfl,⟨m4,m4,Zb1,m4,m4,m4,rfl⟩,h⟩
 ·have e1:pre++(P++(X'++(Y'++(S++post))))=(pre++P)++(X'++([]++(Y'++(S++post)))):=Zb3
  rw[e1]at h;have Mm:(pre++P).length=pre.length+P.length:=j7;refine i5 (N1 (OV (pre:=pre++P) (A:=X') (M:=[]) (B:=Y') (post:=S++post) h Zb1 m4 Zb6 m4 m4 hb) λw h=>?_);have e2:(pre++P)++(Y'++([]++(X'++(S++post))))=pre++(Y++(X++post)):=by
   have e3:Y++(X++post)=(Y++X)++post:=Zb3
   rw[e3,<-heq];simp
  rw[e2]at h;exact⟨rfl,h⟩):P:=h
theorem ahC{X Y:List Int}{fv:Value}(h:Hp c w (so 3 O5 a cap (pre++(X++(Y++post)))::R))(hn:n=(pre++(X++(Y++post))).length)(g:lo=pre.length)(e:mid=pre.length+X.length)(f:hi=pre.length+X.length+Y.length)(h0:0<X.length∧0<Y.length)(hb:n<=1000000000):Cr 162 #[.slice a n cap,I lo,I mid,I hi,fv] w c (.tuple #[]) (so 3 O5 a cap (pre++(Y++(X++post)))::R):=by let Zo:List Int->HP:=λl=>so 3 O5 a cap l;have z0:=func162;have b:=@ZLi;have d:=@ZCi;have OV:=@ahk;exact abV
end
theorem aaC{P:Prop}(h:P:=by
 refine zL h 0 O Zb9 Zb9 ⟨Hp.Ab h,zL h 0 O Zb9 Zb9 ⟨Hp.Ab h,Yt h 0 O λb5 o5 iA=>ST.qf (y:=y) h 0 O Zb9 fP O O O O O λw h=>Jc.bW h 0 O m4 Zb7 λb6 o6 ha6=>ST.qf (y:=x) h 0 O Zb9 eP O O O O O λw h=>?_⟩⟩;rw[hsw]at h;refine i5 ?_;have e9:(pre++Q1)++y::x::(Q3++(Y.drop p++post))=pre++((Q1++[y])++x::(Q3++(Y.drop p++post))):=Zb3
 rw[e9]at h;exact⟨m2-1,m4,k+1,Q1++[y],Q3,rfl,⟨by rw[hQ];simp,Zb5,by simp at hQl⊢;omega⟩,h⟩):P:=h
section
theorem I6.below(h:I6 r l)(c:p=0∨∃y,i3 l (p-1)=some y∧r y<x):∀z∈l.take p,r z<x:=by
 intro z a;rcases c with rfl|⟨y,b,f⟩
 ·simp at a
 ·obtain⟨i,hi,e⟩:=List.mem_take_iff_getElem.mp a;rw[Z0]at b;obtain⟨d,g⟩:=List.getElem?_eq_some_iff.mp b;by_cases hip:i=p-1
  ·simp_all
  ·have:=List.pairwise_iff_getElem.mp h i (p-1) m4 d m4;grind
theorem I6.oN(h:I6 r l){q:Nat}(c:q=l.length∨∃y,i3 l q=some y∧x<=r y):∀z∈l.drop q,x<=r z:=by
 intro z a;rcases c with rfl|⟨y,b,f⟩
 ·simp at a
 ·obtain⟨i,hi,e⟩:=List.mem_drop_iff_getElem.mp a;rw[Z0]at b;obtain⟨d,g⟩:=List.getElem?_eq_some_iff.mp b;by_cases hip:i=0
  ·simp_all
  ·have:=List.pairwise_iff_getElem.mp h q (q+i) d m4 m4;grind
theorem WJ{Y:List α}{x:α}(a:I6 r Y)(e:p=0∨∃y,i3 Y (p-1)=some y∧r y<r x)(d:p=Y.length∨∃y,i3 Y p=some y∧r x<=r y):F7 r (x::Y) (Y.take p++x::Y.drop p)∧I6 r (Y.take p++x::Y.drop p):=by
 have h:=a.below e;have c:=a.oN d;have b:I6 r (Y.take p++Y.drop p):=by rw[Vd];exact a
 obtain⟨g,f,i⟩:=List.pairwise_append.mp b;refine⟨?_,List.pairwise_append.mpr ⟨g,List.pairwise_cons.mpr ⟨c,f⟩,?_⟩⟩
 ·have hs:F7 r ([x]++Y.take p) (Y.take p++[x]):=F7.swap (by
   grind)
  grind[F7.jI,F7.refl,List.take_append_drop]
 grind
theorem FG{X:List α}(a:I6 r X)(d:p=0∨∃x,i3 X (p-1)=some x∧r x<r y+1)(c:p=X.length∨∃x,i3 X p=some x∧r y+1<=r x):F7 r (X++[y]) (X.take p++y::X.drop p)∧I6 r (X.take p++y::X.drop p):=by
 have i:=a.below d;have j:=a.oN c;have b:I6 r (X.take p++X.drop p):=by rw[Vd];exact a
 obtain⟨f,e,k⟩:=List.pairwise_append.mp b;refine⟨?_,List.pairwise_append.mpr ⟨f,List.pairwise_cons.mpr ⟨λv g=>Zb1,e⟩,?_⟩⟩
 ·have hs:F7 r (X.drop p++[y]) ([y]++X.drop p):=F7.swap (by
   grind)
  have:=(F7.refl (X.take p)).jI hs;grind[List.take_append_drop]
 grind
end
theorem fO(u v:List α)(x y:α):((u++x::y::v).set u.length y).set (u.length+1) x=u++y::x::v:=Zb3
theorem rT{z:Int}(a:0<=z∧z<4611686018427387904):(BitVec.ofInt 64 z>>>(1:Nat)).toInt=z/2:=by grind[BitVec.toNat_ofInt,Nat.shiftRight_eq_div_pow]
theorem WR.iX{z:Int}{s:Nat}(a:0<=z∧z<4611686018427387904)(hs:s=1)(k:K (I (z/2))):WR .i64 ((BitVec.ofInt 64 z>>>s).toNat:Int) K:=by grind[WR.toI,rT]
section
theorem abU{P:Prop}(h:P:=by
 have hN:n=pre.length+(1+(Y.length+post.length)):=by rw[hn];simp;omega
 refine R2 z0 O (i5 (mf ?_));have aF:i3 (pre++x::(Y++post)) lo.toNat=some x:=by
  have e:lo.toNat=pre.length:=m4
  rw[e];exact qc _ _ _
 have hnY:∀t:Nat,t<Y.length->i3 (pre++x::(Y++post)) (mid+t).toNat=i3 Y t:=by
  intro t ht;have e:(mid+t).toNat=pre.length+(1+t):=m4
  rw[Z0,Z0,e,Im m4];have e2:pre.length+(1+t)-pre.length=t+1:=m4
  rw[e2,List.getElem?_cons_succ,Hm ht]
 refine p5.A6 kn [0,1,4,10,11] (λm vs w'=>∃(i j:Int)(p q:Nat),vs=[.slice a n cap,I lo,.func (.func g) #[] lb.toArray,I i,I j]∧(i=mid+p∧j=mid+q∧p+m=q∧q<=Y.length∧(p=0∨∃y,i3 Y (p-1)=some y∧r y<r x)∧(q=Y.length∨∃y,i3 Y q=some y∧r x<=r y))∧Hp c w' (Zo (pre++x::(Y++post))::R)) Y.length ⟨mid,hi,0,Y.length,rfl,⟨Zb3,m4,m4,V7 _,.inl O,.inl O⟩,h⟩ ?_;rintro m _ w1 e0 ⟨i,j,p,q,rfl,⟨Jz,VQ,AV,hqY,Ak,ID⟩,h⟩;refine BR.T5 (λg1=>?_) λg1=>?_
 ·refine i5 (WR.bO (km (Bv.u64 (WR.iX m4 O ?_))));obtain⟨t,ht⟩:∃t:Nat,t=(p+q)/2:=⟨_,rfl⟩;have aX:(i+j)/2=mid+t:=m4
  obtain⟨y,hy⟩:∃y,i3 Y t=some y:=⟨Y[t]'m4,by rw[Z0];simp⟩;have dP:i3 (pre++x::(Y++post)) ((i+j)/2).toNat=some y:=by rw[aX,hnY t m4,hy]
  refine Y6 h [0,1,2,3,5,6,7,4,58,109,10] λh=>Yt h 0 O λb1 o1 U9=>Yt h 0 O λb2 o2 Lj=>zC (λ_ h=>h) 0 O Zb9 dP (zL h 0 O Zb9 aF ⟨h,od.by hf.hX (hf.run y x _ _ h) ?_⟩);rintro _ w ⟨z,rfl,hz,h⟩;refine BR.T5 (λg2=>?_) λg2=>?_
  ·exact i5 ⟨q-(t+1),m4,(i+j)/2+1,j,t+1,q,rfl,⟨m4,m4,m4,hqY,.inr ⟨y,Zb1,hz.mp g2⟩,ID⟩,h⟩
  ·exact⟨t-p,m4,i,(i+j)/2,p,t,rfl,⟨Jz,m4,m4,m4,Ak,.inr ⟨y,hy,m4⟩⟩,h⟩
 ·have VP:p=q:=m4
  subst VP;have anP:p<=Y.length:=hqY;have hmg:=WJ hY Ak ID;have Tu:(Y.take p).length=p:=by rw[Ga];omega
  have cK:pre++x::(Y++post)=pre++([]++x::(Y.take p++(Y.drop p++post))):=by rw[Bp,<-N' (Y.take p),Vd]
  rw[cK]at h;refine p5.A6 kn [0,10,13] (λm2 vs w'=>∃(k:Int)(Q1 Q2:List _),vs=[.slice a n cap,I i,I k]∧(Y.take p=Q1++Q2∧k=lo+Q1.length∧Q1.length+m2=p)∧Hp c w' (Zo (pre++(Q1++x::(Q2++(Y.drop p++post))))::R)) p ⟨lo,[],Y.take p,rfl,⟨rfl,Zb3,Zb3⟩,h⟩ ?_;rintro m2 _ w2 e2 ⟨k,Q1,Q2,rfl,⟨hQ,hk,II⟩,h⟩;have hQl:Q1.length+Q2.length=p:=by rw[<-j7,<-hQ,Tu]
  refine i5 (BR.T5 (λg2=>?_) λg2=>?_)
  ·obtain⟨y,Q3,rfl⟩:∃y Q3,Q2=y::Q3:=by
    cases Q2 with
    |nil=>grind
    |cons y l=>simp
   have Rl:pre++(Q1++x::(y::Q3++(Y.drop p++post)))=(pre++Q1)++x::y::(Q3++(Y.drop p++post)):=Zb3
   rw[Rl]at h;simp only[List.length_cons]at hQl;have Mm:(pre++Q1).length=pre.length+Q1.length:=j7;have Wx:(Y.drop p).length=Y.length-p:=Ve;have qp:((pre++Q1)++x::y::(Q3++(Y.drop p++post))).length=n:=by simp only[List.length_append,List.length_cons,Wx];omega
   have ZW:k.toNat=(pre++Q1).length:=m4
   have lT:(k+1).toNat=(pre++Q1).length+1:=m4
   have fP:i3 ((pre++Q1)++x::y::(Q3++(Y.drop p++post))) k.toNat=some x:=by rw[ZW];exact qc _ _ _
   have Qx:i3 ((pre++Q1)++x::y::(Q3++(Y.drop p++post))) (k+1).toNat=some y:=by
    have e:(pre++Q1)++x::y::(Q3++(Y.drop p++post))=((pre++Q1)++[x])++y::(Q3++(Y.drop p++post)):=Zb3
    have e2:(k+1).toNat=((pre++Q1)++[x]).length:=by rw[lT];simp;omega
    rw[e,e2];exact qc _ _ _
   have eP:i3 (((pre++Q1)++x::y::(Q3++(Y.drop p++post))).set k.toNat y) (k+1).toNat=some y:=by rw[Z0]at Qx⊢;rw[QE m4];exact Qx
   have hsw:(((pre++Q1)++x::y::(Q3++(Y.drop p++post))).set k.toNat y).set (k+1).toNat x=(pre++Q1)++y::x::(Q3++(Y.drop p++post)):=by rw[ZW,lT];exact fO _ _ _ _
   refine ja.D0 kn o8 (λw'=>Hp c w' ((sf λ(l:List _)=>Zo l)::R)) (qs [0,1,2,3,4,5,6,7,8,10,11,12] (.w2 9 (ws [13] (qs [14] (vs [15] (qs [16] (vs [17] .done))))) 13 (ws [9] (qs [14] (vs [15] (qs [16] (vs [17] .done))))))) Zb2 (Hp.Ab h).drew ?_;replace h:=h.drew;refine i5 (i5 (Yt h 0 O λb3 o3 lh=>Yt h 0 O λb4 o4 jX=>⟨?_,?_⟩))
   ·exact aaC
   ·exact aaC
  ·have hQ2:Q2=[]:=List.length_eq_zero_iff.mp m4;subst hQ2;rw[Jb]at hQ;rw[<-hQ]at h;exact⟨rfl,Y.take p++x::Y.drop p,Zb5,hmg.1,hmg.2,by simpa using h⟩):P:=h
set_option maxHeartbeats 2000000 in
theorem BF{r:Int->Int}{Y:List Int}(h:Hp c w (so 3 O5 a cap (pre++(x::(Y++post)))::R))(hf:Ks g lb I r c R)(hn:n=(pre++(x::(Y++post))).length)(s:lo=pre.length)(d:mid=pre.length+1)(o:hi=pre.length+1+Y.length)(hY:I6 r Y)(f:n<=1000000000):Cs 113 #[.slice a n cap,I lo,I mid,I hi,.func (.func g) #[] lb.toArray] w (λe w'=>e= .returned (.tuple #[])∧∃b,b.length=1+Y.length∧F7 r (x::Y) b∧I6 r b∧Hp c w' (so 3 O5 a cap (pre++(b++post))::R)):=by let Zo:List Int->HP:=λl=>so 3 O5 a cap l;have z0:=func113;have zL:=@ZLi;have zC:=@ZCi;exact abU
end
theorem aaB{P:Prop}(h:P:=by rw[hsw,hu]at h;exact i5 ⟨m2-1,by omega,k-1,Q3,x::Q2,rfl,⟨by rw[hQ];simp,by omega,by omega⟩,by simpa using h⟩):P:=h
theorem eO(u v:List α)(x y:α):((u++x::y::v).set (u.length+1) x).set u.length y=u++y::x::v:=Zb3
section
theorem abT{P:Prop}(h:P:=by
 have hN:n=pre.length+(X.length+(1+post.length)):=by rw[hn];simp;omega
 refine R2 z0 O (i5 (Wa (i5 (mf ?_))));have dP:i3 (pre++(X++y::post)) mid.toNat=some y:=by
  have e:mid.toNat=(pre++X).length:=Zb5
  rw[e,<-N'];exact qc _ _ _
 have hnX:∀t:Nat,t<X.length->i3 (pre++(X++y::post)) (lo+t).toNat=i3 X t:=by
  intro t ht;have e:(lo+t).toNat=pre.length+t:=m4
  rw[Z0,Z0,e,Im m4];have e2:pre.length+t-pre.length=t:=m4
  rw[e2,Hm ht]
 refine p5.A6 kn [0,2,4,14,15] (λm vs w'=>∃(i j:Int)(p q:Nat),vs=[.slice a n cap,I mid,.func (.func g) #[] lb.toArray,I i,I j]∧(i=lo+p∧j=lo+q∧p+m=q∧q<=X.length∧(p=0∨∃x,i3 X (p-1)=some x∧r x<r y+1)∧(q=X.length∨∃x,i3 X q=some x∧r y+1<=r x))∧Hp c w' (Zo (pre++(X++y::post))::R)) X.length ⟨lo,mid,0,X.length,rfl,⟨Zb3,m4,m4,V7 _,.inl O,.inl O⟩,h⟩ ?_;rintro m _ w1 e0 ⟨i,j,p,q,rfl,⟨Jz,VQ,AV,hqX,Ak,ID⟩,h⟩;refine BR.T5 (λg1=>?_) λg1=>?_
 ·refine i5 (WR.bO (km (Bv.u64 (WR.iX m4 O ?_))));obtain⟨t,ht⟩:∃t:Nat,t=(p+q)/2:=⟨_,rfl⟩;have aX:(i+j)/2=lo+t:=m4
  obtain⟨x,hx⟩:∃x,i3 X t=some x:=⟨X[t]'m4,by rw[Z0];simp⟩;have aF:i3 (pre++(X++y::post)) ((i+j)/2).toNat=some x:=by rw[aX,hnX t m4,hx]
  refine Y6 h [0,1,2,3,5,6,7,4,58,109,10,11] λh=>Yt h 0 O λb1 o1 U9=>Yt h 0 O λb2 o2 Lj=>zC (λ_ h=>h) 0 O Zb9 dP (zL h 0 O Zb9 aF ⟨h,od.by hf.hX (hf.run y x _ _ h) ?_⟩);rintro _ w ⟨z,rfl,hz,h⟩;refine BR.not (BR.T5 (λg2=>?_) λg2=>?_)
  ·exact⟨t-p,m4,i,(i+j)/2,p,t,rfl,⟨Jz,m4,m4,m4,Ak,.inr ⟨x,hx,m4⟩⟩,h⟩
  ·exact i5 ⟨q-(t+1),m4,(i+j)/2+1,j,t+1,q,rfl,⟨m4,m4,m4,hqX,.inr ⟨x,Zb1,m4⟩,ID⟩,h⟩
 ·have VP:p=q:=m4
  subst VP;have anQ:p<=X.length:=hqX;have hmg:=FG hX Ak ID;have Tu:(X.take p).length=p:=by rw[Ga];omega
  have Wx:(X.drop p).length=X.length-p:=Ve;have cK:pre++(X++y::post)=(pre++X.take p)++(X.drop p++y::([]++post)):=by rw[Bp,N',<-N' (X.take p),Vd]
  rw[cK]at h;refine p5.A6 kn [0,14,17] (λm2 vs w'=>∃(k:Int)(Q1 Q2:List _),vs=[.slice a n cap,I i,I k]∧(X.drop p=Q1++Q2∧k=lo+p+Q1.length∧Q1.length=m2)∧Hp c w' (Zo ((pre++X.take p)++(Q1++y::(Q2++post)))::R)) (X.length-p) ⟨mid,X.drop p,[],rfl,⟨Zb3,m4,m4⟩,h⟩ ?_;rintro m2 _ w2 e2 ⟨k,Q1,Q2,rfl,⟨hQ,hk,II⟩,h⟩;have hQl:Q1.length+Q2.length=X.length-p:=by rw[<-j7,<-hQ,Wx]
  have amv:Q1.length<=X.length-p:=m4
  refine BR.T5 (λg2=>?_) λg2=>?_
  ·obtain⟨x,Q3,rfl⟩:∃x Q3,Q1=Q3++[x]:=by
    rcases EE Q1 with rfl|⟨l,b,rfl⟩<;>grind
   have Rl:(pre++X.take p)++((Q3++[x])++y::(Q2++post))=((pre++X.take p)++Q3)++x::y::(Q2++post):=Zb3
   rw[Rl]at h;simp only[List.length_append,List.length_cons,List.length_nil]at hQl hk II amv;have Mm:((pre++X.take p)++Q3).length=pre.length+p+Q3.length:=by rw[j7,j7,Tu]
   obtain⟨u,hu⟩:∃u,u=(pre++X.take p)++Q3:=⟨_,rfl⟩;rw[<-hu]at h Mm;have qp:(u++x::y::(Q2++post)).length=n:=by simp only[List.length_append,List.length_cons];omega
   have ZW:(k-1).toNat=u.length:=m4
   have lT:k.toNat=u.length+1:=m4
   have fP:i3 (u++x::y::(Q2++post)) (k-1).toNat=some x:=by rw[ZW];exact qc _ _ _
   have Qx:i3 (u++x::y::(Q2++post)) k.toNat=some y:=by
    have e:u++x::y::(Q2++post)=(u++[x])++y::(Q2++post):=Zb3
    have e2:k.toNat=(u++[x]).length:=by rw[lT];simp
    rw[e,e2];exact qc _ _ _
   have eP:i3 ((u++x::y::(Q2++post)).set k.toNat x) (k-1).toNat=some x:=by rw[Z0]at fP⊢;rw[QE m4];exact fP
   have hsw:((u++x::y::(Q2++post)).set k.toNat x).set (k-1).toNat y=u++y::x::(Q2++post):=by rw[ZW,lT];exact eO _ _ _ _
   refine ja.D0 kn o8 (λw'=>Hp c w' ((sf λ(l:List _)=>Zo l)::R)) (qs [0,1,2,3,4,5,6,7,8,10,11,12] (.w2 9 (ws [13] (qs [14] (vs [15] (qs [16] (vs [17] .done))))) 13 (ws [9] (qs [14] (vs [15] (qs [16] (vs [17] .done))))))) Zb2 (Hp.Ab h).drew ?_;replace h:=h.drew;refine i5 (i5 (Yt h 0 O λb3 o3 lh=>Yt h 0 O λb4 o4 jX=>⟨?_,?_⟩))
   ·refine zL h 0 O Zb9 Zb9 ⟨Hp.Ab h,zL h 0 O Zb9 Zb9 ⟨Hp.Ab h,Yt h 0 O λb5 o5 iA=>ST.qf (y:=x) h 0 O Zb9 Qx O O O O O λw h=>Jc.bW h 0 O m4 Zb1 λb6 o6 ha6=>ST.qf (y:=y) h 0 O Zb9 eP O O O O O λw h=>?_⟩⟩;exact aaB
   ·refine zL h 0 O Zb9 Zb9 ⟨Hp.Ab h,zL h 0 O Zb9 Zb9 ⟨Hp.Ab h,Yt h 0 O λb5 o5 iA=>ST.qf (y:=x) h 0 O Zb9 Qx O O O O O λw h=>Jc.bW h 0 O m4 Zb7 λb6 o6 ha6=>ST.qf (y:=y) h 0 O Zb9 eP O O O O O λw h=>?_⟩⟩;exact aaB
  ·have hQ1:Q1=[]:=List.length_eq_zero_iff.mp m4;subst hQ1;rw[Bp]at hQ;rw[<-hQ]at h;exact⟨rfl,X.take p++y::X.drop p,Zb5,hmg.1,hmg.2,by simpa using h⟩):P:=h
set_option maxHeartbeats 2000000 in
theorem ZC{r:Int->Int}{X:List Int}{y:Int}(h:Hp c w (so 3 O5 a cap (pre++(X++y::post))::R))(hf:Ks g lb I r c R)(hn:n=(pre++(X++y::post)).length)(A:lo=pre.length)(f:mid=pre.length+X.length)(s:hi=pre.length+X.length+1)(v:X.length≠1)(hX:I6 r X)(o:n<=1000000000):Cs 113 #[.slice a n cap,I lo,I mid,I hi,.func (.func g) #[] lb.toArray] w (λe w'=>e= .returned (.tuple #[])∧∃d,d.length=X.length+1∧F7 r (X++[y]) d∧I6 r d∧Hp c w' (so 3 O5 a cap (pre++(d++post))::R)):=by let Zo:List Int->HP:=λl=>so 3 O5 a cap l;have z0:=func113;have zL:=@ZLi;have zC:=@ZCi;exact abT
end
section
theorem GG{d b a c C1 C2:List α}(m:I6 r (d++b))(l:I6 r (a++c))(q:∀u∈a,∀v∈b,r u<r v)(p:∀u∈d,∀v∈c,r u<=r v)(g:F7 r (d++a) C1)(f:F7 r (b++c) C2)(i:I6 r C1)(h:I6 r C2):F7 r ((d++b)++(a++c)) (C1++C2)∧I6 r (C1++C2):=by
 obtain⟨_,_,o⟩:=List.pairwise_append.mp m;obtain⟨_,_,n⟩:=List.pairwise_append.mp l;refine⟨?_,List.pairwise_append.mpr ⟨i,h,?_⟩⟩
 ·have hs:F7 r (b++a) (a++b):=F7.swap (by
   grind)
  have e:=((F7.refl d).jI hs).jI (F7.refl c);grind[F7.jI,F7.trans]
 ·intro u k v j;have hu':=g.mem.mpr k;have hv':=f.mem.mpr j;grind
theorem aij{X Y:List α}(i:I6 r X)(g:I6 r Y){s e:Nat}(hs:s<=X.length)(l:e<=Y.length)(k:s=X.length∨e=0∨∃x y,i3 X s=some x∧i3 Y (e-1)=some y∧r y<r x)(j:s=0∨e=Y.length∨∃x y,i3 X (s-1)=some x∧i3 Y e=some y∧r x<=r y):(∀u∈Y.take e,∀v∈X.drop s,r u<r v)∧(∀u∈X.take s,∀v∈Y.drop e,r u<=r v):=by
 constructor
 ·intro u b v a;rcases k with rfl|rfl|⟨x,y,d,c,f⟩
  ·simp at a
  ·simp at b
  ·have a1:=g.below (p:=e) (x:=r y+1) (.inr ⟨y,c,m4⟩) u b;have a2:=i.oN (q:=s) (x:=r x) (.inr ⟨x,d,m4⟩) v a;omega
 ·intro u b v a;rcases j with rfl|rfl|⟨x,y,d,c,f⟩
  ·simp at b
  ·simp at a
  grind[I6.below,I6.oN]
end
theorem OR{M:Int}(c:M=(lo+hi)/2)(g:mid>(lo+hi)/2)(b:lo<M∧M<hi)(e:lo<=mid)(d:mid<=hi):∃a:Int,∃r0:Int,a=(lo+hi)/2+mid-hi∧r0=(lo+hi)/2∧(lo<=a∧a<=r0∧r0<=mid∧M+mid-a<=hi∧mid<=M+mid-r0∧(a=lo∨M+mid-a=hi)∧(r0=mid∨M+mid-r0=mid)):=⟨_,_,rfl,rfl,m4,m4,m4,m4,m4,m4,m4⟩
theorem NR{M:Int}(c:M=(lo+hi)/2)(g:¬mid>(lo+hi)/2)(b:lo<M∧M<hi)(e:lo<=mid)(d:mid<=hi):∃a:Int,∃r0:Int,a=lo∧r0=mid∧(lo<=a∧a<=r0∧r0<=mid∧M+mid-a<=hi∧mid<=M+mid-r0∧(a=lo∨M+mid-a=hi)∧(r0=mid∨M+mid-r0=mid)):=⟨_,_,rfl,rfl,m4,m4,m4,m4,m4,m4,m4⟩
theorem aW{A B D E:List α}(h:¬(0<A.length∧0<B.length))(b:I6 r (A++D))(a:I6 r (B++E)):I6 r (A++B):=by
 by_cases c:A.length=0
 ·have:=List.length_eq_zero_iff.mp c;subst this;exact(List.pairwise_append.mp a).1
 ·have:=List.length_eq_zero_iff.mp (show B.length=0 by omega);subst this;rw[Jb];exact(List.pairwise_append.mp b).1
theorem PR{A B D E:List α}(h:¬(0<A.length∧0<B.length))(b:I6 r (D++A))(a:I6 r (E++B)):I6 r (A++B):=by
 by_cases c:A.length=0
 ·have:=List.length_eq_zero_iff.mp c;subst this;exact(List.pairwise_append.mp a).2.1
 ·have:=List.length_eq_zero_iff.mp (show B.length=0 by omega);subst this;rw[Jb];exact(List.pairwise_append.mp b).2.1
theorem adc{pre d b a c post:List α}(h:¬(0<b.length∧0<a.length)):(pre++d)++(b++(a++(c++post)))=(pre++d)++(a++(b++(c++post))):=Zb1
section
theorem abS{P:Prop}(h:P:=by
 intro N;induction N with
 |zero=>omega
 |succ N ih=>
 intro w pre X Y post lo mid hi hNN hX0 hY0 h hn Hz iP XP hX hY;have hN:n=pre.length+(X.length+(Y.length+post.length)):=by rw[hn];simp
 by_cases Jv:X.length=1
 ·obtain⟨x,rfl⟩:=List.length_eq_one_iff.mp Jv;simp_all[UX]
 by_cases hY1:Y.length=1
 ·obtain⟨y,rfl⟩:=List.length_eq_one_iff.mp hY1;simp_all[TX]
 refine R2 z0 O (i5 (Wa (i5 (Wa (i5 (WR.bO (km (Bv.u64 (WR.iX m4 O ?_)))))))));have r7:∀t:Nat,t<X.length->∃x,i3 X t=some x:=λt ht=>⟨X[t],by rw[Z0];simp⟩;have ajw:∀t:Nat,t<Y.length->∃x,i3 Y t=some x:=λt ht=>⟨Y[t],by rw[Z0];simp⟩;have hnX:∀t:Int,lo<=t->t<mid->i3 (pre++(X++(Y++post))) t.toNat=i3 X (t-lo).toNat:=by
  intro t ht0 ht;have e:t.toNat=pre.length+(t-lo).toNat:=m4
  rw[Z0,Z0,e,Im m4];have e2:pre.length+(t-lo).toNat-pre.length=(t-lo).toNat:=m4
  rw[e2,Hm m4]
 have hnY:∀t:Int,mid<=t->t<hi->i3 (pre++(X++(Y++post))) t.toNat=i3 Y (t-mid).toNat:=by
  intro t ht0 ht;have e:t.toNat=pre.length+(X.length+(t-mid).toNat):=m4
  rw[Z0,Z0,e,Im m4];have e2:pre.length+(X.length+(t-mid).toNat)-pre.length=X.length+(t-mid).toNat:=m4
  rw[e2,Im m4];have e3:X.length+(t-mid).toNat-X.length=(t-mid).toNat:=m4
  rw[e3,Hm m4]
 obtain⟨M,hM⟩:∃M,M=(lo+hi)/2:=⟨_,rfl⟩;have hMl:lo<M∧M<hi:=m4
 refine i5 (BR.T5 (λg1=>WR.vp (i64 m4) (WR.vp (i64 m4) ?_)) (λg1=>WR.vp (i64 m4) ?_));all_goals
  refine K9 (show∃s0:Int,∃r0:Int,s0=_∧r0=_∧(lo<=s0∧s0<=r0∧r0<=mid∧M+mid-s0<=hi∧mid<=M+mid-r0∧(s0=lo∨M+mid-s0=hi)∧(r0=mid∨M+mid-r0=mid))from by
   first
   |exact OR hM g1 hMl m4 m4
   |exact NR hM g1 hMl m4 m4) (λs0 hzz=>K9 hzz (λr0 hzz=>?_))
  have Kx:=hzz.1;have GW:=hzz.2.1;have hz3:=hzz.2.2;clear hzz
 all_goals
  refine p5.A6 kn [0,1,2,3,4,18,19,20,21,22] (λm vs w'=>∃(i j p0 n0 M0:Int),vs=[.slice a n cap,I lo,I mid,I hi,.func (.func g) #[] lb.toArray,I M0,I n0,I i,I j,I p0]∧(M0=M∧n0=M+mid∧p0=M+mid-1∧s0<=i∧i+m=j∧j<=r0∧(i=s0∨∃x y,i3 X (i-1-lo).toNat=some x∧i3 Y (M+mid-i-mid).toNat=some y∧r x<=r y)∧(j=r0∨∃x y,i3 X (j-lo).toNat=some x∧i3 Y (M+mid-1-j-mid).toNat=some y∧r y<r x))∧Hp c w' (Zo (pre++(X++(Y++post)))::R)) (r0-s0).toNat ⟨_,_,_,_,_,rfl,⟨hM.symm,m4,m4,m4,m4,m4,.inl Kx.symm,.inl GW.symm⟩,h⟩ ?_;rintro m _ w e0 ⟨i,j,p0,n0,M0,rfl,⟨Ar,bF,iT,hsi,aX,hjr,Ak,ID⟩,h⟩;refine BR.T5 (λg2=>?_) λg2=>?_
  ·refine i5 (WR.bO (km (Bv.u64 (WR.iX m4 O ?_))));obtain⟨t,ht⟩:∃t,t=(i+j)/2:=⟨_,rfl⟩;obtain⟨x,hx⟩:=r7 (t-lo).toNat m4;obtain⟨y,hy⟩:=ajw (M+mid-1-t-mid).toNat m4;have aF:i3 (pre++(X++(Y++post))) ((i+j)/2).toNat=some x:=by rw[<-ht,hnX t m4 m4,hx]
   have dP:i3 (pre++(X++(Y++post))) (p0-(i+j)/2).toNat=some y:=by rw[<-ht,iT,hnY _ m4 m4,hy]
   refine Y6 h [0,1,2,3,4,5,7,8,9,6,60,111,12,13] λh=>i5 (Yt h 0 O λb1 o1 U9=>Yt h 0 O λb2 o2 Lj=>zC (λ_ h=>h) 0 O Zb9 dP (zL h 0 O Zb9 aF ⟨h,od.by hf.hX (hf.run y x _ _ h) ?_⟩));rintro _ w ⟨z,rfl,hz,h⟩;refine BR.not (BR.T5 (λg2=>?_) λg2=>?_)
   ·exact⟨(t-i).toNat,m4,_,_,_,_,_,rfl,⟨Ar,bF,iT,hsi,m4,m4,Ak,.inr ⟨x,y,by rw[<-ht];exact hx,by rw[<-ht];exact hy,hz.mp g2⟩⟩,h⟩
   ·exact i5 ⟨(j-(t+1)).toNat,m4,_,_,_,_,_,rfl,⟨Ar,bF,iT,m4,m4,hjr,.inr ⟨x,y,by rw[<-ht,show(t+1-1-lo).toNat=(t-lo).toNat by omega];exact hx,by rw[<-ht,show(M+mid-(t+1)-mid).toNat=(M+mid-1-t-mid).toNat by omega];exact hy,by have:¬r y<r x:=λhh=>g2 (hz.mpr hh);omega⟩,ID⟩,h⟩
  ·have him:i=j:=m4
   subst him;obtain⟨s,hs⟩:∃s:Nat,s=(i-lo).toNat:=⟨_,rfl⟩;obtain⟨e,he⟩:∃e:Nat,e=(M+mid-i-mid).toNat:=⟨_,rfl⟩;have LW:s<=X.length:=m4
   have hey:e<=Y.length:=m4
   have hsd:=aij hX hY LW hey (by
    rcases ID with hu|⟨x,y,hx,hy,qd⟩
    ·omega
    ·exact .inr (.inr ⟨x,y,by rw[hs];exact hx,by rw[he,show(M+mid-i-mid).toNat-1=(M+mid-1-i-mid).toNat by omega];exact hy,qd⟩)) (by
    rcases Ak with hu|⟨x,y,hx,hy,qd⟩
    ·omega
    ·exact .inr (.inr ⟨x,y,by rw[hs,show(i-lo).toNat-1=(i-1-lo).toNat by omega];exact hx,by rw[he];exact hy,qd⟩))
   have hA1:(X.take s).length=s:=by rw[Ga];omega
   have hA2:(X.drop s).length=X.length-s:=Ve;have hB1:(Y.take e).length=e:=by rw[Ga];omega
   have hB2:(Y.drop e).length=Y.length-e:=Ve;have hX':I6 r (X.take s++X.drop s):=by rw[Vd];exact hX
   have hY':I6 r (Y.take e++Y.drop e):=by rw[Vd];exact hY
   have eX:X=X.take s++X.drop s:=(Vd s X).symm;have eY:Y=Y.take e++Y.drop e:=(Vd e Y).symm;obtain⟨A1,ajN⟩:∃A1,A1=X.take s:=⟨_,rfl⟩;obtain⟨A2,ajM⟩:∃A1,A1=X.drop s:=⟨_,rfl⟩;obtain⟨B1,ajL⟩:∃A1,A1=Y.take e:=⟨_,rfl⟩;obtain⟨B2,ajK⟩:∃A1,A1=Y.drop e:=⟨_,rfl⟩;rw[<-ajN]at hA1 hX' hsd eX;rw[<-ajM]at hA2 hX' hsd eX;rw[<-ajL]at hB1 hY' hsd eY;rw[<-ajK]at hB2 hY' hsd eY;have hi8:i=lo+s:=m4
   have hn8:n0-i=mid+e:=m4
   clear hnX hnY r7 ajw Ak ID ajN ajM ajL ajK hz3 Jv hY1 hs he g1 hjr hsi aX iT g2 Kx GW;have jq:=λ{C1 C2:List _}=>GG (C1:=C1) (C2:=C2) hX' hY' hsd.1 hsd.2;have Rl:pre++(X++(Y++post))=(pre++A1)++(A2++(B1++(B2++post))):=by rw[eX,eY];simp
   rw[Rl]at h hn;rw[<-eX,<-eY]at jq;have Mm:(pre++A1).length=pre.length+s:=by rw[j7,hA1]
   have ajp:(pre++(A1++B1)).length=pre.length+(s+e):=by rw[j7,j7,hA1,hB1]
   refine i5 ?_;have hcA:(0<A1.length∧0<A2.length)∨(A1.length=0∧0<A2.length)∨(0<A1.length∧A2.length=0):=m4
   have hcB:(0<B1.length∧0<B2.length)∨(B1.length=0∧0<B2.length)∨(0<B1.length∧B2.length=0):=m4
   rcases hcA with hcA|hcA|hcA<;>rcases hcB with hcB|hcB|hcB;all_goals
    first
    |refine BR.Mv m4 (BR.Mv m4 ?_)
    |refine BR.Mv m4 (BR.YD m4 ?_)
    |refine BR.YD m4 (BR.no O ?_)
   all_goals
    first
    |have hc:0<A2.length∧0<B1.length:=m4
     refine N1 (aeQ (pre:=pre++A1) (X:=A2) (Y:=B1) (post:=B2++post) h hn m4 m4 m4 hc hb) λw h=>?_
    |have hc:¬(0<A2.length∧0<B1.length):=m4
     rw[adc hc]at h
   all_goals
    have adV:(pre++A1)++(B1++(A2++(B2++post)))=pre++(A1++(B1++(A2++(B2++post)))):=Zb3
    rw[adV]at h;have Qx:n=(pre++(A1++(B1++(A2++(B2++post))))).length:=by rw[hn];simp only[List.length_append];omega
    first
    |refine BR.Mv m4 (BR.Mv m4 ?_)
    |refine BR.Mv m4 (BR.YD m4 ?_)
    |refine BR.YD m4 (BR.no O ?_)
   all_goals
    first
    |have SD:0<A1.length∧0<B1.length:=m4
     refine xb (ih (pre:=pre) (X:=A1) (Y:=B1) (post:=A2++(B2++post)) m4 SD.1 SD.2 h Qx m4 m4 m4 (List.pairwise_append.mp hX').1 (List.pairwise_append.mp hY').1) ?_;rintro _ w ⟨rfl,C1,AB,jh,hz8,h⟩
    |have SD:¬(0<A1.length∧0<B1.length):=m4
     refine K9 (show∃C1,C1=A1++B1 from⟨_,rfl⟩) (λC1 hC1=>?_);have AB:C1.length=A1.length+B1.length:=by rw[hC1];exact j7
     have jh:F7 r (A1++B1) C1:=by rw[hC1];exact F7.refl _
     have hz8:I6 r C1:=by rw[hC1];exact aW SD hX' hY'
     rw[<-N' A1,<-hC1]at h
   all_goals
    have alO:pre++(C1++(A2++(B2++post)))=(pre++C1)++(A2++(B2++post)):=Zb3
    rw[alO]at h;have hpc:(pre++C1).length=pre.length+(s+e):=by rw[j7,AB];omega
    have eP:n=((pre++C1)++(A2++(B2++post))).length:=by rw[hn];simp only[List.length_append];omega
    first
    |refine BR.Mv m4 (BR.Mv m4 ?_)
    |refine BR.Mv m4 (BR.YD m4 ?_)
    |refine BR.YD m4 (BR.no O ?_)
   all_goals
    first
    |have Yx:0<A2.length∧0<B2.length:=m4
     refine xb (ih (pre:=pre++C1) (X:=A2) (Y:=B2) (post:=post) m4 Yx.1 Yx.2 h eP m4 m4 m4 (List.pairwise_append.mp hX').2.1 (List.pairwise_append.mp hY').2.1) ?_;rintro _ w ⟨rfl,C2,bj,Ls,hz9,h⟩
    |have Yx:¬(0<A2.length∧0<B2.length):=m4
     refine K9 (show∃C2,C2=A2++B2 from⟨_,rfl⟩) (λC2 hC2=>?_);have bj:C2.length=A2.length+B2.length:=by rw[hC2];exact j7
     have Ls:F7 r (A2++B2) C2:=by rw[hC2];exact F7.refl _
     have hz9:I6 r C2:=by rw[hC2];exact PR Yx hX' hY'
     rw[<-N' A2,<-hC2]at h
   all_goals
    have hz:=jq jh Ls hz8 hz9;exact⟨rfl,C1++C2,by rw[j7,AB,bj];omega,hz.1,hz.2,by simpa using h⟩):P:=h
set_option maxHeartbeats 8000000 in
theorem aid{r:Int->Int}(hf:Ks g lb I r c R)(hb:n<=1000000000):∀(N:Nat){w:World}{pre X Y post:List Int}{lo mid hi:Int},X.length+Y.length<=N->0<X.length->0<Y.length->Hp c w (so 3 O5 a cap (pre++(X++(Y++post)))::R)->n=(pre++(X++(Y++post))).length->lo=pre.length->mid=pre.length+X.length->hi=pre.length+X.length+Y.length->I6 r X->I6 r Y->Cs 113 #[.slice a n cap,I lo,I mid,I hi,.func (.func g) #[] lb.toArray] w (λe w'=>e= .returned (.tuple #[])∧∃b,b.length=X.length+Y.length∧F7 r (X++Y) b∧I6 r b∧Hp c w' (so 3 O5 a cap (pre++(b++post))::R)):=by let Zo:List Int->HP:=λl=>so 3 O5 a cap l;have z0:=func113;have zL:=@ZLi;have zC:=@ZCi;have aeQ:=@ahC;have UX:=@BF;have TX:=@ZC;exact abS
end
end Go.Proofs.YtaaihojmcfaejaaGreatDoor
