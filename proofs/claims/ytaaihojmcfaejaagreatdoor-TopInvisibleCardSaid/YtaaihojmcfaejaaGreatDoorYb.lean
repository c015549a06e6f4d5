/- Lemmas for the tops: the walk of the house and its laws. No condition is added. -/
import Derived.Test.YtaaihojmcfaejaaGreatDoorQah
import Derived.Test.YtaaihojmcfaejaaGreatDoorQaf
import Derived.Test.YtaaihojmcfaejaaGreatDoorYa
set_option linter.all false
namespace Go.Proofs.YtaaihojmcfaejaaGreatDoor
open Go Go.RowKit Tryz
section
variable{α:Type}{E:Qb α}{e:TypeId}{c w:World}{L:List HP}{a:Option Addr}{cap n:Nat}{xs:List α}
theorem Oa.slk{S:World->Prop}{m k s:Nat}{x:α}{cs:List Value}{K:Value->Prop}(r:∀w,S w->Hp c w L)(j:Nat)(n:i3 L j=some (so e E a cap xs)){b o:Nat}(q:a=some ⟨b,o,none⟩)(d:i3 xs m=some x)(h:cut (E.f x) k s=some cs)(l:K (.agg cs.toArray)):
  Oa S ⟨b,o+m*E.sz+k,none⟩ s K:=by
 obtain⟨u,t⟩:=Mr (E.f x) s k cs h;refine⟨cs,u,λw' g i v p=>?_,l⟩;rw[i9];have e:o+m*E.sz+k+i=o+m*E.sz+(k+i):=wz ..;rw[e];exact Pv (r w' g) j n q d (t i v p)
theorem Oa.rok{S:World->Prop}{m k s:Nat}{x:α}{cs:List Value}{K:Value->Prop}(q:∀w,S w->Hp c w L)(hs:Sx E c a n cap xs){b o:Nat}(p:a=some ⟨b,o,none⟩)(d:i3 xs m=some x)(h:cut (E.f x) k s=some cs)(j:K (.agg cs.toArray)):
  Oa S ⟨b,o+m*E.sz+k,none⟩ s K:=by
 obtain⟨t,r⟩:=Mr (E.f x) s k cs h;refine⟨cs,t,λw' g i v l=>?_,j⟩;rw[i9];have e:o+m*E.sz+k+i=o+m*E.sz+(k+i):=wz ..;rw[e];exact qM (q w' g) hs p d (r i v l)
theorem Oa.aox{m k s:Nat}{x:α}{cs:List Value}{K:Value->Prop}(h:Hp c w L)(hs:Sx E c a n cap xs){b o:Nat}(j:a=some ⟨b,o,none⟩)(d:i3 xs m=some x)(g:cut (E.f x) k s=some cs)(i:K (.agg cs.toArray)):
 Oa (λw'=>w'=w) ⟨b,o+m*E.sz+k,none⟩ s K:=Oa.rok (λw' e=>by rw[e];exact h) hs j d g i
theorem Oa.aoV{m k s:Nat}{x:α}{cs:List Value}{K:Value->Prop}(h:Hp c w L)(j:Nat)(l:i3 L j=some (so e E a cap xs)){b o:Nat}(n:a=some ⟨b,o,none⟩)(d:i3 xs m=some x)(g:cut (E.f x) k s=some cs)(i:K (.agg cs.toArray)):
 Oa (λw'=>w'=w) ⟨b,o+m*E.sz+k,none⟩ s K:=Oa.slk (λw' e=>by rw[e];exact h) j l n d g i
end
section
variable{c w:World}{R:List HP}{a:Option Addr}{cap:Nat}
theorem aoU{l:List E2}(hs:Sx F2 c a l.length cap l)(v:l.length<=1000000000):Cs 25 #[.slice a l.length cap] c (λe w'=>∃b d,e= .returned (.slice b l.length d)∧Hp c w' [so 158 F2 b d l]):=by
 have h:=Hp.start c;refine R2 func25 O (I2 h O λb1 w h=>?_);replace h:=Hp.vg (E:=F2) [] h O (ye _);refine p5.A6 kn [0,3,4] (λm vs w'=>∃(i:Nat)(b:Option Addr)(d:Nat),vs=[.slice a l.length cap,.slice b (l.take i).length d,I i]∧i+m=l.length∧Hp c w' [so 158 F2 b d (l.take i)]) l.length ⟨0,_,_,rfl,m4,h⟩ ?_;rintro m _ w1 A ⟨i,b,d,rfl,y,h⟩;refine BR.T5 (λj=>?_) λj=>?_
 ·obtain⟨x,f⟩:∃x,i3 l i=some x:=⟨_,by rw[Z0];exact d8 m4⟩;have t:=O7 f;have z:(l.take i).length=i:=by rw[Ga];omega
  refine Y6 h [0,1,2,3,4,6,7,8,9,5,60,11,112,113,14] λh=>Lz hs λb2 r G=>Lz hs λD p o=>Oa.rok (λ_ h=>h) hs Zb9 f (k:=0) (s:=4) O (Oa.aox h hs o f (k:=4) (s:=2) O ⟨h,I2 h O λC w h=>A4.Yb (u:=_) (Ca.of (w9:=24) kn O O O O O O) h 1 O O 0 O O O m4 (λ_ _=>rfl) λa1 F w h=>i5 ⟨(m-1),?_,_,_,_,vs3 O (V4 (λn=>Value.slice _ n _) ?_) O,?_,Hp.subst (h.q 2 [1] O) ?_⟩⟩)
  ·omega
  ·grind[]
  ·grind[]
  ·grind[]
 ·have g:i=l.length:=m4
  subst g;rw[jg]at h⊢;exact⟨b,d,rfl,h⟩
end
end Go.Proofs.YtaaihojmcfaejaaGreatDoor
