/- Lemmas for the tops: the walk of the house and its laws. No condition is added. -/
import Derived.Test.YtaaihojmcfaejaaGreatDoorYd
import Derived.Test.YtaaihojmcfaejaaGreatDoorQah
import Derived.Test.YtaaihojmcfaejaaGreatDoorQaf
set_option linter.all false
namespace Go.Proofs.YtaaihojmcfaejaaGreatDoor
open Go Go.RowKit Go.Proofs.Tryz
section
variable{c w:World}{R:List HP}{a ab ad:Option Addr}{cap cb cd:Nat}
theorem apb{l:List E2}(hs:Sx F2 c a l.length cap l)(v:l.length<=1000000000):Cs 60 #[.slice a l.length cap] c (λe w'=>∃b d,e= .returned (.slice b (aoy l).length d)∧Hp c w' [so 158 F2 b d (aoy l)]):=by
 have h:=Hp.start c;have C:=aor l;refine R2 func60 O (ga (aoZ hs v) λa1 o w h=>?_);unfold aoy;obtain⟨all,hal⟩:∃all,aoo l=all:=⟨_,rfl⟩;rw[hal]at h C⊢;refine I2 h O λb1 w h=>?_;replace h:=Hp.vg (E:=F2) [] h O (ye _);refine p5.A6 kn [3,4,5] (λm vs w'=>∃(i:Nat)(b:Option Addr)(d:Nat),vs=[.slice a1 all.length o,.slice b ((all.take i).filter λp=>p.val.K3).length d,I i]∧i+m=all.length∧Hp c w' [so 158 F2 b d ((all.take i).filter λp=>p.val.K3),so 158 F2 a1 o all]) all.length ⟨0,_,_,rfl,m4,h⟩ ?_;rintro m _ w1 L ⟨i,b,d,rfl,K,h⟩;have k:=Rh (λ(p:E2)=>p.val.K3) (all.take i);rw[Ga]at k;refine BR.T5 (λA=>?_) λA=>?_
 ·obtain⟨x,hx⟩:∃x,i3 all i=some x:=⟨_,by rw[Z0];exact d8 m4⟩;have f:((all.take (i+1)).filter λp=>p.val.K3)=((all.take i).filter λp=>p.val.K3)++(if x.val.K3=true then[x]else[]):=by rw[O7 hx,uv];congr 1;by_cases g:x.val.K3=true<;>simp[g]
  obtain⟨r9,t⟩:∃r9,((all.take i).filter λp=>p.val.K3)=r9:=⟨_,rfl⟩;rw[t]at h f k⊢;by_cases j:x.val.K3=true
  ·rw[S1 j]at f;refine jd h 1 O λb2 s G=>LD.sl h 1 O Zb9 Zb9 O (BR.s9 Zb9 (jd h 1 O λF r H=>Oa.sl h 1 O Zb9 Zb9 (I2 h O λD w h=>A4.Yb (u:=_) (Ca.of (w9:=24) kn O O O O O O) h 1 O O 0 O O O m4 (λ_ _=>rfl) λa2 J w h=>i5 ⟨(m-1),?_,_,_,_,vs3 O (V4 (λn=>Value.slice _ n _) ?_) O,?_,Hp.subst (h.q 3 [1,2] O) ?_⟩)))
   ·omega
   ·grind[]
   ·grind[]
   ·grind[]
  ·rw[V0 j]at f;refine jd h 1 O λb2 s G=>LD.sl h 1 O Zb9 Zb9 O (BR.O' (λz=>?_) λz=>?_)
   ·refine jd h 1 O λF r H=>Oa.sl h 1 O Zb9 Zb9 (I2 h O λD w h=>A4.Yb (u:=_) (Ca.of (w9:=24) kn O O O O O O) h 1 O O 0 O O O m4 (λ_ _=>rfl) λa2 J w h=>i5 ⟨(m-1),?_,_,_,_,vs3 O (V4 (λn=>Value.slice _ n _) ?_) O,?_,Hp.subst (h.q 3 [1,2] O) ?_⟩)
    ·omega
    ·grind[]
    ·grind[]
    ·grind[]
   ·refine i5 ⟨(m-1),?_,_,_,_,vs3 O (V4 (λn=>Value.slice _ n _) ?_) O,?_,Hp.subst h ?_⟩
    ·omega
    ·grind[]
    ·grind[]
    ·grind[]
 ·have y:i=all.length:=m4
  subst y;rw[jg]at h⊢;exact⟨b,d,rfl,h.q 2 [0] O⟩
theorem apd{b d:List E2}(i:Sx F2 c ab b.length cb b)(g:Sx F2 c ad d.length cd d)(k:b.length+d.length<=1000000000):Cs 29 #[.slice ab b.length cb,.slice ad d.length cd] c (λe w'=>∃a f,e= .returned (.slice a (aou b d).length f)∧Hp c w' [so 158 F2 a f (aou b d)]):=by have h:=Hp.start c;refine R2 func29 O (I2 h O λb1 w h=>?_);replace h:=Hp.vg (E:=F2) [] h O (ye _);refine A4.Pk (ys:=b) (Ca.of (w9:=24) kn O O O O O O) h 0 O O O (i.up h).sl (by simp only[List.length_append,List.length_nil];omega) (λ_ _=>rfl) λn o w h=>A4.Pk (ys:=d) (Ca.of (w9:=24) kn O O O O O O) h 0 O O O (g.up h).sl (by simp only[List.length_append,List.length_nil];omega) (λ_ _=>rfl) λm amH w h=>ga (apb (h.Z4 0 O) (by simp only[List.length_append,List.length_nil];omega)) λl aoY w j=>?_;replace h:=h.H6 j;exact⟨_,_,rfl,h.q 2 [0] O⟩
end
end Go.Proofs.YtaaihojmcfaejaaGreatDoor
