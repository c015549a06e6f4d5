/- Lemmas for the tops: the walk of the house and its laws. No condition is added. -/
import Derived.Test.YtaaihojmcfaejaaGreatDoorYb
import Derived.Test.YtaaihojmcfaejaaGreatDoorQah
import Derived.Test.YtaaihojmcfaejaaGreatDoorQaf
set_option linter.all false
namespace Go.Proofs.YtaaihojmcfaejaaGreatDoor
open Go Go.RowKit Go.Proofs.Tryz
def Ba.f(v:Ba):List Value:=[.bool v.K3,I v.n]
section
variable{c w:World}{R:List HP}{a:Option Addr}{cap:Nat}
theorem aoH(l:List E2)(x:E2)(k:w4):aop (l++[x]) k=if x.key=k then x.val else aop l k:=by unfold aop;rw[Qh];rfl
theorem ape{l:List E2}{k:w4}(hs:Sx F2 c a l.length cap l)(A:l.length<=1000000000):Cs 28 #[.slice a l.length cap,k.v] c (Zb c (aop l k).v []):=by
 have h:=Hp.start c;refine R2 func28 O (I2 h O λb1 w h=>I2 h O λb2 w h=>I2 h O λj w h=>J3 h 0 O O O λw h=>p5.A6 kn [0,3,4,5,6] (λm vs w'=>∃(i:Nat),vs=[.slice a l.length cap,Pt b1,Pt b2,Pt j,I i]∧i+m=l.length∧Hp c w' [bk j (aop (l.take i) k).f 40,bk b2 [.bool false,I 0] 40,bk b1 [B8 k.a,B8 k.b,B8 k.x,B8 k.y] 35]) l.length ⟨0,rfl,m4,h⟩ ?_);rintro m _ w1 D ⟨i,rfl,C,h⟩;refine BR.T5 (λr=>?_) λr=>?_
 ·obtain⟨x,hx⟩:∃x,i3 l i=some x:=⟨_,by rw[Z0];exact d8 m4⟩;have d:=aoH (l.take i) x k;rw[<-O7 hx]at d;obtain⟨v,g⟩:∃v,aop (l.take i) k=v:=⟨_,rfl⟩;rw[g]at h d;by_cases e:x.key=k
  ·rw[S1 e]at d;refine sv [0,1,2,3,4,5,6] ?_;replace h:=h.drew;refine Lz hs λt n u=>Oa.aox h hs Zb9 hx (k:=0) (s:=4) O (O4 h 2 O O (RD.eqk (p:=x.key) (q:=k) (BR.Mv e (Lz hs λb5 z E=>Oa.aox h hs Zb9 hx (k:=4) (s:=2) O (J3 h 0 O O O λw h=>i5 ⟨(m-1),?_,_,rfl,?_,Hp.subst h ?_⟩)))))
   ·omega
   ·grind[]
   ·rw[d];rfl
  ·rw[V0 e]at d;refine sv [0,1,2,3,4,5,6] ?_;replace h:=h.drew;refine Lz hs λt n u=>Oa.aox h hs Zb9 hx (k:=0) (s:=4) O (O4 h 2 O O (RD.eqk (p:=x.key) (q:=k) (BR.YD e (i5 ⟨(m-1),?_,_,rfl,?_,Hp.subst h ?_⟩))))
   ·omega
   ·grind[]
   ·grind[]
 ·have o:i=l.length:=m4
  subst o;rw[jg]at h;obtain⟨v,g⟩:∃v,aop l k=v:=⟨_,rfl⟩;rw[g]at h⊢;exact O4 h 0 O O (J3 h 1 O O O λw h=>O4 h 1 O O ⟨rfl,h.q 3 [] O⟩)
end
end Go.Proofs.YtaaihojmcfaejaaGreatDoor
