/- Lemmas for the tops: the walk of the house and its laws. No condition is added. -/
import Derived.Test.YtaaihojmcfaejaaGreatDoorQbc
import Derived.Test.YtaaihojmcfaejaaGreatDoorQah
import Derived.Test.YtaaihojmcfaejaaGreatDoorQaf
set_option linter.all false
namespace Go.Proofs.YtaaihojmcfaejaaGreatDoor
open Go Go.RowKit Tryz
theorem aoO{P:Prop}(h:P:=by
 refine sv [0,1,3,4,2,5,6] ?_;replace h:=h.drew;refine⟨_,rfl,m4,m4,⟨_,rfl,m4,m4,U0 h 1 O O (U0 h 0 O O (BR.ne (λg2=>?_) λg2=>?_))⟩⟩
 ·refine sv [0,1,3,4,2,5,6,7] ?_;replace h:=h.drew;refine⟨_,rfl,m4,m4,⟨_,rfl,m4,m4,U0 h 1 O O (U0 h 0 O O ⟨A8 O ?_,h.q 2 [] O⟩)⟩⟩;exact decide_eq_decide.2 (by unfold kN;omega)
 ·refine i5 ⟨(m-1),?_,_,rfl,?_,?_,h⟩
  ·omega
  ·grind[]
  ·grind[]):P:=h
section
variable{c w:World}{R:List HP}
theorem aoQ{a b:w4}(h:Hp c w R):Cr 142 #[a.v,b.v] w c (.bool (decide (kN a<kN b))) R:=by
 have z:=a.a.isLt;have u:=a.b.isLt;have s:=a.x.isLt;have r:=a.y.isLt;have p:=b.a.isLt;have kb:=b.b.isLt;have o:=b.x.isLt;have n:=b.y.isLt;refine R2 func142 O (I2 h O λb1 w h=>I2 h O λb2 w h=>p5.A6 kn [2,3,5] (λm vs w'=>∃i:Nat,vs=[Pt b1,Pt b2,I i]∧i+m=4∧((0<i->a.a.toNat=b.a.toNat)∧(1<i->a.b.toNat=b.b.toNat)∧(2<i->a.x.toNat=b.x.toNat)∧(3<i->a.y.toNat=b.y.toNat))∧Hp c w' (bk b2 [B8 b.a,B8 b.b,B8 b.x,B8 b.y] 35::bk b1 [B8 a.a,B8 a.b,B8 a.x,B8 a.y] 35::R)) 4 ⟨0,rfl,rfl,m4,h⟩ ?_);rintro m _ w1 A ⟨i,rfl,t,d,h⟩;obtain⟨l,k,j,g⟩:=d;refine BR.T5 (λf=>?_) λf=>?_
 ·have e:i=0∨i=1∨i=2∨i=3:=m4
  rcases e with rfl|rfl|rfl|rfl
  ·exact aoO
  ·exact aoO
  ·exact aoO
  ·refine sv [0,1,3,4,2,5,6] ?_;replace h:=h.drew;refine⟨_,rfl,m4,m4,⟨_,rfl,m4,m4,U0 h 1 O O (U0 h 0 O O (BR.ne (λg2=>?_) λg2=>?_))⟩⟩
   ·refine sv [0,1,3,4,2,5,6,7] ?_;replace h:=h.drew;refine⟨_,rfl,m4,m4,⟨_,rfl,m4,m4,U0 h 1 O O (U0 h 0 O O ⟨A8 O ?_,h.q 2 [] O⟩)⟩⟩;exact decide_eq_decide.2 (by unfold kN;omega)
   ·refine i5 ⟨(m-1),?_,_,rfl,?_,?_,h⟩
    ·omega
    ·grind[]
    ·omega
 ·have:i=4:=m4
  subst this;refine⟨A8 O ?_,h.q 2 [] O⟩;exact(Em (by unfold kN;omega)).symm
end
end Go.Proofs.YtaaihojmcfaejaaGreatDoor
