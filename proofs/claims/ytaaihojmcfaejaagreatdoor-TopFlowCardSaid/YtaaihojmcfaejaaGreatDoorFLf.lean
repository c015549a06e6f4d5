/- Lemmas for the tops: the walk of the house and its laws. No condition is added. -/
import Derived.Test.YtaaihojmcfaejaaGreatDoorQah
import Derived.Test.YtaaihojmcfaejaaGreatDoorVb
import Derived.Test.YtaaihojmcfaejaaGreatDoorQae
set_option linter.all false
namespace Go.Proofs.YtaaihojmcfaejaaGreatDoor
open Go Go.RowKit Tryz
theorem aeO.refl(g:M9):aeO g g:=by intro tx p C0 aiB v h a;unfold M9.o9 at h⊢<;>grind
theorem aeO.trans{a b c:M9}(h:aeO a b)(k:aeO b c):aeO a c:=
 λtx p C0 aiB v d e=>k tx p aiB aiB v (h tx p C0 aiB v d e) (lm _)
theorem aeO.of{g a:M9}(h:∀tx r,K0 g.B0 tx=some r->¬r.r9=0->K0 a.B0 tx=some r):aeO g a:=by intro tx p C0 aiB v b c;have h0:=aeO.refl g tx p C0 aiB v b c;unfold M9.o9 at h0⊢<;>grind
theorem aeO.U6(g:M9)(tx:Int)(J0:BitVec 16)(a:Int):aeO g (g.U6 tx J0 a).2:=by grind[aeO.of,M9.U6,Y0]
theorem aeO.put(g:M9)(tx:Int)(s9:Bool):aeO g (g.put tx s9).2:=by
 refine aeO.of λt r b f=>?_;unfold M9.put;generalize(if s9 then(2:Int)else 1)=c;split
 ·exact b
 ·rename_i q a;split
  ·exact b
  ·rename_i h;by_cases d:t=tx
   ·subst d;rw[G1];rw[b]at a;injection a with a;subst a;have:r.r9=c:=by
     by_cases e:r.r9=c
     ·exact e
     ·omega
    rw[<-this]
   grind[Y0]
theorem acK.le{g a:M9}{C0 aiB:Int}{m:P9}(h:acK g C0 m)(c:aeO g a)(b:C0<=aiB):acK a aiB m:=λe=>c _ _ _ _ _ (h e) b
theorem IT.le{g a:M9}{C0 aiB:Int}{e:End}{m:P9}(h:IT g C0 e m)(c:aeO g a)(b:C0<=aiB):IT a aiB e m:=⟨h.1,h.2.le c b⟩
theorem aeX.le{g d:M9}{C0 aiB:Int}{e:End}{w:Way}(h:aeX g C0 e w)(c:aeO g d)(b:C0<=aiB):aeX d aiB e w:=⟨λm a=>(h.1 m a).le c b,λm a=>(h.2 m a).le c b⟩
section
variable{C0:Int}{k k' k2:J2}
theorem KF.refl:KF C0 k k:=⟨aeO.refl _,id,rfl,rfl,rfl,rfl⟩
theorem KF.trans(a:KF C0 k k')(b:KF C0 k' k2):KF C0 k k2:=⟨a.R4.trans b.R4,λh=>b.Er (a.Er h),b.D0.trans a.D0,b.Kd.trans a.Kd,b.all.trans a.all,b.U1.trans a.U1⟩
theorem KF.apz{g:M9}(h:aeO k.R4 g):KF C0 k {k with R4:=g}:=⟨h,λb x a=>(b x a).le h (lm _),rfl,rfl,rfl,rfl⟩
theorem KF.way{e:End}{w w':Way}(b:K0 k.ways e=some w)(h:aeX k.R4 C0 e w->aeX k.R4 C0 e w'):KF C0 k {k with ways:=R1 k.ways e w'}:=by
 refine⟨aeO.refl _,λc x a=>?_,rfl,rfl,rfl,Nk (by rw[b];rfl)⟩;rcases Sa a with rfl|a
 ·exact h (c _ (Q7 b))
 ·exact c x a
theorem KF.Z6{N3 to t:Int}{m:P9}(c:acK k.R4 C0 m):KF C0 k (k.Z6 N3 to m t).2:=by
 unfold J2.Z6;split;·exact KF.refl
 split;·exact KF.refl
 split;·exact KF.refl
 generalize(if k.Ia N3 then(⟨to,0⟩:End)else⟨N3,1⟩)=e;simp only;split;·exact KF.refl
 rename_i d;split;·exact KF.refl
 rename_i w b;refine KF.way b λh=>⟨λx a=>?_,h.2⟩;rcases rh.1 a with a|a
 ·exact h.1 x a
 ·rw[Gs]at a;subst a;exact⟨Zb1,c⟩
theorem KF.Za{E0:Int}{up:Bool}:KF C0 k (k.Za E0 up).2:=by
 unfold J2.Za;split;·exact KF.refl
 rename_i w b;exact KF.way b λh=>⟨λx a=>(by cases a),h.2⟩
theorem apy{E0:Int}{up:Bool}(h:vV C0 k):∀m∈(k.Za E0 up).1,IT k.R4 C0 ⟨E0,Ec up⟩ m:=by
 unfold J2.Za;split
 ·simp
 ·rename_i w a;exact(h _ (Q7 a)).1
theorem KF.A9{E0:Int}{up:Bool}{m:P9}(c:acK k.R4 C0 m):KF C0 k (k.A9 E0 up m).2:=by
 unfold J2.A9;split;·exact KF.refl
 rename_i w b;split;·exact KF.refl
 rename_i d;refine KF.way b λh=>⟨h.1,λx a=>?_⟩;rcases QK x a with a|rfl
 ·exact h.2 x a
 ·exact⟨Zb1,c⟩
theorem KF.J6{N3 E0 i t:Int}:KF C0 k (k.J6 N3 E0 i t).2.2:=by
 unfold J2.J6;split;·exact KF.refl
 rename_i w b;split;·exact KF.refl
 split;·exact KF.refl
 exact KF.way b λh=>⟨h.1,λx a=>h.2 x (mv.1 x a)⟩
theorem KF.clear{N3:Int}:KF C0 k (k.clear N3):=by
 refine⟨aeO.refl _,λh x e=>?_,rfl,rfl,rfl,?_⟩
 ·obtain⟨y,d,rfl⟩:=Un.1 e;have c:=h y d;have:∀a b,aeX k.R4 C0 y.1 (y.2.clear a b):=by intro a b;unfold Way.clear;cases a<;>cases b<;>simp only[if_true,if_false,Bool.false_eq_true]<;>refine⟨?_,?_⟩<;>first|exact c.1|exact c.2|(intro m f;cases f)
  show aeX k.R4 C0 y.1 (if y.1.up then _ else _);grind
 simp[J2.clear]
end
end Go.Proofs.YtaaihojmcfaejaaGreatDoor
