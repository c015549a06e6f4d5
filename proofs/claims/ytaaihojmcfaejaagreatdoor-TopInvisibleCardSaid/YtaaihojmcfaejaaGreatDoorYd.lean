/- Lemmas for the tops: the walk of the house and its laws. No condition is added. -/
import Derived.Test.YtaaihojmcfaejaaGreatDoorYc
import Derived.Test.YtaaihojmcfaejaaGreatDoorQah
import Derived.Test.YtaaihojmcfaejaaGreatDoorQaf
set_option linter.all false
namespace Go.Proofs.YtaaihojmcfaejaaGreatDoor
open Go Go.RowKit Go.Proofs.Tryz
theorem aoT{P Q:Prop}(q:Q)(f:Q->P:=by intro q;exact Y6 h [0,1,52,3,4,5,6,7,8,10,11,12,13,9,64,115,16] λh=>⟨h,Zt (jd h 0 O λb2 o1 U9=>Lz hs λb3 o2 Lj=>Oa.slk (λ_ h=>h) 0 O Zb9 hy (k:=0) (s:=4) O (Oa.aox h hs Zb9 hx (k:=0) (s:=4) O ⟨h,N1 (aoQ (a:=y.key) (b:=x.key) h) λw h=>BR.YD g3 (sv [0,1,2,3,4,5,6,7,8,10,11,12,13,9,14,15,16] (q b2 o1 U9 b3 o2 Lj w h))⟩))⟩):P:=f q
theorem aoS{P Q:Prop}(q:Q)(f:Q->P:=by intro q;exact A4.Pk (ys:=r9.drop j) (Ca.of (w9:=24) kn O O O O O O) h 0 O O O (alt LW) (by rw[Ve];simp only[List.length_nil];omega) (λ_ _=>rfl) λa6 PK w h=>q a6 PK w h):P:=f q
theorem aoR{P Q:Prop}(q:Q)(f:Q->P:=by intro q;exact ja.D0 kn o8 (λ_=>True) (qs [0,1,2,3,4,5,6,10] (ws [7] (vs [8,9,11] (qs [12] .done)))) Zb2 trivial q):P:=f q
section
variable{α:Type}{E:Qb α}{e:TypeId}{c w:World}{L L':List HP}{a:Option Addr}{cap n:Nat}{xs:List α}
theorem so_cutm{c:Sub}{i:Nat}(d:i<=xs.length)(g:so e E a cap xs c):so e E a i (xs.take i) c:=by
 rcases g with⟨rfl,rfl,rfl⟩|⟨b,pre,post,rfl,j,n,m,l⟩
 ·simp at d;subst d;exact .inl ⟨rfl,rfl,rfl⟩
 ·refine .inr ⟨b,pre,E.P3 (xs.drop i)++post,rfl,?_,Zb5,?_,m4⟩
  ·have k:E.P3 xs=E.P3 (xs.take i)++E.P3 (xs.drop i):=by rw[<-E.Z9,Vd]
   have f:c b=some (.cells (pre++E.P3 xs++post).toArray e):=j;show c b=some (.cells (pre++E.P3 (xs.take i)++(E.P3 (xs.drop i)++post)).toArray e);rw[f,k];simp
  ·rw[Ga,Ue d,cu,Nat.zero_mul];exact ye _
theorem Hp.so_cutm(i:Nat)(h:Hp c w (so e E a cap xs::L))(d:i<=xs.length):Hp c w (so e E a i (xs.take i)::L):=h.imp λ_ b=>Go.Proofs.YtaaihojmcfaejaaGreatDoor.so_cutm d b
theorem RD.aoX{P:Program}{T:Wm}{X:Nat->Bool}(i:N8 P T X){C:World->Prop}{t:TypeId}{j:TypeInfo}{sz n m:Nat}{c b:Value}{K:Value->Prop}(g:T t=some ⟨.slice e,j⟩)(hs:Rb T e=some sz)
  (h:fF (some c) n=some (m:Int))(f:fF (some b) 0=some (m:Int))(d:m<=cap∧n<=cap)(k:K (.slice a m m)):RD P C (Instr.sliceAt t (.slice a n cap) none (some c) (some b)) K:=by
 refine RD.aki (l:=0) (m:=m) (x:=m) i g hs O h f ⟨ye _,V7 _,d.1,d.2⟩ ?_;have o:(if m=0 then a else a.map (·.add (0*sz)))=a:=by
  split
  ·rfl
  ·cases a with
   |none=>rfl
   |some x=>simp[Addr.add]
 rw[o];exact k
end
theorem aoq{p:E2}{v:List E2}:∀{u:List E2},(∀y∈u,kN y.key<kN p.key)->aon p (u++v)=u++aon p v
 |[],_=>rfl
 |y::u,h=>by rw[PE,PE];show(if kN y.key<kN p.key then y::aon p (u++v)else _)=_;rw[S1 (h y (Ka ..)),aoq (λz a=>h z (Ta _ a))]
theorem aoA(p:E2):∀l:List E2,(aon p l).length<=l.length+1
 |[]=>by simp[aon]
 |y::l=>by
  have:=aoA p l;unfold aon;split
  ·simp only[List.length_cons];omega
  ·split<;>simp
theorem aoG(l:List E2)(x:E2):aoo (l++[x])=aon x (aoo l):=by unfold aoo;rw[Qh];rfl
theorem aor(l:List E2):(aoo l).length<=l.length:=by
 have:∀(l r9:List E2),(l.foldl (λ(r9:List E2)(p:E2)=>aon p r9) r9).length<=r9.length+l.length:=by
  intro l;induction l with
  |nil=>intro r9;simp
  |cons p l a=>intro r9;have c:=a (aon p r9);have b:=aoA p r9;simp only[List.foldl_cons,List.length_cons];omega
 have:=this l [];unfold aoo;simpa using this
section
variable{c w:World}{R:List HP}{a:Option Addr}{cap:Nat}
theorem aoZ{l:List E2}(hs:Sx F2 c a l.length cap l)(hn:l.length<=1000000000):Cs 92 #[.slice a l.length cap] c (λe w'=>∃d o,e= .returned (.slice d (aoo l).length o)∧Hp c w' [so 158 F2 d o (aoo l)]):=by
 have h:=Hp.start c;refine R2 func92 O (I2 h O λb1 w h=>?_);replace h:=Hp.vg (E:=F2) [] h O (ye _);refine p5.A6 kn [0,3,4] (λm vs w'=>∃(i:Nat)(d:Option Addr)(o:Nat),vs=[.slice a l.length cap,.slice d (aoo (l.take i)).length o,I i]∧i+m=l.length∧Hp c w' [so 158 F2 d o (aoo (l.take i))]) l.length ⟨0,_,_,rfl,m4,h⟩ ?_;rintro m _ w1 e0 ⟨i,d,o,rfl,hm,h⟩;refine BR.T5 (λY=>?_) λY=>?_
 ·obtain⟨x,hx⟩:∃x,i3 l i=some x:=⟨_,by rw[Z0];exact d8 m4⟩;have A:=aoG (l.take i) x;rw[<-O7 hx]at A;have F:=aor (l.take i);rw[Ga]at F;obtain⟨r9,R⟩:∃r9,aoo (l.take i)=r9:=⟨_,rfl⟩;rw[R]at h A F⊢;have xr:=h.Ch 0 O;refine p5.A6 kn [0,3,4,5] (λm vs w'=>∃(j:Nat),vs=[.slice a l.length cap,.slice d r9.length o,I i,I j]∧j+m=r9.length∧(∀y∈r9.take j,kN y.key<kN x.key)∧Hp c w' [so 158 F2 d o r9]) r9.length ⟨0,rfl,m4,Zb3,h⟩ ?_;rintro K _ w1 e1 ⟨j,rfl,II,z,h⟩;have hlj:(r9.take j).length=j:=by rw[Ga];omega
  by_cases C:j<r9.length
  ·obtain⟨y,hy⟩:∃y,i3 r9 j=some y:=⟨_,by rw[Z0];exact d8 C⟩;have hty:=O7 hy;by_cases g3:kN y.key<kN x.key
   ·
    refine Y6 h [0,1,52,3,4,5,6,7,8,10,11,12,13,9,64,115,16] λh=>⟨h,Zt (jd h 0 O λb2 o1 U9=>Lz hs λb3 o2 Lj=>Oa.slk (λ_ h=>h) 0 O Zb9 hy (k:=0) (s:=4) O (Oa.aox h hs Zb9 hx (k:=0) (s:=4) O ⟨h,N1 (aoQ (a:=y.key) (b:=x.key) h) λw h=>Zt (i5 ⟨(K-1),?_,_,rfl,?_,?_,h⟩)⟩))⟩
    ·omega
    ·grind[]
    ·grind[]
   ·have r:aon x r9=r9.take j++(if y.key=x.key then x::r9.drop (j+1)else x::r9.drop j):=by
     have T:r9.drop j=y::r9.drop (j+1):=by rw[Z0]at hy;obtain⟨X,V⟩:=Cp.1 hy;rw[IN X,V]
     have e:=aoq (v:=r9.drop j) z;rw[Vd]at e;rw[e,T];show _++(if kN y.key<kN x.key then _ else _)=_;rw[V0 g3]
    by_cases t:y.key=x.key
    ·rw[S1 t]at r;refine aoT λb2 o1 U9 b3 o2 Lj w h=>?_;replace h:=h.drew;refine Zt (jd h 0 O λD J L=>Lz hs λb5 H M=>Oa.aoV h 0 O Zb9 hy (k:=0) (s:=4) O (Oa.aox h hs Zb9 hx (k:=0) (s:=4) O (RD.eqk (p:=y.key) (q:=x.key) (BR.Mv t (Lz hs λb6 G N=>Oa.ro h hs Zb9 Zb9 (jd h 0 O λb7 o6 ha6=>ST.qf (y:=x) h 0 O Zb9 hy O O O O O λw h=>i5 ?_))))));refine⟨(m-1),?_,_,_,_,vs3 O (V4 (λn=>Value.slice _ n _) ?_) O,?_,Hp.subst h ?_⟩
     ·omega
     ·grind[]
     ·grind[]
     ·have Z:r9.set j x=r9.take j++x::r9.drop (j+1):=by rw[List.set_eq_take_append_cons_drop,S1 C]
      rw[A,r,<-Z];rfl
    ·rw[V0 t]at r;refine aoT λb2 o1 U9 b3 o2 Lj w h=>?_;replace h:=h.drew;refine Zt (jd h 0 O λD J L=>Lz hs λb5 H M=>Oa.aoV h 0 O Zb9 hy (k:=0) (s:=4) O (Oa.aox h hs Zb9 hx (k:=0) (s:=4) O (RD.eqk (p:=y.key) (q:=x.key) (BR.YD t (I2 h O λb6 w h=>?_)))));replace h:=Hp.vg (E:=F2) [] h O (ye _);refine RD.cut (l:=j) (m:=r9.length) kn O O O O m4 ?_;have LW:=(h.Z4 1 O).cut (l:=j) (m:=r9.length) m4;rw[jg]at LW;refine aoS λa6 PK w h=>?_;replace h:=Hp.so_cutm j (h.g [1] O) m4;refine aoR ?_;replace h:=h.drew;refine RD.aoX kn O O O O m4 (Lz hs λb7 G N=>Oa.ro h hs Zb9 Zb9 ⟨trivial,I2 h O λb8 w h=>A4.Yb (u:=x) (Ca.of (w9:=24) kn O O O O O O) h 1 O (V4 (λn=>Value.slice d n j) hlj.symm) 0 O O O (by rw[hlj];omega) (λ_ _=>rfl) λa8 aoY w h=>A4.Pk (ys:=[]++r9.drop j) (Ca.of (w9:=24) kn O O O O O O) h 1 O O O (h.Z4 2 O).sl (by simp only[List.length_append,List.length_take,List.length_drop,List.length_cons,List.length_nil];omega) (λ_ _=>rfl) λa9 aoi w h=>i5 ⟨(m-1),?_,_,_,_,vs3 O (V4 (λn=>Value.slice _ n _) ?_) O,?_,Hp.subst (h.q 3 [1] O) ?_⟩⟩)
     ·omega
     ·grind[]
     ·grind[]
     ·grind[]
  ·have EV:j=r9.length:=m4
   have r:aon x r9=r9.take j++x::r9.drop j:=by subst EV;rw[jg]at z;have e:=aoq (v:=[]) z;rw[Jb]at e;rw[jg,sE];exact e
   refine Y6 h [0,1,52,3,4,5,6,7,8,10,11,12,13,9,64,115,16] λh=>⟨h,Te ⟨h,m5 (sv [0,1,2,3,4,5,6,7,8,10,11,12,13,9,14,15,16] ?_)⟩⟩;replace h:=h.drew;refine Te (m5 (I2 h O λb2 w h=>?_));replace h:=Hp.vg (E:=F2) [] h O (ye _);refine RD.cut (l:=j) (m:=r9.length) kn O O O O m4 ?_;have LW:=(h.Z4 1 O).cut (l:=j) (m:=r9.length) m4;rw[jg]at LW;refine aoS λa6 PK w h=>?_;replace h:=Hp.so_cutm j (h.g [1] O) m4;refine aoR ?_;replace h:=h.drew;refine RD.aoX kn O O O O m4 (Lz hs λb3 o1 U9=>Oa.ro h hs Zb9 Zb9 ⟨trivial,I2 h O λD w h=>A4.Yb (u:=x) (Ca.of (w9:=24) kn O O O O O O) h 1 O (V4 (λn=>Value.slice d n j) hlj.symm) 0 O O O (by rw[hlj];omega) (λ_ _=>rfl) λa8 aoY w h=>A4.Pk (ys:=[]++r9.drop j) (Ca.of (w9:=24) kn O O O O O O) h 1 O O O (h.Z4 2 O).sl (by simp only[List.length_append,List.length_take,List.length_drop,List.length_cons,List.length_nil];omega) (λ_ _=>rfl) λa9 aoi w h=>i5 ⟨(m-1),?_,_,_,_,vs3 O (V4 (λn=>Value.slice _ n _) ?_) O,?_,Hp.subst (h.q 3 [1] O) ?_⟩⟩)
   ·omega
   ·grind[]
   ·grind[]
   ·grind[]
 ·have S:i=l.length:=m4
  subst S;rw[jg]at h⊢;exact⟨d,o,rfl,h⟩
end
end Go.Proofs.YtaaihojmcfaejaaGreatDoor
