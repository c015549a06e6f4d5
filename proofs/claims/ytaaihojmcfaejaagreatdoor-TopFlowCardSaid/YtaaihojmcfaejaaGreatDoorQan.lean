/- Lemmas for the tops: the walk of the house and its laws. No condition is added. -/
import Derived.Test.YtaaihojmcfaejaaGreatDoorQam
import Derived.Test.YtaaihojmcfaejaaGreatDoorQah
import Derived.Test.YtaaihojmcfaejaaGreatDoorQaf
import Derived.Test.YtaaihojmcfaejaaGreatDoorQal
import Derived.Test.YtaaihojmcfaejaaGreatDoorQai
import Derived.Test.YtaaihojmcfaejaaGreatDoorQak
set_option linter.all false
namespace Go.Proofs.YtaaihojmcfaejaaGreatDoor
open Go Go.RowKit Tryz
variable{r:A5}{d:C6}{tx:Int}{N0:List E2}{R:List HP}{b cap:Nat}{a:Option Addr}{α β:Type}{c w:World}{p:Z1}{k:w4}{xs:List α}
theorem Hp.ajO{w':World}(h:Hp w w' []):∃q os',w'=Go.Sort.grow (w.drewN q) os':=by
 have i:∀k,k<w.heap.size->w'.heap[k]? =w.heap[k]?:=by intro k a;have e:=uI a;rw[e];exact h.old e
 have j:w.heap.size<=w'.heap.size:=by apply Hs;intro l;have:=i w'.heap.size m4;rw[Array.getElem?_eq_none (V7 _),uI m4]at this;cases this
 have f:w'.heap=w.heap++w'.heap.extract w.heap.size w'.heap.size:=by
  apply uE;intro k;by_cases a:k<w.heap.size
  ·grind
  ·grind
 refine⟨w'.drawn-w.drawn,w'.heap.extract w.heap.size w'.heap.size,?_⟩;have d:=h.os;have c:=h.tape;have b:=h.output;have g:=h.drawn;unfold Go.Sort.grow World.drewN;obtain⟨heap,tape,drawn,os,output⟩:=w';simp only at d c b g f⊢;rw[<-f,d,c,b];congr 1;omega
section
variable[Inhabited α]{E:Qb α}
theorem my(xs:List α):(Go.Sort.flatK E.f E.sz xs.toArray).toList=E.P3 xs:=by
 apply tv;intro t;by_cases i:t<xs.length*E.sz
 ·have hs:0<E.sz:=by
   rcases eL E.sz with e|e
   ·simp_all
   ·exact e
  have b:t/E.sz<xs.length:=Nat.div_lt_of_lt_mul Zb1;have j:t%E.sz<E.sz:=kE _ hs;have k:=E.len xs[t/E.sz];have g:i3 xs (t/E.sz)=some xs[t/E.sz]:=by rw[Z0];exact d8 b
  have d:i3 (E.f xs[t/E.sz]) (t%E.sz)=some ((E.f xs[t/E.sz])[t%E.sz]'m4):=by rw[Z0];exact d8 _
  have a:=E.nj xs _ _ _ _ g d;have c:t/E.sz*E.sz+t%E.sz=t:=by rw[qE];exact Nat.div_add_mod t E.sz
  rw[c,Z0]at a;rw[a,DE];simp_all[Go.Sort.flatK]
 simp_all[Qb.p8]
variable{e:TypeId}{ρ:Go.Shelf.Ren}
theorem xM(pre l l' post:List Value)(a:l'.length=l.length):Go.Sort.putCells id pre.length l'.toArray (pre++l++post).toArray=(pre++l'++post).toArray:=by unfold Go.Sort.putCells<;>grind
theorem nS{pre post:List Value}{d:List α}{w':World}(h:Hp c w (so e E (some ⟨b,pre.length,none⟩) cap xs::R))(u:¬xs=[])(p:VE w b (pre++E.P3 xs++post) e)(C:d.length=xs.length)(y:∀k,k<w.heap.size->w'.heap[k]? =if k=b then some (.cells (pre++E.P3 d++post).toArray e (0,0))else w.heap[k]?)(s:w.heap.size<=w'.heap.size)(hos:w'.os=w.os)(aje:w'.tape=w.tape)(alX:w'.output=w.output)(t:w.drawn<=w'.drawn):Hp c w' (so e E (some ⟨b,pre.length,none⟩) cap d::R):=by
 have m:=p.t8;have f:ua (λk=>k=b) w w':=⟨s,λk f hkb=>Zb6,hos,aje,alX,t⟩;refine h.Tm (i:=0) O f (λj o n=>?_) O;rcases o with⟨h0,_,_⟩|⟨A,aly,aip,g,r,x,v,q⟩
 ·cases h0
 ·injection g with g;injection g with hbb F _;subst hbb;have h3':j b=some (.cells (aly++E.P3 xs++aip).toArray e (0,0)):=r;have a:=n b _ h3';refine⟨λk f=>Zb1,.inr ⟨b,pre,post,rfl,?_,m4,?_,q⟩⟩
  ·show(if w.heap.size<=b∨j b≠none then Up _ b else none)=_;rw[S1 (.inr (by rw[h3'];simp))];show w'.heap[b]? =_;grind
  ·have adY:Up w b=some (.cells (pre++E.P3 xs++post).toArray e (0,0)):=m;rw[adY]at a;injection a with a;injection a with l _ _;have D:=V4 (λz=>z.toList.length) l;grind
theorem SF(Gx:SlLaysF0.n6 prog ρ)(Q:∀w,(isAgg (ρ.t 24)).run prog w= .ok true w)(z:∀w,(Go.sizeOf (ρ.t 24)).run prog w= .ok E.sz w){cf:α->α->Int}(H:Go.Sort.SWO (ltOf cf))(G:∀x y,ltOf cf x y=false->ltOf cf y x=false->x=y){g:Nat}(M:∀args w,(callFunc g args).run prog w= .ok (.enter g args) w)(A:∀x y w,Cs g #[.agg (E.f x).toArray,.agg (E.f y).toArray] w (Zb w (I (cf x y)) []))(h:Hp c w (so e E a cap xs::R))(V:xs.length<4611686018427387904):Cs (ρ.f 6) #[.slice a xs.length cap,.func (.func g) #[] #[]] w (Zb c (.tuple #[]) (so e E a cap (xs.mergeSort λx y=>!(ltOf cf) y x)::R)):=by
 by_cases p:xs=[]
 ·subst p;refine(AnyF.slices_SortFunc_none Gx a cap (.func (.func g) #[] #[]) w).mono ?_;rintro e w' ⟨rfl,rfl⟩;exact⟨rfl,by simpa using h⟩
 ·obtain⟨b,o,pre,post,rfl,rfl,q⟩:=h.El (i:=0) rfl p;have u:=my (E:=E) xs;have C:=q.t8;have J:Go.Sort.HoldsK E.f E.sz w b pre.length xs.toArray:=by
   intro j s;have EV:j<(E.P3 xs).length:=by rw[<-u];simpa using s
   have r:(Go.Sort.flatK E.f E.sz xs.toArray)[j]! =(E.P3 xs)[j]:=by rw[getElem!_pos _ j s];simp only[<-u];simp
   rw[r];refine⟨?_,?_⟩
   ·grind[World.cell?]
   ·simp_all[World.frozen?]
  have F:CmpLays prog g #[] E.f E.sz cf b pre.length xs.toArray.size w:=by intro m l Z X x y;refine(A x y _).mono ?_;rintro e w' ⟨rfl,K⟩;exact⟨rfl,K.ajO⟩
  have:=AnyQ.slices_SortFunc_total Gx E.sz Q z E.f (λx=>E.len x) (λx v r=>by grind[Qb.one]) cf H g #[] b pre.length cap xs.toArray w M F J q.lt m4 G;rw[List.size_toArray]at this;refine this.mono ?_;rintro Y w' ⟨rfl,n,l,rfl⟩;refine⟨rfl,?_⟩;generalize D:(xs.mergeSort λx y=>!(ltOf cf) y x)=d;have S:d.length=xs.length:=by rw[<-D];exact List.length_mergeSort _
  have hfz:(Go.Sort.flatK E.f E.sz d.toArray)=(E.P3 d).toArray:=by rw[<-my]
  have N:∀k,k<w.heap.size->(sortWorldK E.f E.sz w b pre.length n d.toArray l).heap[k]? =if k=b then some (.cells (pre++E.P3 d++post).toArray e (0,0))else w.heap[k]?:=by
   intro k T;unfold sortWorldK Go.Sort.grow Go.Sort.putRowK Go.Sort.putRow Go.Sort.mapBlock Go.Sort.ahead;simp only;rw[tL Zb1,nL];by_cases hkb:b=k
   ·subst hkb;rw[S1 O,S1 O,C,hfz];grind[Go.Sort.onCells,xM,Qb.p8]
   ·grind
  have L:w.heap.size<=(sortWorldK E.f E.sz w b pre.length n d.toArray l).heap.size:=size_sortWorldK_c E.f E.sz w b pre.length n d.toArray l;exact nS h p q S N L O O O (by show w.drawn<=w.drawn+n;omega)
end
section
variable{κ:Type}[DecidableEq κ]
theorem V8:∀{l:List (κ×β)}{k:κ},(l.map (·.1)).Nodup->K0 (U7 l k) k=none
 |[],k,_=>rfl
 |x::l,k,h=>by
  rw[Kb,Fm]at h;unfold U7;by_cases a:k=x.1
  ·rw[S1 a];grind[fg]
  ·rw[V0 a];unfold K0;rw[V0 a];exact V8 h.2
theorem C9:∀{l:List (κ×β)}{k j:κ},j≠k->K0 (U7 l k) j=K0 l j
 |[],_,_,_=>rfl
 |x::l,k,j,h=>by
  unfold U7;by_cases b:k=x.1
  ·simp_all[K0]
  ·rw[V0 b];unfold K0;by_cases a:j=x.1
   ·simp[*]
   ·rw[V0 a,V0 a];exact C9 h
theorem Kg:∀{l:List (κ×β)}{k:κ},(l.map (·.1)).Nodup->((U7 l k).map (·.1)).Nodup
 |[],_,h=>h
 |x::l,k,h=>by
  have d:=h;rw[Kb,Fm]at h;unfold U7;by_cases b:k=x.1
  ·simp[*]
  ·rw[V0 b,Kb,Fm];refine⟨λa=>?_,Kg h.2⟩;obtain⟨y,c,e⟩:=List.mem_map.mp a<;>grind[Qk]
theorem Hj{l:List (κ×β)}{k:κ}{v:β}(h:K0 l k=some v):k∈l.map (·.1):=List.mem_map.mpr ⟨(k,v),Q7 h,rfl⟩
theorem ca:∀{l:List (κ×β)}{k:κ},k∈l.map (·.1)->∃v,K0 l k=some v
 |x::l,k,h=>by
  unfold K0;by_cases a:k=x.1
  ·simp[*]
  ·rw[V0 a];rw[Kb]at h;rcases List.mem_cons.mp h with e|h
   ·simp_all
   ·exact ca h
end
def step(p:Z1)(r:A5):Z1:=if r.right then p.one r else p
def nc:Z1:=⟨[],[],-1,[]⟩
def Tb(l:List A5):Z1:=l.foldl step nc
theorem Zj(a b:List A5):Tb (a++b)=b.foldl step (Tb a):=Qh ..
def Q8(p:Z1):Prop:=(p.G0.map (·.1)).Nodup
theorem Q8.of(h:Q8 p)(tx:Int):Q8 (p.of tx).2:=by
 unfold Z1.of;split
 ·exact h
 ·exact u9 h
theorem Q8.bb(h:Q8 p):Q8 p.bb:=by
 unfold Z1.bb;split
 ·exact eu
 ·exact h
theorem Q8.Zf(h:Q8 p)(tx:Int)(w:ib):Q8 (p.Zf tx w):=by
 unfold Z1.Zf;split
 ·exact h
 ·exact u9 h
theorem Q8.one(h:Q8 p)(r:A5):Q8 (p.one r):=by
 have h0:∀a b c,Q8 ⟨a,p.G0,b,c⟩:=λ_ _ _=>h;have hof:=(h0 p.N0 (-1) p.H9).of r.tx;unfold Z1.one;split
 ·grind[Q8.bb]
 split
 ·grind[Q8.bb]
 simp only;split
 ·split
  ·exact u9 hof
  ·exact hof
 split
 ·split
  ·exact u9 hof
  ·exact hof
 split
 ·exact Q8.Zf hof _ _
 split
 ·exact Kg h
 ·exact h
theorem Tv:∀(l:List A5)(p:Z1),Q8 p->Q8 (l.foldl step p)
 |[],_,h=>h
 |r::l,p,h=>by rw[Ti];apply Tv l;grind[step,Q8.one]
theorem Kl(h:p.left= -1):(⟨p.N0,p.G0,-1,p.H9⟩:Z1)=p:=by cases p<;>grind
structure At(p q:Z1)(tx:Int)(w:Option ib):Prop where
 N0:q.N0=p.N0
 left:q.left= -1
 nK:K0 q.G0 tx=w
 zp:∀j,j≠tx->K0 q.G0 j=K0 p.G0 j
theorem CM(h:K0 p.G0 tx=none):p.of tx=(zg,{p with G0:=R1 p.G0 tx zg}):=by unfold Z1.of;rw[h]
theorem sD{w:ib}(h:K0 p.G0 tx=some w):p.of tx=(w,p):=by unfold Z1.of;rw[h]
theorem AS(w':ib)(a:p.left= -1):At p {(p.of tx).2 with G0:=R1 (p.of tx).2.G0 tx w'} tx (some w'):=by
 cases h:K0 p.G0 tx with
 |none=>rw[CM h];refine⟨rfl,a,G1,λj b=>?_⟩;simp_all[Y0]
 |some w=>rw[sD h];exact⟨rfl,a,G1,λj b=>Y0 b⟩
theorem hJ(b:r.right=true)(a:r.W0=1)(d:p.left= -1){l:List (w4×Ba)}(c:(p.of r.tx).1=⟨0#16,false,l⟩):At p (step p r) r.tx (some ⟨0#16,false,R1 l r.key r.new⟩):=by
 have e:step p r={(p.of r.tx).2 with G0:=R1 (p.of r.tx).2.G0 r.tx ⟨0#16,false,R1 l r.key r.new⟩}:=by unfold step;rw[S1 b];unfold Z1.one;rw[V0 (by rw[a];decide),V0 (by rw[a];decide)];simp only[Kl d];rw[S1 a,c];exact S1 O
 grind[AS]
theorem WQ(b:r.right=true)(a:r.W0=2)(d:p.left= -1){l:List (w4×Ba)}(c:(p.of r.tx).1=⟨0#16,false,l⟩):At p (step p r) r.tx (some ⟨r.J0,false,l⟩):=by
 have e:step p r={(p.of r.tx).2 with G0:=R1 (p.of r.tx).2.G0 r.tx ⟨r.J0,false,l⟩}:=by unfold step;rw[S1 b];unfold Z1.one;rw[V0 (by rw[a];decide),V0 (by rw[a];decide)];simp only[Kl d];rw[V0 (by rw[a];decide),S1 a,c];exact S1 O
 grind[AS]
theorem step_end(b:r.right=true)(d:r.W0=5∨r.W0=6)(a:p.left= -1)(c:Q8 p):At p (step p r) r.tx none:=by
 have e:step p r={p with G0:=U7 p.G0 r.tx}:=by unfold step;rw[S1 b];unfold Z1.one;rw[V0 m4,V0 m4];simp only[Kl a];rw[V0 m4,V0 m4,V0 m4,S1 d,a]
 rw[e];exact⟨rfl,a,V8 c,λj f=>C9 f⟩
theorem DF(b:r.right=true)(d:r.W0=4)(c:p.left= -1){w:ib}(a:K0 p.G0 r.tx=some w)(f:¬(w.J0.toNat:Int)=0)(g:w.T1=false):(step p r).N0=gc (p.N0++Z2 w.K2)∧(step p r).left= -1∧(∀j,j≠r.tx->K0 (step p r).G0 j=K0 p.G0 j):=by
 have e:step p r=p.Zf r.tx w:=by unfold step;rw[S1 b];unfold Z1.one;rw[V0 m4,V0 m4];simp only[Kl c];rw[V0 m4,V0 m4,S1 d,sD a]
 simp_all[Z1.Zf,Y0]
def xi(tx:Int)(old:E2->Ba)(ps:List E2):List A5:=ps.map λ(x:E2)=>(⟨1,tx,0#16,x.key,old x,x.val⟩:A5)
theorem Gu{tx:Int}{old:E2->Ba}:∀(ps:List E2)(p:Z1)(l:List (w4×Ba)),(∀x∈ps,(⟨1,tx,0#16,x.key,old x,x.val⟩:A5).right=true)->p.left= -1->(p.of tx).1=⟨0#16,false,l⟩->((xi tx old ps).foldl step p).N0=p.N0∧((xi tx old ps).foldl step p).left= -1∧(((xi tx old ps).foldl step p).of tx).1=(⟨0#16,false,ps.foldl (λ(d:List (w4×Ba))(x:E2)=>R1 d x.key x.val) l⟩:ib)∧∀j,j≠tx->K0 ((xi tx old ps).foldl step p).G0 j=K0 p.G0 j
 |[],p,l,_,c,b=>⟨rfl,c,b,λ_ _=>rfl⟩
 |x::ps,p,l,e,c,b=>by have a:=hJ (r:=⟨1,tx,0#16,x.key,old x,x.val⟩) (e x (Ka ..)) O c b;show((xi tx old ps).foldl step (step p ⟨1,tx,0#16,x.key,old x,x.val⟩)).N0=_∧((xi tx old ps).foldl step (step p ⟨1,tx,0#16,x.key,old x,x.val⟩)).left=_∧(((xi tx old ps).foldl step (step p ⟨1,tx,0#16,x.key,old x,x.val⟩)).of tx).1=_∧∀j,j≠tx->K0 ((xi tx old ps).foldl step (step p ⟨1,tx,0#16,x.key,old x,x.val⟩)).G0 j=_;obtain⟨m,k,i,h⟩:=Gu ps _ _ (λy g=>e y (Ta _ g)) a.left (V4 Prod.fst (sD a.nK));exact⟨m.trans a.N0,k,i,λj f=>(h j f).trans (a.zp j f)⟩
theorem Vw{J0:BitVec 16}{old:E2->Ba}{ps:List E2}(b:∀r∈(xi tx old ps)++[(⟨2,tx,J0,Y3,X0,X0⟩:A5)],r.right=true)(g:p.left= -1)(f:K0 p.G0 tx=none)(h:ia ps):At p (((xi tx old ps)++[(⟨2,tx,J0,Y3,X0,X0⟩:A5)]).foldl step p) tx (some ⟨J0,false,ps.map λ(x:E2)=>(x.key,x.val)⟩):=by rw[Qh];obtain⟨l,k,d,i⟩:=Gu ps p [] (λx e=>b _ (lL _ (List.mem_map.mpr ⟨x,e,rfl⟩))) g (by rw[CM f];rfl);rw[Wy ps [] h (λ_ _=>rfl),Bp]at d;have a:=WQ (r:=⟨2,tx,J0,Y3,X0,X0⟩) (b _ (pL _ (List.mem_singleton.mpr O))) O k d;rw[Ti,List.foldl_nil];exact⟨a.N0.trans l,a.left,a.nK,λj c=>(a.zp j c).trans (i j c)⟩
theorem Ud{κ β:Type}[DecidableEq κ]:∀{l:List (κ×β)}{x:κ×β},(l.map (·.1)).Nodup->x∈l->K0 l x.1=some x.2
 |y::l,x,h,a=>by
  rw[Kb,Fm]at h;unfold K0;rcases List.mem_cons.mp a with e|a
  ·simp[*]
  ·rw[V0 (λe=>h.1 (List.mem_map.mpr ⟨x,a,e⟩))];exact Ud h.2 a
theorem GJ{l m:List α}(h:l.Perm m)(c:∀a∈l,∀b∈l,a=b):l=m:=by
 cases l with
 |nil=>simp_all
 |cons a l=>have e:a::l=List.replicate (l.length+1) a:=List.eq_replicate_iff.mpr ⟨Zb3,λb d=>(c a (Ka ..) b d).symm⟩;simp_all
theorem zO{r:α->Int}{ys:List α}(h:xs.Perm ys)(c:∀x y,r x=r y->x=y):F7 r xs ys:=by intro z;refine GJ (h.filter _) λa e b d=>c a b ?_;simp_all
def kR(k:w4):Int:=kN k
theorem YS(x y:w4)(h:kR x=kR y):x=y:=Hx (by grind[kR])
theorem JG(x y:w4):ltOf w4.cmp x y=decide (kR x<kR y):=by grind[ltOf,kR,im]
theorem QQ:Go.Sort.SWO (ltOf w4.cmp):=by refine⟨?_,?_,?_⟩<;>intros<;>simp only[JG,decide_eq_true_eq,decide_eq_false_iff_not]at* <;>omega
theorem JQ(x y:w4)(b:ltOf w4.cmp x y=false)(a:ltOf w4.cmp y x=false):x=y:=by grind[JG,YS]
theorem Bx(xs:List w4):(xs.mergeSort λx y=>!(ltOf w4.cmp) y x)=X7 xs:=by
 unfold X7;have d:∀a b:w4,Fx a b=true↔kR a<=kR b:=λa b=>by simp[y',kR]
 refine cD (r:=kR) d (zO (pV xs _).symm YS) ?_;have:=KE (le:=λx y=>!(ltOf w4.cmp) y x) (λa b c f e=>by
  grind[JG]) (λa b=>by
  simp only[JG,Bool.or_eq_true,Bool.not_eq_true',decide_eq_false_iff_not];omega) xs
 refine Cq (λ{a b}h=>?_) this;simp_all[JG]
section
instance:Inhabited w4:=⟨Y3⟩
theorem ags{xs:List w4}(h:Hp c w (so 35 nh a cap xs::R))(b:xs.length<=1000000000):Cr 342 #[.slice a xs.length cap,.func (.func 343) #[] #[]] w c (.tuple #[]) (so 35 nh a cap (X7 xs)::R):=by have:=SF (E:=nh) (cf:=w4.cmp) (g:=343) Tryz.aoN (λw=>by exact Tryz.isAgg35 w) (λw=>by exact Tryz.sizeOf35 w) QQ JQ (enters_of func343 Zb2 O) (λx y w=>agr (Hp.start w)) h m4;rw[Bx]at this;exact this
theorem oR{xs:List w4}(h:Hp c w (so 35 nh a cap xs::R))(b:xs.length<=1000000000):Cr 320 #[.slice a xs.length cap] w c (.tuple #[]) (so 35 nh a cap (X7 xs)::R):=by exact R2 func320 O (N1 (ags h Zb9) λw h=>⟨rfl,h⟩)
theorem jM{E:Qb α}{F:Qb β}{e:TypeId}{ys:List β}(h:Hp c w (so e E a cap xs::R))(l:E.P3 xs=F.P3 ys)(hs:E.sz=F.sz)(k:xs.length=ys.length):Hp c w (so e F a cap ys::R):=by
 refine h.imp λm g=>?_;rcases g with⟨d,f,j⟩|⟨b,pre,post,d,f,j,n,i⟩
 ·refine .inl ⟨d,f,List.length_eq_zero_iff.mp ?_⟩;simp_all
 ·exact .inr ⟨b,pre,post,d,Zb7,m4,Zb7,i⟩
def eAt(d:List (w4×Ba)):Qb w4:=⟨λk=>E2.f ⟨k,(K0 d k).getD X0⟩,6,λk=>F2.len _,λk=>F2.one _⟩
theorem xy(d:List (w4×Ba)):∀ks:List w4,(eAt d).P3 ks=F2.P3 (ks.map λk=>(⟨k,(K0 d k).getD X0⟩:E2))
 |[]=>rfl
 |k::ks=>by rw[Kb,Qb.Dc,Qb.Dc,xy d ks];rfl
theorem ZJ{d:List (w4×Ba)}(h:Jj d):(d.map (·.1)).map (λk=>(⟨k,(K0 d k).getD X0⟩:E2))=d.map λx=>⟨x.1,x.2⟩:=by rw[Ph];apply Az;intro x a;show(⟨x.1,(K0 d x.1).getD X0⟩:E2)=⟨x.1,x.2⟩;rw[Ud h a];rfl
theorem Qq{d:List (w4×Ba)}(h:Jj d):(X7 (d.map (·.1))).map (λk=>(⟨k,(K0 d k).getD X0⟩:E2))=Z2 d:=by
 have f:(X7 (d.map (·.1))).Perm (d.map (·.1)):=H5 _;have hs:(X7 (d.map (·.1))).Pairwise (λa b=>Fx a b=true):=Sb (λa b=>by grind[y']) (λa b c o n=>by rw[y']at*;omega) _;have g:(X7 (d.map (·.1))).Nodup:=f.nodup_iff.mpr h;refine ia.ext ?_ (Og h) λk=>?_
 ·refine List.pairwise_map.mpr (Cq (λ{a b}hab=>?_) (List.Pairwise.and hs g));grind[y',Hx]
 ·rw[Wl];have m:k∈X7 (d.map (·.1))↔∃v,K0 d k=some v:=by rw[f.mem_iff];exact⟨ca,λ⟨v,e⟩=>Hj e⟩
  generalize X7 (d.map (·.1))=ks at m g;have ajx:∀l:List w4,(l.map (λk=>(⟨k,(K0 d k).getD X0⟩:E2))).find? (J9 k)=if k∈l then some ⟨k,(K0 d k).getD X0⟩else none:=by
   intro l;induction l with
   |nil=>rfl
   |cons x l i=>
    rw[Kb,ig,i];by_cases j:x=k
    ·simp_all[J9]
    ·have:J9 k (⟨x,(K0 d x).getD X0⟩:E2)=false:=Em j;grind
  rw[ajx];cases e:K0 d k with
  |none=>simp[*]
  |some v=>simp[*]
theorem Dw{g:Nat}(l:∀args w,(callFunc g args).run prog w= .ok (.enter g args) w)(i:∀(x y:E2)(w:World),Cs g #[x.v,y.v] w (Zb w (I (x.key.cmp y.key)) [])){d:List (w4×Ba)}{n:Nat}(f:n=d.length)(b:Jj d)(h:Hp c w (so 157 F2 a cap (d.map λx=>⟨x.1,x.2⟩)::R))(m:d.length<=1000000000):Cr 90 #[.slice a n cap,.func (.func g) #[] #[]] w c (.tuple #[]) (so 157 F2 a cap (Z2 d)::R):=by
 subst f;have k:Hp c w (so 157 (eAt d) a cap (d.map (·.1))::R):=jM h (by rw[xy,ZJ b]) O Zb3;have:=SF (E:=eAt d) (cf:=w4.cmp) (g:=g) Tryz.aoP (λw=>by exact Tryz.isAgg157 w) (λw=>by exact Tryz.sizeOf157 w) QQ JQ l (λx y w=>i ⟨x,_⟩ ⟨y,_⟩ w) k Zb5;rw[Bx,H7]at this;refine this.mono ?_;rintro e w' ⟨rfl,j⟩;refine⟨rfl,jM j ?_ O ?_⟩
 ·rw[xy,Qq b]
 ·rw[<-Qq b,H7]
end
theorem IU{P:Prop}(h:P:=by simp only[C6.put,g1,g2,if_true,if_false,ite_true,ite_false,or_self,or_true,true_or,or_false,false_or,and_self,and_true,true_and,and_false,false_and,not_true_eq_false,not_false_eq_true,Bool.not_true,Bool.not_false,Bool.false_eq_true,reduceCtorEq,↓reduceIte]at hr;subst hr;replace h:=Hp.uh (h.g [1,2] O);exact⟨rfl,h.q 4 [0] O⟩):P:=h
theorem uN{P:Prop}(h:P:=by replace h:=Hp.uh (h.g [1,2] O);exact⟨rfl,h.q 4 [0] O⟩):P:=h
section
theorem aeA(x y:w4):x.cmp y<0↔kR x<kR y:=by simp[im,kR]
theorem TO(x y:E2):aa x y=true↔kR x.key<=kR y.key:=by simp[aa,y',kR]
theorem EX:Ks 91 [] E2.v (λx=>kR x.key) c R:=by refine⟨rfl,λx y w M h=>?_⟩;refine(afl h).mono ?_;simp_all[aeA]
theorem MF{xs:List E2}(hs:Sx F2 w a xs.length cap xs)(j:xs.length<=1000000000):Cs 205 #[.slice a xs.length cap] w (λe w'=>∃d f,e= .returned (.slice d (gc xs).length f)∧Hp w w' [so 157 F2 d f (gc xs)]):=by
 have h:=Hp.start w;refine R2 func205 O (ga (afs hs m4) λa1 k w h=>N1 (agX h m4) λw h=>?_);have i:xs.length=xs.reverse.length:=Zb3
 refine N1 (agW (lb:=[]) h EX TO i m4) λw h=>?_;have g:(J7 aa xs.reverse).length=xs.length:=by rw[(H5 _).length_eq,jL]
 have c:=agV h m4;rw[g]at c;refine xb c ?_;clear c;rintro _ w ⟨rfl,h⟩;have l:=Ig (eq:=λ(a b:E2)=>decide (a.key=b.key)) _ (J7 aa xs.reverse) (V7 _);refine N1 (agU (lb:=[]) (M:=d6 True) (p:=λx=>!x.val.K3) (λh=>(agT h)) O (Hp.T' trivial h) (by unfold bd;omega)) λw h=>?_;have e:(bd (J7 aa xs.reverse)).filter (λx=>!!x.val.K3)=gc xs:=by unfold gc bd;simp only[Bool.not_not]
 rw[e]at h;rw[e];exact⟨_,_,rfl,h.q 2 [1] O⟩
theorem OY(h:Hp c w R):Cs 272 #[] w (λe w'=>∃b,e= .returned (Pt b)∧Hp c w' (ub b []::R)):=by refine R2 func272 O (A4.Xp w4.v Ba.v h λb1 w h=>I2 h O λb2 w h=>?_);replace h:=Hp.uh h;exact⟨_,rfl,h⟩
theorem pR{v:Ba}(h:Hp c w R):Cr 319 #[v.v] w c (.bool v.right) R:=by
 refine R2 func319 O (I2 h O λb1 w h=>U0 h 0 O O (BR.O' (λa=>?_) λa=>?_))
 ·refine⟨A8 O ?_,h.q 1 [] O⟩;grind[Ba.right]
 ·refine U0 h 0 O O ⟨A8 O ?_,h.q 1 [] O⟩;grind[Ba.right]
theorem vR{v:Ba}(h:Hp c w (ub b d::R)):Cr 273 #[Pt b,k.v,v.v] w c (I (C6.put d k v).1) (ub b (C6.put d k v).2::R):=by
 refine R2 func273 O ?_;generalize hr:C6.put d k v=r;refine I2 h O λb1 w h=>I2 h O λb2 w h=>K9 ((h.g [2] O).vh) (λi h=>Y6 h [0,1,2,3,4,5,6,7,8,59,110,11] λh=>U3 0 O O (xg 3 O O (RD.ajS oB (λ_ h=>h) 1 O (k) (λg1=>?_) λf g1=>?_)))
 ·refine I2 h O λe w h=>⟨h.q 5 [1,2,3,4] O,J3 h 0 O O O λw h=>O4 h 3 O O (N1 (pR h) λw h=>BR.not (BR.O' (λg2=>?_) λg2=>?_))⟩
  ·refine Q5 (U0 h 1 O O (RD.DG (by exact Vi O O) h 2 O (BR.T5 (λa=>?_) λa=>?_)))
   ·simp only[C6.put,g1,g2,a,if_true,if_false,ite_true,ite_false,or_self,or_true,true_or,or_false,false_or,and_self,and_true,true_and,and_false,false_and,not_true_eq_false,not_false_eq_true,Bool.not_true,Bool.not_false,Bool.false_eq_true,reduceCtorEq,↓reduceIte]at hr;subst hr;exact uN
   ·refine Y6 h [0,1,2,3,4,55,106] λh=>U3 1 O O (xg 4 O O (O4 h 3 O O ⟨h,A4.Eb oB h 2 O (k) _ O O O O λw h=>?_⟩));simp only[C6.put,g1,g2,a,if_true,if_false,ite_true,ite_false,or_self,or_true,true_or,or_false,false_or,and_self,and_true,true_and,and_false,false_and,not_true_eq_false,not_false_eq_true,Bool.not_true,Bool.not_false,Bool.false_eq_true,reduceCtorEq,↓reduceIte]at hr;subst hr;exact uN
  ·exact IU
 ·refine I2 h O λe w h=>⟨h.q 5 [1,2,3,4] O,J3 h 0 O O O λw h=>O4 h 3 O O (N1 (pR h) λw h=>BR.not (BR.O' (λg2=>?_) λg2=>?_))⟩
  ·refine m5 (m5 (Y6 h [0,1,2,3,4,55,106] λh=>U3 1 O O (xg 4 O O (O4 h 3 O O ⟨h,A4.Eb oB h 2 O (k) _ O O O O λw h=>?_⟩))));exact IU
  ·exact IU
theorem XL(h:Hp c w (ub b d::R)):Cr 328 #[Pt b,k.v] w c (.tuple #[((K0 d k).getD X0).v,.bool (K0 d k).isSome]) (ub b d::R):=by
 refine R2 func328 O ?_;obtain⟨o,a⟩:∃o,K0 d k=o:=⟨_,rfl⟩;cases o with
 |none=>rw[a];refine I2 h O λb1 w h=>I2 h O λb2 w h=>K9 ((h.g [2] O).vh) (λe h=>Y6 h [0,1,2,3,4,5,6,7,8,59,110,11] λh=>U3 0 O O (xg 3 O O (RD.aac oB (λ_ h=>h) 1 O (k) Zb9 (I2 h O λf w h=>⟨h.q 5 [1,2,3,4] O,J3 h 0 O O O λw h=>O4 h 0 O O (J3 h 3 O O O λw h=>?_)⟩))));refine O4 h 3 O O ?_;exact uN
 |some v=>rw[a];refine I2 h O λb1 w h=>I2 h O λb2 w h=>K9 ((h.g [2] O).vh) (λe h=>Y6 h [0,1,2,3,4,5,6,7,8,59,110,11] λh=>U3 0 O O (xg 3 O O (RD.aab oB (λ_ h=>h) 1 O (k) Zb9 (I2 h O λf w h=>⟨h.q 5 [1,2,3,4] O,J3 h 0 O O O λw h=>O4 h 0 O O (J3 h 3 O O O λw h=>?_)⟩))));refine O4 h 3 O O ?_;exact uN
theorem uY(h:Hp c w (ub b d::R)):Cr 436 #[Pt b] w c (I d.length) (ub b d::R):=by refine R2 func436 O (K9 (h.vh) (λa h=>U0 h 0 O O (RD.DG (by exact Vi O O) h 1 O ?_)));replace h:=Hp.uh h;exact⟨rfl,h⟩
theorem OB(k:w4)(N0:List E2):Hb N0 k=((B9 Ef N0 N0.length).find? (λx=>decide (x.2.key=k))).elim X0 (λx=>x.2.val):=by
 have h:=Mo Ef N0 N0.length (V7 _);rw[cu,qz]at h;unfold Hb;rw[<-h];generalize B9 Ef N0 N0.length=l;induction l with
 |nil=>rfl
 |cons x l a=>grind[Yl]
theorem Vy{α:Type}(d:α)(xs:List α)(k:Nat):∀n,k<=n->∃r,B9 d xs n=B9 d xs k++r
 |0,h=>⟨[],Zb7⟩
 |n+1,h=>by
  by_cases e:k=n+1
  ·simp[*]
  ·obtain⟨r,a⟩:=Vy d xs k n m4<;>grind[B9]
theorem KT{pre:List (Int×E2)}{x:Int×E2}{n:Nat}(d:n<N0.length)(c:pre++[x]=B9 Ef N0 (n+1))(h0:∀y∈pre,¬y.2.key=k)(a:x.2.key=k):Hb N0 k=x.2.val:=by obtain⟨r,b⟩:=Vy Ef N0 (n+1) N0.length m4;grind[OB]
theorem qP(h0:∀y∈B9 Ef N0 N0.length,¬y.2.key=k):Hb N0 k=X0:=by rw[OB,List.find?_eq_none.mpr Zb1];rfl
theorem lR(hs:Sx F2 w a N0.length cap N0)(L:N0.length<=1000000000):Cs 329 #[.slice a N0.length cap,k.v] w (Zb w (Hb N0 k).v []):=by
 have h:=Hp.start w;refine Fa kn func329 O O (I2 h O λb1 w h=>I2 h O λb2 w h=>He (agp h) λJ w h=>?_);let C:List (Int×E2)->HP:=λl=>C5 [bk b2 [.bool false,I 0] 40,bk b1 k.f 35,d6 (∀y∈l,¬y.2.key=k)];let K:Code->HP:=λj=>match j with
  | .ret=>sf λ(v:Ba)=>C5 [bk b2 [.bool v.K3,I v.n] 40,d6 (v=Hb N0 k)]
  |_=>d6 False
 have h0:Hp _ w (C []::[bk J [.slice a N0.length cap] 71]):=(Hp.C3 (A:=[bk b2 [.bool false,I 0] 40,bk b1 k.f 35,d6 (∀y∈([]:List (Int×E2)),¬y.2.key=k)]) ((Hp.T' (λy p=>by cases p) h).g [2,3] rfl));refine RF.Zi kn O O (λ(x:Int×E2)=>[I x.1,x.2.v]) (λ_=>rfl) O O O (λl=>l=B9 Ef N0 N0.length) (λl=>∃k,k<N0.length∧l=B9 Ef N0 (k+1)) C K h0 (aiR hs m4 _) ?_ ?_ ?_
 ·rintro pre ⟨i,x⟩ W M ⟨n,F,E⟩ h;have h:=h.R6;obtain⟨r,h⟩:=(h.g [2] rfl).uf;refine I2 h O λH w h=>J3 h 0 O O O λw h=>⟨[bk H (E2.f x) 157,bk b2 [.bool false,I 0] 40,bk b1 k.f 35],h,λW M h=>?_⟩;have aeo:x.key=k->Hb N0 k=x.val:=λo=>KT F E r o;have ajt:¬x.key=k->∀y∈pre++[(i,x)],¬y.2.key=k:=by
   intro o y p;rcases rh.1 p with p|p
   ·grind
   ·simp_all
  obtain⟨⟨u,x2,t,s⟩,v⟩:=x;obtain⟨m,d,c,b⟩:=k;refine O4 h 0 O O (O4 h 2 O O (RD.eqa Zb2 Zb2 O O (BR.O' (λz=>?_) λz=>?_)))
  ·have o:(⟨u,x2,t,s⟩:w4)=⟨m,d,c,b⟩:=by simpa [sg,eqD,Int.ofNat_inj,BitVec.toNat_inj] using z
   have G:=aeo o;exact O4 h 0 O O (J3 h 1 O O O λw h=>Hp.R8 (f:=λ(v:Ba)=>C5 [bk b2 [.bool v.K3,I v.n] 40,d6 (v=Hb N0 ⟨m,d,c,b⟩)]) v (Hp.C3 (A:=[bk b2 [.bool v.K3,I v.n] 40,d6 (v=Hb N0 ⟨m,d,c,b⟩)]) ((Hp.T' G.symm h).q 4 [2,0] O)))
  ·have o:¬(⟨u,x2,t,s⟩:w4)=⟨m,d,c,b⟩:=by simpa [sg,eqD,Int.ofNat_inj,BitVec.toNat_inj] using z
   exact Hp.C3 (A:=[bk b2 [.bool false,I 0] 40,bk b1 (w4.f ⟨m,d,c,b⟩) 35,d6 (∀y∈pre++[(i,(⟨⟨u,x2,t,s⟩,v⟩:E2))],¬y.2.key=⟨m,d,c,b⟩)]) ((Hp.T' (ajt o) h).q 4 [2,3,0] O)
 ·rintro D l W rfl h;have h:=h.R6;obtain⟨r,h⟩:=(h.g [2] rfl).uf;rw[qP r];exact J3 h 0 O O O λw h=>Mz.one h (i:=2) O O λw h=>O4 h 0 O O ⟨rfl,h.q 4 [] O⟩
 ·rintro D j W h;cases j with
  |ret=>obtain⟨v,h⟩:=h.ex;obtain⟨e,h⟩:=(h.R6.g [1] rfl).uf;subst e;exact Mz.one h (i:=1) O O λw h=>O4 h 0 O O ⟨rfl,h.q 3 [] O⟩
  |_=>exact h.uf.1.elim
end
theorem abP{P:Prop}(h:P:=by obtain⟨k1,k2,k3,k4⟩:=x1;obtain⟨vt,vn⟩:=x2;refine Q5 (A4.XJ h 0 O O (I2 h O λb1 w h=>I2 h O λb2 w h=>J3 h 1 O O O λw h=>J3 h 0 O O O λw h=>O4 h 1 O O (O4 h 0 O O (I2 h O λb3 w h=>A4.Yb (u:=⟨⟨_,_,_,_⟩,⟨_,_⟩⟩) (Ca.of (w9:=24) kn O O O O O O) h 4 O O 0 O O O (by omega) (λ_ _=>rfl) λa2 E4 w h=>⟨n-1,Rx.2,a2,E4,done++[((⟨k1,k2,k3,k4⟩,⟨vt,vn⟩):w4×Ba)],l1++l2,by rw[ic];rfl,⟨Rx.1,kh⟩,?_⟩))));rw[ic];exact(h.q 6 [3,4,5] O).HM):P:=h
theorem abO{P:Prop}(h:P:=by refine List.Perm.trans ?_ hp;rw[el,N',jz];exact wC _ List.perm_middle.symm):P:=h
abbrev wV(x:w4×Ba):E2:=⟨x.1,x.2⟩
theorem jx{d e:List (w4×Ba)}(h:e.Perm d)(a:Jj d):Z2 e=Z2 d:=by
 have b:Jj e:=(h.map _).nodup_iff.mpr a;refine ia.ext (Og b) (Og a) λk=>?_;rw[Wl,Wl];congr 1;cases f:K0 d k with
 |some v=>exact Ud b (h.mem_iff.mpr (Q7 f))
 |none=>
  cases c:K0 e k with
  |none=>rfl
  |some v=>have:=Ud a (h.mem_iff.mp (Q7 c));simp_all
theorem Db(d:List (w4×Ba)):(Z2 d).length=d.length:=by rw[(be d).length_eq,H7]
section
theorem WV(h:Hp c w (ub b d::R))(p:d.length<=100000000):Cs 59 #[Pt b] w (λe w'=>∃a f,e= .returned (.slice a (Z2 d).length f)∧Hp c w' (so 157 F2 a f (Z2 d)::ub b d::R)):=by
 refine R2 func59 O (K9 (h.vh) (λi h=>U0 h 0 O O ?_));have k:=h.gr 1 O;refine A4.AD (by exact Vi O O) (h.g [1] O) O λj w h=>?_;replace h:=h.G4 157 F2;refine p5.A6 kn [3,10] (λn vs w'=>∃(a:Option Addr)(f:Nat)(done left:List (w4×Ba)),vs=[.slice a (done.map wV).length f,Pt j]∧(left.length=n∧(done++left).Perm d)∧Hp c w' (mi w4.v Ba.v i j d left::so 157 F2 a f (done.map wV)::bk b [.map (some i)] 222::R)) d.length ⟨none,0,[],d,rfl,⟨rfl,tj _⟩,h.g [1] O⟩ ?_;rintro n _ w1 r ⟨a1,o,done,left,rfl,⟨l,hp⟩,h⟩;have m:=hp.length_eq;rw[j7]at m;refine A4.BD h 0 O O (λe=>?_) λl1 x l2 el w h=>?_
 ·subst e;rw[Jb]at hp;have hkd:Jj done:=(hp.map _).nodup_iff.mpr k;refine m5 (N1 (Dw (d:=done) (λargs w=>kn.body 91 O args w) (λx y w=>afl (Hp.start w)) Zb3 hkd (h.g [1] O) m4) λw h=>?_);rw[jx hp k]at h;replace h:=(h.g [1] O).EG;have e:(done.map wV).length=(Z2 d).length:=by rw[Db,H7,hp.length_eq]
  rw[e];replace h:=Hp.uh (h.g [2] O);exact⟨_,_,rfl,h.g [1] O⟩
 ·have h:Hp c w (mc w4.v Ba.v i j d (l1++l2) x::so 157 F2 a1 o (done.map wV)::bk b [.map (some i)] 222::R):=h;have Rx:(l1++l2).length=n-1∧n-1<n:=by rw[el]at l;simp at l⊢;omega
  have kh:((done++[x])++(l1++l2)).Perm d:=by exact abO
  have s:(done.map wV).length<=100000000:=by rw[H7];omega
  obtain⟨x1,x2⟩:=x;exact abP
theorem rZ{a:Nat}{x:ib}(h:Hp c w (bk b [gb x.J0,.bool x.T1,.map (some a)] 258::mo w4.v Ba.v a x.K2::R))(p:x.K2.length<=100000000):Cs 111 #[Pt b] w (λe w'=>∃f i,e= .returned (.slice f (Z2 x.K2).length i)∧Hp c w' (so 157 F2 f i (Z2 x.K2)::bk b [gb x.J0,.bool x.T1,.map (some a)] 258::mo w4.v Ba.v a x.K2::R)):=by
 refine R2 func111 O (U0 h 0 O O ?_);have k:=h.gr 1 O;refine A4.AD (by exact Vi O O) (h.g [1] O) O λj w h=>?_;replace h:=h.G4 157 F2;refine p5.A6 kn [3,10] (λn vs w'=>∃(f:Option Addr)(i:Nat)(done left:List (w4×Ba)),vs=[.slice f (done.map wV).length i,Pt j]∧(left.length=n∧(done++left).Perm x.K2)∧Hp c w' (mi w4.v Ba.v a j x.K2 left::so 157 F2 f i (done.map wV)::bk b [gb x.J0,.bool x.T1,.map (some a)] 258::R)) x.K2.length ⟨none,0,[],x.K2,rfl,⟨rfl,tj _⟩,h.g [1] O⟩ ?_;rintro n _ w1 r ⟨a1,o,done,left,rfl,⟨l,hp⟩,h⟩;have m:=hp.length_eq;rw[j7]at m;refine A4.BD h 0 O O (λe=>?_) λl1 y l2 el w h=>?_
 ·subst e;rw[Jb]at hp;have hkd:Jj done:=(hp.map _).nodup_iff.mpr k;refine m5 (N1 (Dw (d:=done) (λargs w=>kn.body 160 O args w) (λx y w=>ahD (Hp.start w)) Zb3 hkd (h.g [1] O) m4) λw h=>?_);rw[jx hp k]at h;replace h:=(h.g [1] O).EG;have e:(done.map wV).length=(Z2 x.K2).length:=by rw[Db,H7,hp.length_eq]
  rw[e];exact⟨_,_,rfl,h.g [1,2] O⟩
 ·have h:Hp c w (mc w4.v Ba.v a j x.K2 (l1++l2) y::so 157 F2 a1 o (done.map wV)::bk b [gb x.J0,.bool x.T1,.map (some a)] 258::R):=h;have Rx:(l1++l2).length=n-1∧n-1<n:=by rw[el]at l;simp at l⊢;omega
  have kh:((done++[y])++(l1++l2)).Perm x.K2:=by exact abO
  have s:(done.map wV).length<=100000000:=by rw[H7];omega
  obtain⟨x1,x2⟩:=y;exact abP
end
section
theorem agS{n:Int}(h:Hp c w R)(g:0<=n∧n<=1000000000):Cs 260 #[.slice none 0 0,I n] w (λe w'=>∃a b,e= .returned (.slice a 0 b)∧Hp c w' (so 157 F2 a b []::R)):=by
 refine R2 func260 O (Te (i5 (i5 (BR.T5 (λd=>?_) λd=>?_))))
 ·exact RD.Vh kn O O O O m4 (A4.akt (E:=F2) (Ca.of (w9:=24) kn O O O O O O) Zb3 h O O m4 Zb4 λb1 i w f h=>RD.Vh kn O O O O m4 ⟨_,_,rfl,h⟩)
 ·replace h:=h.G4 (157) F2;exact⟨_,_,rfl,h⟩
structure OX where
 a:Option Addr
 cap:Nat
 xs:List E2
def OX.f(s:OX):List Value:=[.slice s.a s.xs.length s.cap]
def yX:Qb OX:=⟨OX.f,1,λ_=>rfl,λ_=>rfl⟩
def QR:OX:=⟨none,0,[]⟩
def Pm(l:List OX):List E2:=l.flatMap (·.xs)
theorem ZB{l:List OX}{i:Nat}(h:i<l.length):Pm (l.take (i+1))=Pm (l.take i)++(l.getD i QR).xs:=by grind[List.take_succ_eq_append_getElem,Pm]
theorem Sr{l:List OX}(b:∀s∈l,s.xs.length<=100000000)(i:Nat):(Pm (l.take i)).length<=100000000*i:=by
 induction l generalizing i with
 |nil=>simp[Pm]
 |cons x l a=>
  cases i with
  |zero=>simp[Pm]
  |succ i=>grind[Pm]
theorem bZ{l:List OX}(hs:Sx yX w a l.length cap l)(t:∀s∈l,Sx F2 w s.a s.xs.length s.cap s.xs)(y:l.length<=10)(f:∀s∈l,s.xs.length<=100000000):
 Cs 206 #[.slice a l.length cap] w (λe w'=>∃g j,e= .returned (.slice g (Pm l).length j)∧Hp w w' [so 157 F2 g j (Pm l)]):=by
 have h:=Hp.start w;refine R2 func206 O (p5.A6 kn [0,3,9,10,11] (λm vs w'=>∃(i:Int),vs=[.slice a l.length cap,I (Pm (l.take i.toNat)).length,.slice a l.length cap,I l.length,I i]∧(0<=i∧i+m=l.length)∧Hp w w' []) l.length ⟨0,rfl,m4,h⟩ ?_);rintro m _ w1 u ⟨i,rfl,r,h⟩;have p:=Sr f i.toNat;refine BR.T5 (λk=>?_) λk=>?_
 ·have c:=ZB (l:=l) (i:=i.toNat) m4;have b:(i+1).toNat=i.toNat+1:=m4
  rw[<-b]at c;have aer:=Sr f (i+1).toNat;have z:(Pm (l.take (i+1).toNat)).length=(Pm (l.take i.toNat)).length+(l.getD i.toNat QR).xs.length:=by rw[c,j7]
  refine Lz hs λb1 q v=>LD.rM h hs Zb9 (K5 (d:=QR) m4) O (i5 (m5 (i5 ⟨(m-1),?_,_,vs5 O (V4 I ?_) O O O,?_,h⟩)))
  ·omega
  ·omega
  ·omega
 ·have b:l.take i.toNat=l:=sd m4;rw[b]at p⊢;refine ga (agS h m4) λa1 n w h=>p5.A6 kn [6,25,26,27] (λm vs w'=>∃(i:Int)(g:Option Addr)(j:Nat),vs=[.slice g (Pm (l.take i.toNat)).length j,.slice a l.length cap,I l.length,I i]∧(0<=i∧i+m=l.length)∧Hp _ w' [so 157 F2 g j (Pm (l.take i.toNat))]) l.length ⟨0,a1,n,rfl,m4,h⟩ ?_;rintro m _ w1 u ⟨i,a1,n,rfl,r,h⟩;have p:=Sr f i.toNat;refine BR.T5 (λk=>?_) λk=>?_
  ·have c:=ZB (l:=l) (i:=i.toNat) m4;have b:(i+1).toNat=i.toNat+1:=m4
   rw[<-b]at c;have aer:=Sr f (i+1).toNat;have o:l.getD i.toNat QR∈l:=by
    have:i.toNat<l.length:=m4
    simp[this]
   have x:=t _ o;have A:=f _ o;refine Lz hs λb1 q v=>LD.rM h hs Zb9 (K5 (d:=QR) m4) O (A4.Pk (Ca.of (w9:=24) kn O O O O O O) h 0 O O O (x.up h).sl m4 (λ_ _=>rfl) λa2 C w h=>?_);rw[<-c]at h⊢;refine i5 ⟨(m-1),?_,_,_,_,rfl,?_,h⟩
   ·omega
   ·omega
  ·have b:l.take i.toNat=l:=sd m4;rw[b]at h⊢;exact⟨_,_,rfl,h⟩
theorem afJ(h:Hp c w (so 157 F2 a cap N0::ub b d::R))(p:d.length<=100000000)(r:N0.length<=100000000):Cs 439 #[Pt b,.slice a N0.length cap] w (λe w'=>∃j k,e= .returned (.slice j (Nn d N0).length k)∧Hp c w' (so 157 F2 j k (Nn d N0)::so 157 F2 a cap N0::ub b d::R)):=by
 refine R2 func439 O (ga (WV (h.g [1] O) m4) λa1 i w h=>I2 h O λb1 w h=>?_);have t:=Db d;have n:=h.Z4 3 O;have m:=h.Z4 1 O;refine xb (bZ (l:=[⟨a,cap,N0⟩,⟨a1,i,Z2 d⟩]) (h.Ib (E:=yX) [⟨a,cap,N0⟩,⟨a1,i,Z2 d⟩] 0 O O O) (λs hs=>?_) Zb3 (λs hs=>?_)) ?_
 ·grind
 ·grind
 rintro _ w ⟨a2,u,rfl,f⟩;replace h:=h.H6 f;have e:Pm [⟨a,cap,N0⟩,⟨a1,i,Z2 d⟩]=N0++Z2 d:=by simp[Pm]
 rw[e]at h⊢;refine ga (MF (h.Z4 0 O) Zb1) λa3 o w f=>?_;replace h:=h.H6 f;exact⟨_,_,rfl,h.q 6 [0,5,4] O⟩
theorem FK{i:Nat}(a:i<(Z2 d).length):((Z2 d).take (i+1)).map (λ(p:E2)=>(⟨1,tx,0#16,p.key,if(Hb N0 p.key).right then Hb N0 p.key else X0,p.val⟩:A5))=((Z2 d).take i).map (λ(p:E2)=>(⟨1,tx,0#16,p.key,if(Hb N0 p.key).right then Hb N0 p.key else X0,p.val⟩:A5))++[⟨1,tx,0#16,((Z2 d).getD i Ef).key,if(Hb N0 ((Z2 d).getD i Ef).key).right then Hb N0 ((Z2 d).getD i Ef).key else X0,((Z2 d).getD i Ef).val⟩]:=by grind[List.take_succ_eq_append_getElem]
theorem afK(h:Hp c w (so 157 F2 a cap N0::ub b d::R))(E:d.length<=100000000)(F:N0.length<=100000000):Cs 437 #[Pt b,I tx,.slice a N0.length cap] w (λe w'=>∃j k,e= .returned (.slice j (Mi d tx N0).length k)∧Hp c w' (so 195 za j k (Mi d tx N0)::so 157 F2 a cap N0::ub b d::R)):=by
 refine R2 func437 O (ga (WV (h.g [1] O) m4) λa1 s w h=>?_);have L:=Db d;replace h:=h.G4 195 za;refine p5.A6 kn [1,2,7,12,13,14] (λm vs w'=>∃(i:Int)(j:Option Addr)(k:Nat)(f:List A5),vs=[I tx,.slice a N0.length cap,.slice j f.length k,.slice a1 (Z2 d).length s,I (Z2 d).length,I i]∧(0<=i∧i+m=(Z2 d).length)∧f=((Z2 d).take i.toNat).map (λ(p:E2)=>(⟨1,tx,0#16,p.key,if(Hb N0 p.key).right then Hb N0 p.key else X0,p.val⟩:A5))∧Hp c w' (so 195 za j k f::so 157 F2 a1 s (Z2 d)::ub b d::so 157 F2 a cap N0::R)) (Z2 d).length ⟨0,none,0,[],rfl,m4,rfl,h⟩ ?_;rintro m _ w1 H ⟨i,a2,M,f,rfl,D,l,h⟩;have K:f.length=i.toNat:=by rw[l,H7,Ga];omega
 refine BR.T5 (λx=>?_) λx=>?_
 ·have n:=FK (d:=d) (tx:=tx) (N0:=N0) (i:=i.toNat) m4;rw[<-l]at n;have G:(i+1).toNat=i.toNat+1:=m4
  obtain⟨p,r⟩:∃p,(Z2 d).getD i.toNat Ef=p:=⟨_,rfl⟩;have hnp:i3 (Z2 d) i.toNat=some p:=by rw[<-r];exact K5 m4
  rw[r]at n;refine jd h 1 O λb1 C A=>Oa.sl h 1 O A hnp (I2 h O λb2 w h=>J3 h 0 O O O λw h=>O4 h 0 O O (N1 (lR (h.Z4 4 O) m4) λw v=>?_));replace h:=h.H6 v;refine I2 h O λJ w h=>J3 h 0 O O O λw h=>O4 h 0 O O (N1 (pR h) λw h=>BR.not (BR.O' (λo=>?_) λo=>?_))
  ·rw[S1 o]at n;refine O4 h 1 O O (O4 h 0 O O (O4 h 1 O O (I2 h O λz w h=>A4.Yb (u:=⟨_,_,0#16,⟨_,_,_,_⟩,⟨_,_⟩,⟨_,_⟩⟩) (Ca.of (w9:=56) kn O O O O O O) h 3 O O 0 O O O m4 (λ_ _=>rfl) λa3 t w h=>i5 ⟨m-1,m4,i+1,_,_,f++[⟨1,tx,0#16,p.key,Hb N0 p.key,p.val⟩],rfl,m4,?_,h.q 7 [3,4,5,6] O⟩)));simp[*]
  ·rw[V0 (by rw[o];simp)]at n;refine J3 h 0 O O O λw h=>O4 h 1 O O (O4 h 0 O O (O4 h 1 O O (I2 h O λz w h=>A4.Yb (u:=⟨_,_,0#16,⟨_,_,_,_⟩,⟨_,_⟩,⟨_,_⟩⟩) (Ca.of (w9:=56) kn O O O O O O) h 3 O O 0 O O O m4 (λ_ _=>rfl) λa3 t w h=>i5 ⟨m-1,m4,i+1,_,_,f++[⟨1,tx,0#16,p.key,X0,p.val⟩],rfl,m4,?_,h.q 7 [3,4,5,6] O⟩)));simp[*]
 ·have e:(Z2 d).take i.toNat=Z2 d:=sd m4;rw[e]at l;have y:f=Mi d tx N0:=l;subst y;exact⟨_,_,rfl,h.q 4 [0,3,2] O⟩
end
end Go.Proofs.YtaaihojmcfaejaaGreatDoor
