/- Lemmas for the tops: the walk of the house and its laws. No condition is added. -/
import Derived.Lib.Overlaps
import Derived.Test.YtaaihojmcfaejaaGreatDoorQad
import Derived.Test.YtaaihojmcfaejaaGreatDoorQag
import Derived.Test.YtaaihojmcfaejaaGreatDoorQaf
import Derived.Test.YtaaihojmcfaejaaGreatDoorQae
set_option linter.all false
namespace Go.Proofs.YtaaihojmcfaejaaGreatDoor
open Go Go.RowKit Tryz
variable{af:Array Edge}{ok:Bool}{tx:Int}{l:List E2}{L R:List HP}{post pre:List Value}{hs ql:List W5}{b b2 cap cq f i k m n nq o sz:Nat}{X:Nat->Bool}{y:Operand}{ρ:Operand->Value}{g:Option (Nat×Bool)}{a aq:Option Addr}{dst:Option Nat}{db:String}{α β κ:Type}{e t:TypeId}{K:Value->Prop}{x:W5}{T:Wm}{c w:World}{PQ:Y5}{xs ys:List α}{E:Qb α}{p:α->Bool}{v:β}
abbrev mark(D:Nat):Deferred:={target:= .collected D,args:= #[]}
abbrev nu:=Exit->List Nat->td->World->Prop
def QAM(n:Nat)(Q:nu):Exit->Act->World->Prop
 | .panic c,a,w=>∃ds:List Nat,a.defers=ds.map mark∧∀e,Q (.panic c) ds e w
 | .outgrown,_,_=>False
 |x,a,w=>∃ds:List Nat,a.defers=ds.map mark∧∃e,ol n a e∧Q x ds e w
theorem QA.up{ds:List Nat}{Q:nu}{x:Exit}{a:Act}(h:QA (ds.map mark) n (λx e w=>Q x ds e w) x a w):QAM n Q x a w:=by
 cases x with
 |outgrown=>exact h.elim
 |_=>exact⟨ds,h.1,h.2⟩
structure RF(P:Program)(n:Nat)(f:Operand)(ps:Array Tmp)(eQ body:Code)(ds:List Nat)(e:td)(w:World)(Q:nu):Prop where
 wp:∀a,ol n a e->a.defers=ds.map mark->(Code.rangeFunc f ps eQ body).wpIn (fw none) 0 P (QAM n Q) a w
def afk(f:List Nat->td->World->Prop)(Q:nu):nu
 | .normal,ds,e,w=>f ds e w
 | .exit i,ds,e,w=>Q (.exit i) ds e w
 | .goto l,ds,e,w=>Q (.goto l) ds e w
 | .ret,ds,e,w=>Q .ret ds e w
 | .panic c,ds,e,w=>Q (.panic c) ds e w
 | .outgrown,_,_,_=>False
def akp(id:Nat)(Q:nu):nu
 | .exit i,ds,e,w=>match Nat.beq i id with
  |true=>Q .normal ds e w
  |false=>Q (.exit i) ds e w
 | .normal,ds,e,w=>Q .normal ds e w
 | .goto l,ds,e,w=>Q (.goto l) ds e w
 | .ret,ds,e,w=>Q .ret ds e w
 | .panic c,ds,e,w=>Q (.panic c) ds e w
 | .outgrown,_,_,_=>False
section
variable(P:Program)(T:Wm)(X:Nat->Bool)(n:Nat)
noncomputable def vcM(c:Code):List Nat->td->World->nu->Prop:=
 Code.rec (motive:=λ_=>List Nat->td->World->nu->Prop)
  (λds e w Q=>Q .normal ds e w)
  (λid S6 g ds e w Q=>match g with
   |false=>uF P T X n S6.toList (λe w=>Q .normal ds e w) (pq λx e w=>Q x ds e w) S6.toList d0 e w
   |true=>ja P n id S6 e w (λx e w=>Q x ds e w))
  (λ_ _ iha ihb ds e w Q=>iha ds e w (afk (λds e w=>ihb ds e w Q) Q))
  (λc _ _ iha ihb ds e w Q=>match ev e c with
   | .bool t=>BR t (iha ds e w Q) (ihb ds e w Q)
   |_=>False)
  (λid _ a ds e w Q=>a ds e w (akp id Q))
  (λb _ ds e w Q=>p5 P n b e w (λx e w=>Q x ds e w))
  (λf ps d b _ _ ds e w Q=>RF P n f ps d b ds e w Q)
  (λid ds e w Q=>Q (.exit id) ds e w)
  (λ_ _ _ _ _ _=>False)
  (λ_ ds e w Q=>Q .normal ds e w)
  (λl ds e w Q=>Q (.goto l) ds e w)
  (λds e w Q=>Q .ret ds e w)
  (λ_ _ _ _ _=>False) c
end
section
variable{P:Program}
theorem SN(v:N8 P T X):∀(c:Code)(ds:List Nat)(e:td)(w:World)(Q:nu)(a:Act),ol n a e->a.defers=ds.map mark->vcM P T X n c ds e w Q->c.wpIn (fw none) 0 P (QAM n Q) a w:=by
 intro c;induction c with
 |skip=>intro ds e w Q a hs d h;exact wpIn_skip ⟨ds,d,e,hs,h⟩
 |region id S6 z=>
  intro ds e w Q a hs d h;cases z with
  |false=>exact wpIn_mono (wpIn_region_list (xl v (Q:=λx e w=>Q x ds e w) (K:=λe w=>Q .normal ds e w) (λ_ _ h=>h) _ _ e w a hs (og.zero e) d h)) (λ_ _ _ h=>h.up)
  |true=>exact wpIn_mono (h.wp none _ a hs d) (λ_ _ _ h=>h.up)
 |seq x y p q=>
  intro ds e w Q a hs d h;refine wpIn_seq (wpIn_mono (p ds e w _ a hs d h) ?_);intro ex a' w' g;cases ex with
  |normal=>obtain⟨ds',m,k,Mh,j⟩:=g;exact q ds' k w' Q a' Mh m j
  |exit i=>exact g
  |goto l=>exact g
  |ret=>exact g
  |panic c=>exact g
  |outgrown=>exact g.elim
 |cond c x y p q=>
  intro ds e w Q a hs d h;replace h:(match ev e c with
   | .bool t=>BR t (vcM P T X n x ds e w Q) (vcM P T X n y ds e w Q)
   |_=>False):=h
  split at h
  ·rename_i t o;have:a.eval c= .bool t:=by rw[hs.eval];exact o
   refine wpIn_cond_split this (λo=>?_) λo=>?_
   ·grind[BR.ex]
   grind[BR.ex]
  grind
 |block id b r=>
  intro ds e w Q a hs d h;refine wpIn_block (wpIn_mono (r ds e w _ a hs d h) ?_);intro ex a' w' g;cases ex with
  |normal=>exact g
  |exit i=>
   obtain⟨ds',m,k,Mh,j⟩:=g;simp only[akp]at j;simp only[Exit.inBlock];by_cases u:i=id
   ·subst u;rw[S1 O];rw[show Nat.beq i i=true from Nat.beq_refl i]at j;exact⟨ds',m,k,Mh,j⟩
   ·rw[V0 u];have:Nat.beq i id=false:=by
     cases A:Nat.beq i id with
     |true=>simp_all
     |false=>rfl
    rw[this]at j;exact⟨ds',m,k,Mh,j⟩
  |goto l=>exact g
  |ret=>exact g
  |panic c=>exact g
  |outgrown=>exact g.elim
 |loop b _=>intro ds e w Q a hs d h;exact wpIn_mono (wpIn_wide.2 (h.wp _ a hs d)) (λ_ _ _ h=>h.up)
 |rangeFunc f ps x y _ _=>intro ds e w Q a hs d h;exact h.wp a hs d
 |exit id=>intro ds e w Q a hs d h;exact wpIn_exit ⟨ds,d,e,hs,h⟩
 |scope b r=>intro ds e w Q a hs d h;exact h.elim
 |label l=>intro ds e w Q a hs d h;exact wpIn_label ⟨ds,d,e,hs,h⟩
 |goto l=>intro ds e w Q a hs d h;exact wpIn_goto ⟨ds,d,e,hs,h⟩
 |ret=>intro ds e w Q a hs d h;exact wpIn_ret ⟨ds,d,e,hs,h⟩
 |refuse s=>intro ds e w Q a hs d h;exact h.elim
def VF:List Nat->World->World
 |[],w=>w
 |D::ds,w=>VF ds (w.putObj D (.deferred none))
def uV:List Nat->World->Prop
 |[],_=>True
 |D::ds,w=>w.heap[D]?=some (.deferred (some []))∧uV ds (w.putObj D (.deferred none))
structure Mz(T:Wm)(rs:List ResultVar)(R:Ending->World->Prop)(ds:List Nat)(e:td)(w:World):Prop where
 ex:uV ds w∧xw T (λw'=>w'=VF ds w) e rs λvs=>R (.returned (vm vs)) (VF ds w)
def akn(T:Wm)(a:List ResultVar)(R:Ending->World->Prop):nu
 | .normal,ds,e,w=>Mz T a R ds e w
 | .ret,ds,e,w=>Mz T a R ds e w
 |_,_,_,_=>False
theorem kr{fn:Func}{tmps:Array Value}{R:Ending->World->Prop}:∀(ds:List Nat)(w:World),uV ds w->(∃v,(results fn tmps).run P (VF ds w)= .ok v (VF ds w)∧R (.returned v) (VF ds w))->LeavesInM Fence.wide 0 P fn tmps R (ds.map mark) .returning w
 |[],w,_,⟨v,b,a⟩=>by unfold List.map LeavesInM;exact⟨v,b,a⟩
 |D::ds,w,⟨b,a⟩,c=>by unfold List.map LeavesInM;exact⟨Zb3,.inl ⟨D,_,rfl,run_takeDeferred b,kr ds _ a c⟩⟩
theorem Fa(j:N8 P T X){f:FuncId}{fn:Func}{c:Code}{args:List Value}{R:Ending->World->Prop}(q:P.funcs[f]?=some fn)(r:fn.body=some c)
 (o:Nat.ble args.length fn.ntmps=true)(h:vcM P T X fn.ntmps c [] (lA args) w (akn T fn.results.toList R)):Calls P f args.toArray w R:=by
 refine callsIn_wide.1 (callsIn_of_wp_marks (n:=0) q r trivial ?_);have t:=zv o;refine wpIn_mono (SN j c [] _ w _ _ (cW t) O h) ?_;have k:∀(a:Act)(w':World)(ds:List Nat)(e:td),a.defers=ds.map mark->ol fn.ntmps a e->Mz T fn.results.toList R ds e w'->LeavesInM Fence.wide 0 P fn a.tmps R a.defers .returning w':=by intro a w' ds e g hs b;obtain⟨p,m⟩:=b.ex;obtain⟨vs,u,s⟩:=ul j hs _ _ m;rw[g];exact kr ds w' p ⟨vm vs,Hl u,s⟩
 intro ex a w' d;cases ex with
 |normal=>obtain⟨ds,g,e,hs,b⟩:=d;exact k a w' ds e g hs b
 |ret=>obtain⟨ds,g,e,hs,b⟩:=d;exact k a w' ds e g hs b
 |exit i=>obtain⟨_,_,_,_,b⟩:=d;exact b.elim
 |goto l=>obtain⟨_,_,_,_,b⟩:=d;exact b.elim
 |panic c=>obtain⟨_,_,b⟩:=d;exact(b (λ_=>undef)).elim
 |outgrown=>exact d.elim
end
def PV:List (Nat×Value)->td->td
 |[],e=>e
 |(p,v)::l,e=>PV l (Tm e p v)
def mN(n:Nat):List Nat->Bool
 |[]=>true
 |p::l=>Nat.blt p n&&mN n l
theorem UF{n:Nat}:∀(ps:List Nat)(vs:List Value)(t:Array Value)(ds:List Deferred)(e:td),mN n ps=true->ol n {tmps:=t,defers:=ds} e->
 ol n {tmps:=(ps.zip vs).foldl (λt x=>t.setIfInBounds x.1 x.2) t,defers:=[]} (PV (ps.zip vs) e)
 |[],_,t,ds,e,_,h=>h
 |_::_,[],t,ds,e,_,h=>h
 |p::ps,v::vs,t,ds,e,a,h=>by unfold mN at a;rw[Cd]at a;have b:=ol.put (d:=some p) h (λk c=>Zb7) v;exact UF ps vs _ ds _ a.2 b
def adl(c:World)(I:List α->HP)(a:Code->HP)(xs:List α)(M:List HP):Hh
 | .normal,_,W=>Hp c W (I xs::M)
 | .ret,_,W=>Hp c W (a .ret::M)
 | .exit i,_,W=>Hp c W (a (.exit i)::M)
 | .goto l,_,W=>Hp c W (a (.goto l)::M)
 | .panic _,_,_=>False
 | .outgrown,_,_=>False
def adN(Q:nu):Code->List Nat->td->World->Prop
 | .ret,ds,e,w=>Q .ret ds e w
 | .exit i,ds,e,w=>Q (.exit i) ds e w
 | .goto l,ds,e,w=>Q (.goto l) ds e w
 |_,_,_,_=>True
def An:Code->Bool
 | .ret| .exit _| .goto _=>true
 |_=>false
def Nv(P:Program)(gf:Nat)(lb:List Value)(f:α->List Value)(c:World)(S g:List α->Prop)(I:List α->HP)(R b:List HP):Prop:=
 ∀(l:Nat)(X d:HP)(W:World),
  (∀pre x W M,g (pre++[x])->Hp c W (I pre::X::M)->YieldAt Fence.wide 0 P l (f x).toArray W (λe a=>(e= .returned (.bool true)∧Hp c a (I (pre++[x])::X::M))∨(e= .returned (.bool false)∧Hp c a (d::M))))->
  Hp c W (I []::X::R)->Calls P gf (.func (.yield l) #[] #[]::lb).toArray W (λe a=>(∃v,e= .returned v)∧((∃xs,S xs∧Hp c a (I xs::X::b))∨Hp c a (d::b)))
section
variable{P:Program}
theorem jj{o:Obj}:UE w b o (w.putObj b o):=⟨rfl,rfl,rfl,rfl,rfl⟩
def DD(fn:FuncId)(tmps:Array Value)(ps:Array Tmp)(b body:Code)(D:Nat)(st:LoopState)(a:Option Code):Loop:={state:=st,pending:=a,fn,tmps,params:=ps,assign:=b,body,defers:=D}
theorem RF.Zi(N:N8 P T X){f:Operand}{ps:Array Tmp}{G body:Code}{ds:List Nat}{e:td}{Q:nu}{gf:Nat}{lb:List Value}(hf:ev e f= .func (.func gf) #[] lb.toArray)(hX:X gf=true)
 {α:Type}(z:α->List Value)(bi:∀x,(z x).length=ps.size)(qd:mN n ps.toList=true)(hpa:yc G=true)(hpb:yc body=true)
 {c:World}(S Sp:List α->Prop)(I:List α->HP)(y:Code->HP){R Y:List HP}(h:Hp c w (I []::R))
 (hit:Nv P gf lb z c S Sp I R Y)
 (aeb:∀pre x W M,Sp (pre++[x])->Hp c W (I pre::M)->
  vc P T X n G (PV (ps.toList.zip (z x)) e) W (MQ (λe1 s=>∃H:List HP,Hp c s (H++M)∧∀W2 M2,Hp c W2 (H++M2)->vc P T X n body e1 W2 (adl c I y (pre++[x]) M2)) (λ_ _ _=>False)))
 (ajB:∀D xs W,S xs->Hp c W (I xs::pt D (.deferred (some []))::Y)->Q .normal (D::ds) e W)
 (ajh:∀D j W,Hp c W (y j::pt D (.deferred (some []))::Y)->adN Q j (D::ds) e W):RF P n f ps G body ds e w Q:=by
 refine⟨λa hs hd=>wpIn_rangeFunc λfn _=>?_⟩;let b:=DD fn a.tmps ps G body w.heap.size;obtain⟨s,hW1⟩:∃s,(w.alloc (.deferred (some []))).alloc (.loop (b .ready none))=s:=⟨_,rfl⟩;obtain⟨D,hDe⟩:∃D,w.heap.size=D:=⟨_,rfl⟩;obtain⟨l,Qd⟩:∃l,w.heap.size+1=l:=⟨_,rfl⟩;have hh:Hp c s (pt l (.loop (b .ready none))::pt D (.deferred (some []))::I []::R):=by rw[<-hW1,<-Qd,<-hDe];have h1:=(h.alloc (.deferred (some []))).alloc (.loop (b .ready none));simpa using h1
 let u:LoopState->Option Code->HP:=λst pe=>C5 [pt l (.loop (b st pe)),pt D (.deferred (some []))];let Jx:HP:=sf λj=>C5 [y j,u .done (some j),d6 (An j=true)];refine⟨l,[mark D],s,{target:= .fn (.func gf) lb.toArray,args:= #[.func (.yield l) #[] #[]]},s,gf,#[.func (.yield l) #[] #[]]++lb.toArray,s,?_,?_,λ_ _=>trivial,?_,λe=>(by cases e),?_⟩
 ·rw[<-hW1,<-Qd,<-hDe];exact run_enterLoop_outer _ _ _ _ _
 ·have:a.eval f= .func (.func gf) #[] lb.toArray:=by rw[hs.eval];exact hf
  simp only[resolve,this];simp[go_sem]
 ·simp[invoke,N.body gf hX]
 ·have ajE:=hit l (u .ready none) Jx s ?_ (by
   have:=hh.Od (L':=[pt l (.loop (b .ready none)),pt D (.deferred (some []))]++(I []::R)) (tj _);exact(this.C3).Od (List.Perm.swap _ _ _))
  ·have e3:(#[.func (.yield l) #[] #[]]++lb.toArray:Array Value)=(.func (.yield l) #[] #[]::lb).toArray:=Zb3
   rw[e3];refine(callsIn_wide (n:=0)).2 (Calls.mono ajE ?_);rintro e4 d ⟨⟨v,rfl⟩,⟨xs,hS,q⟩|q⟩
   ·have C:=(q.Od (List.Perm.swap _ _ _)).R6;have F:d.heap[l]?=some (.loop (b .ready none)):=C.t8 (i:=0) O;have hq3:=C.put (i:=0) O (jj (o:= .loop {b .ready none with state:= .exhausted}));exact⟨none,_,run_endLoop (P:=P) F (by simp[b,DD]),⟨D::ds,by rw[hd];rfl,e,⟨hs.1,hs.2⟩,ajB D xs _ hS (hq3.drop.Od (List.Perm.swap _ _ _))⟩⟩
   ·obtain⟨j,C⟩:=q.ex;have C:=C.R6;have K:An j=true:=((C.Od (Ac (i:=2) O)).uf).1;have hq3:=(C.Od (Ac (i:=1) O)).R6;have F:d.heap[l]?=some (.loop (b .done (some j))):=hq3.t8 (i:=0) O;have hq4:=hq3.put (i:=0) O (jj (o:= .loop {b .done (some j)with state:= .exhausted}));refine⟨some j,_,run_endLoop (P:=P) F (by simp[b,DD]),?_⟩;have hq5:=ajh D j _ ((((hq4.drop.Od (Ac (i:=2) O)).drop).Od (List.Perm.swap _ _ _)));have OD:({a with defers:=[mark D]++a.defers}:Act).defers=(D::ds).map mark:=by rw[hd];rfl
    cases j with
    |ret=>exact wpIn_ret ⟨D::ds,OD,e,⟨hs.1,hs.2⟩,hq5⟩
    |exit i=>exact wpIn_exit ⟨D::ds,OD,e,⟨hs.1,hs.2⟩,hq5⟩
    |goto i=>exact wpIn_goto ⟨D::ds,OD,e,⟨hs.1,hs.2⟩,hq5⟩
    |_=>cases K
  ·intro pre x W M hSp hW;have hW2:=(hW.Od (List.Perm.swap _ _ _)).R6;have F:W.heap[l]?=some (.loop (b .ready none)):=hW2.t8 (i:=0) O;have hy:=run_yield (P:=P) (args:=(z x).toArray) F (by grind[DD]);refine⟨_,_,_,_,hy,roundIn_of_wpIn trivial ?_⟩;have p:=aeb pre x W (u .ready none::M) hSp hW;have adU:ol n {tmps:=(ps.zip (z x).toArray).foldl (λt x=>t.setIfInBounds x.1 x.2) a.tmps,defers:=[]} (PV (ps.toList.zip (z x)) e):=by have:=UF ps.toList (z x) a.tmps a.defers e qd ⟨hs.1,hs.2⟩;rw[<-Array.foldl_toList,Array.toList_zip];exact this
   refine wpIn_mono (Jp N (ro:=some l) (ds:=[]) G _ _ _ _ (.inr hpa) adU O p) ?_;intro ex a1 w1 q;cases ex with
   |normal=>
    obtain⟨mP,e1,jh,H,hw1,Zx⟩:=q;have J:=(hw1.Od List.perm_middle:Hp c w1 (u .ready none::(H++M)));have J:=Hp.R6 J;have AB:w1.heap[l]?=some (.loop (b .ready none)):=J.t8 (i:=0) O;have hw3:=J.put (i:=0) O (jj (o:= .loop {b .ready none with state:= .busy}));refine⟨_,run_beginRound AB O,?_⟩;have hw4:Hp c (w1.putObj l (.loop {b .ready none with state:= .busy})) (H++(C5 [pt l (.loop {b .ready none with state:= .busy}),pt D (.deferred (some []))]::M)):=by have:=Hp.C3 (A:=[pt l (.loop {b .ready none with state:= .busy}),pt D (.deferred (some []))]) hw3;exact this.Od List.perm_middle.symm
    have hb:=Zx _ _ hw4;refine wpIn_mono (Jp N (ro:=some l) (ds:=[]) body _ _ _ _ (.inr hpb) jh mP hb) ?_;have Ki:∀(r:Option Code)(Z:HP)(g:World),Hp c g (Z::C5 [pt l (.loop {b .ready none with state:= .busy}),pt D (.deferred (some []))]::M)->
     ∃d,(Instr.endRound l r).run P g= .ok (.bool r.isNone) d∧Hp c d (Z::u (if r.isNone then .ready else .done) r::M):=λr Z g V=>by
     have m:=(V.Od (List.Perm.swap _ _ _)).R6;have DV:g.heap[l]?=some (.loop {b .ready none with state:= .busy}):=m.t8 (i:=0) O;refine⟨_,run_endRound (P:=P) r DV,?_⟩;have h5:=m.put (i:=0) O (jj (o:= .loop {{b .ready none with state:= .busy}with state:=if r.isNone then .ready else .done,pending:=r}));have h6:=Hp.C3 (A:=[pt l (.loop {{b .ready none with state:= .busy}with state:=if r.isNone then .ready else .done,pending:=r}),pt D (.deferred (some []))]) h5;have h7:=h6.Od (List.Perm.swap _ _ _);exact h7
    have stop:∀(j:Code)(g:World),An j=true->Hp c g (y j::C5 [pt l (.loop {b .ready none with state:= .busy}),pt D (.deferred (some []))]::M)->
     ∃d,(Instr.endRound l (some j)).run P g= .ok (.bool false) d∧Hp c d (Jx::M):=λj g K V=>by
     obtain⟨d,p,m⟩:=Ki (some j) _ g V;refine⟨d,p,Hp.R8 j (Hp.C3 (A:=[y j,u .done (some j),d6 (An j=true)]) ?_)⟩;exact(Hp.T' K m).Od (Rj (L:=[d6 (An j=true),y j,u .done (some j)]++M) (i:=0) (x:=d6 (An j=true)) rfl|>.trans (by show(d6 (An j=true)::y j::u .done (some j)::M).Perm (y j::u .done (some j)::d6 (An j=true)::M);exact(List.Perm.swap _ _ _).trans ((List.Perm.swap _ _ _).cons _)))
    intro ex a3 g E;cases ex with
    |normal=>obtain⟨_,_,_,k⟩:=E;obtain⟨d,p,m⟩:=Ki none _ g k;exact⟨_,d,p,.inl ⟨rfl,m⟩⟩
    |ret=>obtain⟨_,_,_,k⟩:=E;obtain⟨d,p,m⟩:=stop .ret g rfl k;exact⟨_,d,p,.inr ⟨rfl,m⟩⟩
    |exit i=>obtain⟨_,_,_,k⟩:=E;obtain⟨d,p,m⟩:=stop (.exit i) g rfl k;exact⟨_,d,p,.inr ⟨rfl,m⟩⟩
    |goto i=>obtain⟨_,_,_,k⟩:=E;obtain⟨d,p,m⟩:=stop (.goto i) g rfl k;exact⟨_,d,p,.inr ⟨rfl,m⟩⟩
    |panic ch=>exact(E.2 (λ_=>undef)).elim
    |outgrown=>exact E.elim
   |exit i=>obtain⟨_,_,_,k⟩:=q;exact k.elim
   |goto l=>obtain⟨_,_,_,k⟩:=q;exact k.elim
   |ret=>obtain⟨_,_,_,k⟩:=q;exact k.elim
   |panic ch=>exact(q.2 (λ_=>undef)).elim
   |outgrown=>exact q.elim
theorem qV.at{l:Nat}{args:Array Value}{K:Value->World->Prop}{R:Ending->World->Prop}(h:YieldAt Fence.wide 0 P l args w R)(c:∀e w',R e w'->∃v,e= .returned v∧K v w'):qV P l args w K PQ:=by obtain⟨fn,tmps,f,body,a,b⟩:=h;refine⟨?_⟩;rw[a];exact RoundIn.mono b λe w' d=>Zb1
end
def Mg(x:U2)(i:Nat):List oa:=(x.L4.take i).foldl (λs y=>s.set y.1.toNat y.2) x.P1
theorem Bu(x:U2)(i:Nat):(Mg x i).length=x.P1.length:=by
 have:∀(l:List (Int×oa))(s:List oa),(l.foldl (λs y=>s.set y.1.toNat y.2) s).length=s.length:=by
  intro l;induction l with
  |nil=>intro s;rfl
  |cons y l a=>simp[*]
 exact this _ _
theorem dD(x:U2)(a:i<x.L4.length):Mg x (i+1)=(Mg x i).set x.L4[i].1.toNat x.L4[i].2:=by grind[Mg,List.take_succ_eq_append_getElem]
theorem Jc.bW{i:Int}(h:Hp c w L)(j:Nat)(f:i3 L j=some (so e E a cap xs))(d:0<=i∧i<n)(m:n<=xs.length)
 (k:∀b o,a=some ⟨b,o,none⟩->K (.pointer (some ⟨b,o+i.toNat*E.sz,none⟩))):Jc a n i E.sz K:=by
 have l:xs≠[]:=λe=>Zb1
 obtain⟨b,o,pre,post,g,_,_⟩:=h.El f l;refine⟨⟨b,o,none⟩,g,d.1,d.2,?_⟩;simp_all[i9]
theorem Yt{i:Int}(h:Hp c w L)(j:Nat)(f:i3 L j=some (so e E a cap xs))(k:∀b o,a=some ⟨b,o,none⟩->K (.pointer (some ⟨b,o+i.toNat*E.sz,none⟩)))(g:0<=i∧i<n:=by omega)(d:n<=xs.length:=by omega):Jc a n i E.sz K:=Jc.bW h j f g d k
theorem Oa.tail{S:World->Prop}{a:Value}{l:List Value}(m:∀w,S w->Hp c w L)(i:Nat)(h:i3 L i=some (bk b (a::l) t))(f:l.length=n)(g:K (.agg l.toArray)):Oa S ⟨b,1,none⟩ n K:=by refine⟨l,f,λw d j v e=>?_,g⟩;have o:=((m w d).Qm h).cell (k:=j+1) e;rw[i9,mE];exact o
section
theorem PP.ls{a:Array Value}{l:List Value}{K:Nat->World->Prop}(h:Hp c w L)(d:a.toList=l)(k:∀b w',Hp c w' (bk b l t::L)->K b w'):PP w (.cells a t) K:=by
 have e:a=l.toArray:=by rw[<-d]
 subst e;exact⟨k _ _ (h.alloc _)⟩
theorem Ha{l:List α}(h:l.length=n+1):∃v m,l=v::m∧m.length=n:=by cases l with|nil=>cases h|cons v m=>grind
theorem adK{l:List α}(h:l.length=32):∃k j i g f e d c b a m v11 v12 v13 v14 v15 v16 v17 v18 v19 v20 v21 v22 v23 v24 v25 v26 v27 v28 v29 v30 v31,l=[k,j,i,g,f,e,d,c,b,a,m,v11,v12,v13,v14,v15,v16,v17,v18,v19,v20,v21,v22,v23,v24,v25,v26,v27,v28,v29,v30,v31]:=by obtain⟨k,E,rfl,h0⟩:=Ha h;obtain⟨j,l1,rfl,v⟩:=Ha h0;obtain⟨i,l2,rfl,u⟩:=Ha v;obtain⟨g,D,rfl,t⟩:=Ha u;obtain⟨f,C,rfl,s⟩:=Ha t;obtain⟨e,A,rfl,r⟩:=Ha s;obtain⟨d,z,rfl,q⟩:=Ha r;obtain⟨c,y,rfl,p⟩:=Ha q;obtain⟨b,x,rfl,o⟩:=Ha p;obtain⟨a,w,rfl,n⟩:=Ha o;obtain⟨m,l10,rfl,h10⟩:=Ha n;obtain⟨v11,l11,rfl,h11⟩:=Ha h10;obtain⟨v12,l12,rfl,h12⟩:=Ha h11;obtain⟨v13,l13,rfl,h13⟩:=Ha h12;obtain⟨v14,l14,rfl,h14⟩:=Ha h13;obtain⟨v15,l15,rfl,h15⟩:=Ha h14;obtain⟨v16,l16,rfl,h16⟩:=Ha h15;obtain⟨v17,l17,rfl,h17⟩:=Ha h16;obtain⟨v18,l18,rfl,h18⟩:=Ha h17;obtain⟨v19,l19,rfl,h19⟩:=Ha h18;obtain⟨v20,l20,rfl,h20⟩:=Ha h19;obtain⟨v21,l21,rfl,h21⟩:=Ha h20;obtain⟨v22,l22,rfl,h22⟩:=Ha h21;obtain⟨v23,l23,rfl,h23⟩:=Ha h22;obtain⟨v24,l24,rfl,h24⟩:=Ha h23;obtain⟨v25,l25,rfl,h25⟩:=Ha h24;obtain⟨v26,l26,rfl,h26⟩:=Ha h25;obtain⟨v27,l27,rfl,h27⟩:=Ha h26;obtain⟨v28,l28,rfl,h28⟩:=Ha h27;obtain⟨v29,l29,rfl,h29⟩:=Ha h28;obtain⟨v30,l30,rfl,h30⟩:=Ha h29;obtain⟨v31,l31,rfl,h31⟩:=Ha h30<;>grind
theorem RO{l:List B}(h:l.length=32):(Z' l).1=l:=by unfold Z';rw[dif_pos h]
theorem FM{l:List B}(h:l.length=32):oa.f (Z' l)=eB.P3 l:=by rw[oa.P3,RO h]
theorem afN{x:U2}{i:Int}{xs:List B}(h:Hp c w (so 5 eB a cap xs::M1 b x::R))(d:xs.length=32)(L:x.L4.length<=1000000):Cr 432 #[Pt b,I i,.slice a xs.length cap] w c (I (x.x7 i xs).1) (so 5 eB a cap xs::M1 b (x.x7 i xs).2::R):=by
 rcases(h.Z4 0 rfl).sl.A6 with⟨_,h0,_,_⟩|⟨M,H,rfl,_,_⟩
 ·omega
 have ajy:(eB.P3 xs).length=32:=by rw[eB.p8,d];rfl
 have C:=FM d;obtain⟨t,s,r,p,o,n,m,k,j,e,y,v11,v12,v13,v14,v15,v16,v17,v18,v19,v20,v21,v22,v23,v24,v25,v26,v27,v28,v29,v30,v31,A⟩:=adK ajy;by_cases D:x.U' i=true
 ·have z:x.x7 i xs=(0,{x with L4:=x.L4++[(i,Z' xs)],C0:=R1 x.C0 i (Z' xs)}):=by
   unfold U2.x7;rw[D];simp[d]
  rw[z];refine R2 func432 O (N1 (rR (h.g [1] O)) λw h=>BR.not (BR.s9 D (Mj (A4.akq (by exact Vi O O) O m4 (Oa.sx (E:=eB) (h.Z4 1 O) (by rw[d];rfl) (I2 h O λb1 w h=>ST.all (l':=eB.P3 xs) h 0 O O ajy (eB.Ji xs) O O λw h=>?_))))));rw[A]at h;replace h:=(h.g [1] O).md;refine K9 h (λT h=>h.elim (λS h=>h.elim (λN h=>h.elim (λJ h=>h.elim (λK h=>?_)))));refine Y6 h [0,1,2,3,5,4,56,7,58,109,10,11,112] λh=>U3 0 O O (O4 h 4 O O ⟨h,PP.ls (l:=I i::[t,s,r,p,o,n,m,k,j,e,y,v11,v12,v13,v14,v15,v16,v17,v18,v19,v20,v21,v22,v23,v24,v25,v26,v27,v28,v29,v30,v31]) h O λb2 w h=>⟨h.q 7 [1,2,3,4,5,6] O,?_⟩⟩);have G:(I i::[t,s,r,p,o,n,m,k,j,e,y,v11,v12,v13,v14,v15,v16,v17,v18,v19,v20,v21,v22,v23,v24,v25,v26,v27,v28,v29,v30,v31])=uH.f (i,Z' xs):=by show _=I i::oa.f (Z' xs);rw[C,A]
  refine A4.Yb (E:=uH) (u:=(i,Z' xs)) (Ca.of (w9:=40) kn O O O O O O) h 3 O O 0 O O G m4 (λ_ _=>rfl) λa1 Q w h=>J3 h 1 O O O λw h=>Y6 h [0,1,2,4,3,55,106] λh=>U3 1 O O (O4 h 5 O O ⟨h,?_⟩);have F:Value.agg ([t,s,r,p,o,n,m,k,j,e,y,v11,v12,v13,v14,v15,v16,v17,v18,v19,v20,v21,v22,v23,v24,v25,v26,v27,v28,v29,v30,v31]:List Value).toArray=oa.v (Z' xs):=by show _=Value.agg (oa.f (Z' xs)).toArray;rw[C,A]
  refine A4.Eb GZ h 4 O _ (Z' xs) O O F O λw h=>?_;replace h:=Hp.Xd (h.g [1,2,3,4] O);exact⟨rfl,h.q 4 [3,0] O⟩
 ·have z:x.x7 i xs=(11,x):=by
   unfold U2.x7;rw[S1 Zb1]
  rw[z];exact R2 func432 O (N1 (rR (h.g [1] O)) λw h=>BR.not (BR.no Zb1 ⟨rfl,h.g [1] O⟩))
theorem LY{x:U2}{k:Int}{a2:Option Addr}{g:Nat}(h:Hp c w (bk b [.slice a x.P1.length cap,.slice a2 x.L4.length g,.map (some m)] 279::so 288 mA a cap x.P1::so 457 uH a2 g x.L4::mo I oa.v m x.C0::R))(A:0<=k∧k<=x.L4.length)(o:∀y∈x.L4,0<=y.1∧y.1<x.P1.length)(C:x.L4.length<=1000000):
 Cs 291 #[Pt b,I k] w (Zb c (.tuple #[]) (M1 b (x.X8 k.toNat)::so 457 uH a2 g x.L4::R)):=by
 refine Rn kn func291 O O ?_;refine LD.hp h 0 O O ?_;obtain⟨r,H⟩:=h.Ch 2 rfl;refine RD.Vh (m:=k.toNat) kn O O O (Xr m4) m4 ?_;refine p5.A6 kn [0,11,12,13] (λj vs w'=>∃(i:Int),vs=[Pt b,.slice a2 k.toNat g,I k.toNat,I i]∧(0<=i∧i+j=k)∧Hp c w' (bk b [.slice a (Mg x i.toNat).length cap,.slice a2 x.L4.length g,.map (some m)] 279::so 288 mA a cap (Mg x i.toNat)::so 457 uH a2 g x.L4::mo I oa.v m x.C0::R)) k.toNat ⟨0,rfl,m4,h.get 4 [0,1,2,3] O O⟩ ?_;rintro j _ w1 E ⟨i,rfl,z,h⟩;refine BR.T5 (λp=>?_) (λp=>?_)
 ·have l:i.toNat<x.L4.length:=m4
  have u:=dD x l;have D:=o _ (List.getElem_mem l);have K:=Bu x i.toNat;refine Jc.bW h 2 O (n:=k.toNat) m4 m4 (λb1 t G=>?_);refine Oa.sl h 2 O Zb9 (Eh l) ?_;refine PP.hp h O (λb2 w h=>?_);refine ST.all (l':=I x.L4[i.toNat].1::oa.f x.L4[i.toNat].2) h 0 O O (uH.len _) (uH.one _) O O (λw h=>?_);refine ja.D0 kn o8 (λw'=>Hp _ w' _) (qs [0,1,2,4,6,3,5] (ws [7] (qs [8] (vs [9] .done)))) Zb2 h.drew ?_;replace h:=h.drew;refine LD.cl (λ_ h=>h) 1 O O ?_;refine LD.cl (λ_ h=>h) 0 O O ?_;refine Oa.tail (λ_ e=>e▸h) 0 O (oa.Bm _) ?_;refine⟨h.get 5 [0,1,2,3,4] O O,?_⟩;refine Jc.sl h 2 O m4 (λF s J=>?_);refine ST.qf (y:=x.L4[i.toNat].2) h 2 O Zb9 (K5 (d:=kc) m4) (oa.Bm _) (oa.uy _) O (Lp [] _ _ ((oa.Bm _).trans (oa.Bm _).symm)).symm O (λw h=>?_);refine WR.vp (i64 m4) ?_;refine⟨(j-1),?_,_,rfl,?_,Hp.subst (h.get 5 [1,2,3,4] O O) ?_⟩
  ·omega
  ·omega
  ·grind[]
 ·have q:i=k:=m4
  subst q;refine ST.hp h 0 O O O O O O (λw h=>?_);refine LD.hp h 0 O O ?_;refine A4.adH (by exact Vi O O) h 3 O O O (λw h=>?_);replace h:=h.G4 (288) mA;replace h:=h.G4 (457) uH;replace h:=Hp.Xd (TC:=[]) (acD:=[]) (h.get 6 [2,3,0,5,1,4] O O);refine⟨rfl,Hp.subst (h.get 3 [0,2] O O) ?_⟩;rfl
end
theorem Dl{A B C v:List Value}(h:v.length=B.length):m8 (A++B++C) A.length v=A++v++C:=by simp_all[vb]
section
theorem Hp.LR(h:Hp c w (so e E a cap xs::L))(u:xs≠[]):∃b pre post,a=some ⟨b,pre.length,none⟩∧(xs.length<=cap∧(cap-xs.length)*E.sz<=post.length∧cap<=maxLen)∧Hp c w (bk b (pre++E.P3 xs++post) e::L):=by
 obtain⟨s,r,p,o,k⟩:=h;obtain⟨x,y,m,l,n,t⟩:=Xg (List.Perm.swap _ _ _) k;rcases m with⟨_,_,q⟩|⟨b,pre,post,j,i,g,f,d⟩
 ·simp_all
 ·exact⟨b,pre,post,j,⟨g,f,d⟩,s,r,p,o,Xg (List.Perm.swap _ _ _) ⟨x,y,i,l,n,t⟩⟩
theorem Hp.uJ(h:Hp c w (bk b (pre++E.P3 xs++post) e::L))(f:xs.length<=cap)(d:(cap-xs.length)*E.sz<=post.length)(a:cap<=maxLen):Hp c w (so e E (some ⟨b,pre.length,none⟩) cap xs::L):=
 h.imp λ_ k=> .inr ⟨b,pre,post,rfl,k,f,d,a⟩
theorem Hp.tq{f:Nat}{l l2:List Value}(h:Hp c w L)(d:i3 L i=some (bk b l e))(j:o+n*sz<=l.length)(a:(l.drop o).take (n*sz)=l2):Sl w sz (.slice (some ⟨b,o,none⟩) n f) n l2:=by subst a;refine .row Zb1 λi v g=>(h.Qm d).cell ?_;simp_all[Z0,List.getElem?_take]
theorem Hp.acI{o a:Obj}(h:Hp c w (pt b o::pt b2 a::L)):b≠b2:=by
 obtain⟨u,t,s,r,k⟩:=h;obtain⟨x,y,g,f,i,z⟩:=Xg (List.Perm.swap _ _ _) k;obtain⟨d,l,j,A,p,v⟩:=Xg (List.Perm.swap _ _ _) f;intro e;subst e;have n:x b=some o:=g;have m:d b=some a:=j;rcases i b with q|q
 ·simp_all
 simp_all[Do]
theorem A4.KX{P:Program}{ty o:TypeId}{x:Operand}{K:Value->World->Prop}{w9:Nat}{z:Value}{l:List Value}
 (T:Ca P t e E.sz w9 z)(GI:P.underlying o=some (.int .i64))(h:Hp c w L)(M:ρ x= .slice a n cap)(H:ρ y=I m)(hs:Sl w E.sz (.slice a n cap) n l)(hc:cap<n+m)(Y:0<m*E.sz)(V:m<=100000000)(C:w9<=4096)
 (s:(n+m)<=1099511627776∧(n+m)*w9<=140737488355328)
 (k:∀b G2 d post w',Hp c w' (bk b (l++d++post) e::L)->(d.length=m*E.sz∧n+m<=G2∧(G2-(n+m))*E.sz<=post.length∧G2<=maxLen)->K (.slice (some ⟨b,0,none⟩) (n+m) G2) w'):
 A4 P ⟨dst,.call ⟨.builtin .append,#[x,y],#[t,o]⟩,ty,db,af,g⟩ ρ w K PQ:=by
 obtain⟨i,Q,G,f,u⟩:=T.i;obtain⟨d,j⟩:∃d,(Builtin.zeroCells z.cells m).toList=d:=⟨_,rfl⟩;rw[<-f]at hs Y k;subst u;have p:=T.z;have r7:=hs.len;have A:d.length=m*i.size:=by rw[<-j];simp[Builtin.zeroCells,p,f]
 have J:IntKind.i64.wrap (m:Int)=m:=Ug ⟨m4,m4⟩;have X:¬(m:Int)<0:=m4
 have hbm:(m:Int)*(i.bytes:Int)<=281474976710656:=by
  have h1:m*i.bytes<=100000000*4096:=zq V C;have:((m*i.bytes:Nat):Int)<=409600000000:=m4
  rw[uz]at this;omega
 have Z:¬(281474976710656<(m:Int)*(i.bytes:Int)):=m4
 have F:¬m*i.size=0:=m4
 have h63:n+m<=maxLen:=by unfold maxLen;omega
 have bX:=growslice_fits (need:=n+m) (old:=cap) (bytes:=i.bytes) m4 s.2;have hge:=grownCap_ge w (n+m) cap e;have S:grownCap w (n+m) cap e<=maxLen:=grownCap_le_maxLen w (n+m) cap e h63;have N:¬(n+m<=cap):=m4
 have r:¬(9223372036854775807<((n:Int)+(m:Int))):=m4
 have q:¬(281474976710656<Builtin.nextslicecap (n+m) cap*i.bytes):=m4
 have D:ua zI w w.drew:=ua.refl.drew;have hfo:=Ja (P:=P) (hs.Q6 D (λ_ _ _ _ e=>e));have R:Hp c (w.drew.alloc (.cells ((l++d++(Builtin.zeroCells z.cells (grownCap w (n+m) cap e-(n+m))).toList)).toArray e)) (bk w.heap.size (l++d++(Builtin.zeroCells z.cells (grownCap w (n+m) cap e-(n+m))).toList) e::L):=(h.drew).alloc _;refine A4.val (v:= .slice (some ⟨w.heap.size,0,none⟩) (n+m) (grownCap w (n+m) cap e)) (w':=w.drew.alloc (.cells ((l++d++(Builtin.zeroCells z.cells (grownCap w (n+m) cap e-(n+m))).toList)).toArray e)) ?_ (k _ _ _ _ _ R ⟨A,hge,by simp[Builtin.zeroCells,p,f],S⟩);simp[execOp,resolve,invoke,builtin,M,H,Builtin.append_,run_underlying T.t,run_underlying GI,sizeOf,typeInfo,zeroValue,Q,G,N,r,q,Question.forced,hfo,newRow,grownCap,asInt,asIntOf,J,X,Z,F,j];congr 2;simp[*]
end
theorem RD.LH{P:Program}(p:N8 P T X){C:World->Prop}{j:TypeInfo}{l:Nat}{a c:Option Value}(d:T t=some ⟨.slice e,j⟩)(hs:Rb T e=some sz)
 (g:fF a 0=some (l:Int))(f:fF c n=some (m:Int))(i:l<=m∧m<=cap∧n<=cap)(hlc:l<cap)(k:K (.slice (some ⟨b,o+l*sz,none⟩) (m-l) (cap-l))):RD P C (Instr.sliceAt t (.slice (some ⟨b,o,none⟩) n cap) a c none) K:=by
 refine RD.cut p d hs g f i ?_;rw[V0 m4,Es,i9];exact k
theorem A4.alI{ty:TypeId}{tys:Array TypeId}{x:Operand}{K:Value->World->Prop}{d j m cp2:Nat}{l l2:List Value}{a:TypeId}
 (r:ρ (.func 345)= .func (.func 345) #[] #[])(p:ρ x= .slice (some ⟨b,o,none⟩) n m)(s:ρ y= .slice (some ⟨b2,d,none⟩) j cp2)(h:Hp c w (bk b l t::bk b2 l2 a::L))(z:l2≠[])(k:K (.bool false) w):
 A4 prog ⟨dst,.call ⟨.value (.func 345),#[x,y],tys⟩,ty,db,af,g⟩ ρ w K PQ:=by
 refine A4.val (v:= .bool false) (w':=w) ?_ k;have A:=(h.Qm (i:=0) O).t8;have C:=(h.Qm (i:=1) O).t8;have u:=h.acI;have q:=Go.Lib.run_overlaps_apart (P:=prog) w 437 4 448 (Ca.of (t:=437) (e:=448) (sz:=4) (w9:=32) kn O O O O O O).t 4 (λw=>Pa kn (t:=448) O w) ⟨b,o,none⟩ ⟨b2,d,none⟩ n m j cp2 u t a l.length l2.length (by simp_all[World.shape?]) (by simp_all[World.shape?]) Zb1 (by simp_all[World.frozen?]) (by simp_all[World.frozen?]);simp[execOp,resolve,invoke,Deferred.ofValue,r,p,s,run_callFunc_extern (f:=345) (P:=prog) func345 O O Zb2 (e:=Extern.SlicesOverlaps.overlaps #[437,437] #[4]) Zb2,q]
section
variable[DecidableEq κ]{K:κ->Value}{V:β->Value}{P:Program}{mt kt et:TypeId}{z:Value}{xs:List (κ×β)}{S:World->Prop}
theorem RD.ajQ{Q:Value->Prop}(T:V9 P mt kt et z K)(f:∀w,S w->Hp c w L)(j:Nat)(e:i3 L j=some (mo K V b xs))(k:κ)
 (d:Q (if ok then .tuple #[((K0 xs k).map V).getD z,.bool (K0 xs k).isSome]else((K0 xs k).map V).getD z)):RD P S (Instr.lookup mt (.map (some b)) (K k) ok) Q:=by
 refine⟨_,λw a=>?_,d⟩;obtain⟨v,h,g⟩:=(RD.get (Q:=λv=>v=_) T (f w a) j e k (ok:=ok) rfl).ex<;>grind
theorem RD.aab{Q:Value->Prop}(T:V9 P mt kt et z K)(d:∀w,S w->Hp c w L)(j:Nat)(a:i3 L j=some (mo K V b xs))(k:κ)(e:K0 xs k=some v)(f:Q (if ok then .tuple #[V v,.bool true]else V v)):
 RD P S (Instr.lookup mt (.map (some b)) (K k) ok) Q:=RD.ajQ T d j a k Zb1
theorem RD.aac{Q:Value->Prop}(T:V9 P mt kt et z K)(d:∀w,S w->Hp c w L)(j:Nat)(a:i3 L j=some (mo K V b xs))(k:κ)(e:K0 xs k=none)(f:Q (if ok then .tuple #[z,.bool false]else z)):
 RD P S (Instr.lookup mt (.map (some b)) (K k) ok) Q:=RD.ajQ T d j a k Zb1
theorem RD.ajS{Q:Value->Prop}(T:V9 P mt kt et z K)(e:∀w,S w->Hp c w L)(j:Nat)(d:i3 L j=some (mo K V b xs))(k:κ)(h0:K0 xs k=none->Q (if ok then .tuple #[z,.bool false]else z))
 (f:∀v,K0 xs k=some v->Q (if ok then .tuple #[V v,.bool true]else V v)):RD P S (Instr.lookup mt (.map (some b)) (K k) ok) Q:=by
 cases a:K0 xs k with
 |none=>exact RD.aac T e j d k a (h0 a)
 |some v=>exact RD.aab T e j d k a (f v a)
end
section
variable{σ:Type}[DecidableEq κ]{K:κ->Value}{R:Nat->σ->HP}{xs:List (κ×σ)}{P:Program}{mt kt et:TypeId}{ty:TypeId}{Q:Value->World->Prop}{m x:Operand}
theorem qe{β:Type}{k:κ}{u v:β}:∀{l:List (κ×β)},R1 (R1 l k u) k v=R1 l k v
 |[]=>by simp[R1]
 |z::l=>by
  by_cases a:k=z.1
  ·simp[R1,a]
  ·have:=qe (k:=k) (u:=u) (v:=v) (l:=l);simp[R1,a,this]
theorem Wt{β:Type}{k:κ}:∀{l:List (κ×β)},K0 l k=none->U7 l k=l
 |[],_=>rfl
 |z::l,h=>by
  unfold K0 at h;unfold U7;by_cases a:k=z.1
  ·simp_all
  ·rw[V0 a]at h⊢;rw[Wt h]
theorem A4.Wq{p:Nat}(s:σ)(T:V9 P mt kt et jk K)(h:Hp c w (mr K R b xs::L))(k:κ)(a:K0 xs k=none)(l:ρ m= .map (some b))(j:ρ x=K k)(i:ρ y=Pt p)
 (k':∀w',Hp c w' (mh K R b (R1 xs k s) k p::L)->Q undef w'):A4 P ⟨dst,.mapUpdate mt m x y,ty,db,af,g⟩ ρ w Q PQ:=by
 obtain⟨q,e,n⟩:=h.Xc;subst e;refine A4.Eb T n 0 O k p l j i O λw' d=>k' w' ?_;rw[Gc (Ol.2 a)]at d;rw[Gc a];refine Hp.R8 (f:=λ(z:List (κ×Nat×σ)×σ×List (κ×Nat×σ))=>C5 [d6 (ks z.1++(k,z.2.1)::ks z.2.2=ks q++[(k,s)]∧K0 (ks z.1) k=none),mo K Pt b (kp z.1++(k,p)::kp z.2.2),ea R (ps z.1++ps z.2.2)]) (q,s,[]) (Hp.C3 (A:=[d6 _,mo K Pt b (kp q++(k,p)::kp []),ea R (ps q++ps [])]) (Hp.T' ⟨rfl,a⟩ ?_));simpa using d
theorem A4.vZ(T:V9 P mt kt et jk K)(h:Hp c w (mr K R b xs::L))(k:κ)(f:ρ m= .map (some b))(d:ρ x=K k)
 (k':∀w',Hp c w' (mr K R b (U7 xs k)::L)->Q (.tuple #[]) w'):A4 P ⟨dst,.call ⟨.builtin .delete,#[m,x],#[mt,kt]⟩,ty,db,af,g⟩ ρ w Q PQ:=by
 cases j:K0 xs k with
 |none=>obtain⟨q,e,a⟩:=h.Xc;subst e;refine A4.qk T a 0 O k f d O λw' i=>k' w' ?_;have i:Hp c w' (mo K Pt b (U7 (kp q) k)::ea R (ps q)::L):=i;simp_all[Wt,Ol,Hp.Bd]
 |some s=>obtain⟨p,a⟩:=h.IS j;exact A4.air T (a.q 2 [1] O) f d k'
omit [DecidableEq κ]in
theorem A4.alB(d:P.underlying mt=some (.map kt et))(h:Hp c w (mr K R b xs::L))(f:ρ m= .map (some b))
 (k':∀w',Hp c w' (mr K R b ([]:List (κ×σ))::L)->Q (.tuple #[]) w'):A4 P ⟨dst,.call ⟨.builtin .clear,#[m],#[mt]⟩,ty,db,af,g⟩ ρ w Q PQ:=by
 obtain⟨q,e,i⟩:=h.Xc;subst e;refine A4.adH (K:=K) (V:=Pt) d i 0 O f O λw' a=>k' w' ?_;have a:Hp c w' (mo K Pt b ([]:List (κ×Nat))::ea R (ps q)::L):=a;exact(a.q 2 [0] O).yn
omit [DecidableEq κ]in
end
def Ii(hs:List W5)(tx:Int):Int:=idxOf (λw=>decide (w.tx=tx)) hs
def Gv(hs:List W5)(w:W5):Bool:= !(hs.any λh=>decide (¬h.tx=w.tx)&&(h.T8||w.T8))
def Zc(hs:List W5)(w:W5):List W5:=if Ii hs w.tx>=0 then hs.modify (Ii hs w.tx).toNat (λh=>{h with T8:=true})else hs++[w]
theorem cX(r:R5)(tx:Int):r.Bk tx=Ii r.N4 tx:=rfl
theorem NS(r:R5)(w:W5):r.Um w=Gv r.N4 w:=rfl
theorem Hn(r:R5)(w:W5):r.VM w=⟨Zc r.N4 w,r.R3⟩:=by grind[R5.VM,Zc,cX]
theorem zx{α:Type}{f:α->α}:∀{l:List α}{i:Nat}{y:α},i3 l i=some y->l.modify i f=l.set i (f y)
 |[],i,y,h=>Zb3
 |x::l,0,y,h=>by simp_all[i3]
 |x::l,i+1,y,h=>by have:=zx (f:=f) (l:=l) (i:=i) h;simp[*]
theorem vk{α:Type}{p:α->Bool}:∀(l:List α),idxOf p l>=-1∧idxOf p l<l.length
 |[]=>by simp[idxOf]
 |x::l=>by have:=vk (p:=p) l;grind[idxOf]
section
theorem agq(h:Hp c w (bk b [I tx] 3::R)):Cr 344 #[x.v,Pt b] w c (.bool (decide (x.tx=tx))) (bk b [I tx] 3::R):=by exact R2 func344 O (I2 h O λb1 w h=>U0 h 0 O O (U0 h 1 O O ⟨rfl,h.q 2 [1] O⟩))
theorem agl(h:Hp c w (bk b [I tx] 3::R)):Cr 358 #[x.v,Pt b] w c (.bool (decide (x.tx=tx))) (bk b [I tx] 3::R):=by exact R2 func358 O (I2 h O λb1 w h=>U0 h 0 O O (U0 h 1 O O ⟨rfl,h.q 2 [1] O⟩))
theorem wW{y:W5}(h0:c.cell? ⟨b,0,none⟩=some (I y.tx))(a:c.cell? ⟨b,1,none⟩=some (.bool y.T8))(h:Hp c w R):Cr 322 #[x.v,Pt b] w c (.bool (decide (¬x.tx=y.tx)&&(x.T8||y.T8))) R:=by
 refine R2 func322 O (I2 h O λb1 w h=>U0 h 0 O O (LD.ady h h0 (BR.ne (λe=>?_) λe=>?_)))
 ·refine U0 h 0 O O (BR.O' (λd=>?_) λd=>?_)
  ·refine⟨A8 O ?_,h.q 1 [] O⟩;grind[]
  ·refine LD.ady h a ⟨A8 O ?_,h.q 1 [] O⟩;grind[]
 ·refine⟨A8 O ?_,h.q 1 [] O⟩;grind[]
theorem agC(h:Hp c w R):Cr 325 #[x.v] w c (.bool (!x.Oe)) R:=by exact R2 func325 O (I2 h O λb1 w h=>U0 h 0 O O ⟨rfl,h.q 1 [] O⟩)
theorem nR(h:Hp c w (bk b [.slice a hs.length cap,.slice aq nq cq] 439::so 448 J4 a cap hs::R))(d:hs.length<=100000000):Cr 321 #[Pt b,I tx] w c (I (Ii hs tx)) (bk b [.slice a hs.length cap,.slice aq nq cq] 439::so 448 J4 a cap hs::R):=by exact R2 func321 O (I2 h O λb1 w h=>U0 h 1 O O (N1 (jJ (f:=344) (p:=λx=>decide (x.tx=tx)) (λh=>agq h) O (h.g [0,2] O) m4) λw h=>⟨rfl,h.q 3 [2,1] O⟩))
theorem dM(h:Hp c w (bk b [.slice a hs.length cap,.slice aq nq cq] 439::so 448 J4 a cap hs::R))(g:hs.length<=100000000):Cr 281 #[Pt b,x.v] w c (.bool (Gv hs x)) (bk b [.slice a hs.length cap,.slice aq nq cq] 439::so 448 J4 a cap hs::R):=by refine R2 func281 O (I2 h O λb1 w h=>U0 h 1 O O ?_);have h0:=(h.Qm (i:=0) O).cell (k:=0) O;have d:=(h.Qm (i:=0) O).cell (k:=1) O;refine N1 (agE (f:=322) (lb:=[Pt b1]) (p:=λ(y:W5)=>decide (¬y.tx=x.tx)&&(y.T8||x.T8)) (h.Z4 2 O) (λh=>wW h0 d h) O m4) λw e=>?_;replace h:=h.H6 e;exact⟨rfl,h.q 3 [1,2] O⟩
theorem cM(h:Hp c w (bk b [.slice a hs.length cap,.slice aq nq cq] 439::so 448 J4 a cap hs::R))(l:hs.length<=100000000):Cs 282 #[Pt b,x.v] w (λe w'=>∃a' G2,e= .returned (.tuple #[])∧Hp c w' (bk b [.slice a' (Zc hs x).length G2,.slice aq nq cq] 439::so 448 J4 a' G2 (Zc hs x)::R)):=by
 have j:Ii hs x.tx>=-1∧Ii hs x.tx<hs.length:=vk hs;refine R2 func282 O (I2 h O λb1 w h=>U0 h 0 O O (N1 (nR (h.g [1,2] O) Zb9) λw h=>BR.T5 (λd=>?_) λd=>?_))
 ·obtain⟨y,f⟩:∃y,i3 hs (Ii hs x.tx).toNat=some y:=⟨hs[(Ii hs x.tx).toNat],by rw[Z0,d8]⟩;have e:Zc hs x=hs.set (Ii hs x.tx).toNat {y with T8:=true}:=by unfold Zc;rw[S1 d,zx f]
  have i:(Zc hs x).length=hs.length:=by rw[e,Uk]
  refine U0 h 0 O O (jd h 1 O λb2 k n=>ST.sl (y:={y with T8:=true}) h 1 O Zb9 f O O O O O λw h=>?_);rw[<-e]at h;rw[<-i]at h;exact⟨_,_,rfl,h.q 3 [0,1] O⟩
 ·have e:Zc hs x=hs++[x]:=by unfold Zc;rw[V0 d]
  rw[e];exact Y6 h [0,1,2,3,4,55,56,107,8,9,110] λh=>U3 0 O O (O4 h 2 O O ⟨h,I2 h O λb2 w h=>⟨h.q 4 [1,2,3] O,A4.Yb (u:=⟨_,_,_,_⟩) (Ca.of (w9:=32) kn O O O O O O) h 2 O O 0 O O O m4 (λ_ _=>rfl) λa1 m w h=>J3 h 1 O O O λw h=>⟨_,_,rfl,h.q 4 [1,2] O⟩⟩⟩)
theorem WL(h:Hp c w (so 448 J4 a cap hs::R))(b:hs.length<=100000000):Cr 347 #[.slice a hs.length cap,I tx] w c (.slice a (Gg hs tx).length cap) (so 448 J4 a cap (Gg hs tx)::R):=by
 refine R2 func347 O (I2 h O λb1 w h=>N1 (agm (f:=358) (p:=λx=>decide (x.tx=tx)) (λh=>agl h) O h m4) λw h=>?_);have e:(hs.filter λx=>!decide (x.tx=tx))=Gg hs tx:=by unfold Gg;simp
 rw[e]at h⊢;exact⟨rfl,h.q 2 [1] O⟩
end
def sk(xs:List W5)(i:Nat)(x:W5):List W5:=xs.take i++[x]++xs.drop i
theorem fh{xs:List W5}(h:i<=xs.length):(sk xs i x).length=xs.length+1:=by grind[sk]
theorem qH(a:o=pre.length+i*E.sz)(h:i+n<=xs.length):((pre++E.P3 xs++post).drop o).take (n*E.sz)=E.P3 ((xs.drop i).take n):=by
 subst a;have e:xs=xs.take i++((xs.drop i).take n++(xs.drop i).drop n):=by rw[Vd,Vd]
 have d:(E.P3 (xs.take i)).length=i*E.sz:=by rw[E.p8,Ga,Ue m4]
 have c:(E.P3 ((xs.drop i).take n)).length=n*E.sz:=by rw[E.p8,Ga,Ve,Ue m4]
 have b:E.P3 xs=E.P3 (xs.take i)++(E.P3 ((xs.drop i).take n)++E.P3 ((xs.drop i).drop n)):=by rw[<-E.Z9,<-E.Z9,<-e]
 grind
theorem f4(x:W5):x.f.length=4:=rfl
theorem wl(xs:List W5):(J4.P3 xs).length=xs.length*4:=J4.p8 xs
theorem w1(x:W5):J4.P3 [x]=x.f:=rfl
theorem aiY{xs:List W5}{a:List Value}(c:i<xs.length)(b:a.length=(xs.length+1-i)*4):m8 (J4.P3 (xs.take i)++a++post) (0+i*4) x.f=J4.P3 (xs.take i)++x.f++(a.drop 4++post):=by
 have e:0+i*4=(J4.P3 (xs.take i)).length:=by rw[wl,Ga];omega
 have d:J4.P3 (xs.take i)++a++post=J4.P3 (xs.take i)++a.take 4++(a.drop 4++post):=by rw[N',N',<-N' (a.take 4),Vd]
 grind[Dl,f4]
theorem aiX{xs:List W5}{a:List Value}(c:i<xs.length)(b:a.length=(xs.length+1-i)*4):m8 (J4.P3 (xs.take i)++x.f++(a.drop 4++post)) (0+(i+1)*4) (J4.P3 (xs.drop i))=[]++J4.P3 (sk xs i x)++post:=by
 have e:0+(i+1)*4=(J4.P3 (xs.take i)++x.f).length:=by rw[j7,wl,Ga,f4];omega
 have d:J4.P3 (sk xs i x)=J4.P3 (xs.take i)++x.f++J4.P3 (xs.drop i):=by unfold sk;rw[J4.Z9,J4.Z9];rfl
 grind[Dl,wl]
theorem aiW{xs:List W5}(b:i<xs.length)(a:4<=post.length):m8 (pre++J4.P3 xs++post) (pre.length+(i+1)*4) (J4.P3 (xs.drop i))=pre++J4.P3 (xs.take (i+1))++J4.P3 (xs.drop i)++post.drop 4:=by
 have d:pre.length+(i+1)*4=(pre++J4.P3 (xs.take (i+1))).length:=by rw[j7,wl,Ga];omega
 have c:pre++J4.P3 xs++post=pre++J4.P3 (xs.take (i+1))++(J4.P3 (xs.drop (i+1))++post.take 4)++post.drop 4:=by
  have:J4.P3 xs=J4.P3 (xs.take (i+1))++J4.P3 (xs.drop (i+1)):=by rw[<-J4.Z9,Vd]
  rw[this];simp only[List.append_assoc,List.take_append_drop]
 grind[Dl,wl]
theorem aiV{xs:List W5}(b:i<xs.length):m8 (pre++J4.P3 (xs.take (i+1))++J4.P3 (xs.drop i)++post) (pre.length+i*4) x.f=pre++J4.P3 (sk xs i x)++post:=by
 have e:pre.length+i*4=(pre++J4.P3 (xs.take i)).length:=by rw[j7,wl,Ga];omega
 have a:xs.take (i+1)=xs.take i++[xs[i]]:=Zb3
 have d:J4.P3 (sk xs i x)=J4.P3 (xs.take i)++(x.f++J4.P3 (xs.drop i)):=by unfold sk;rw[J4.Z9,J4.Z9,N'];rfl
 have c:pre++J4.P3 (xs.take (i+1))++J4.P3 (xs.drop i)++post=(pre++J4.P3 (xs.take i))++(xs[i]).f++(J4.P3 (xs.drop i)++post):=by rw[a,J4.Z9,w1];simp only[List.append_assoc]
 grind[Dl,f4]
section
theorem mR{xs:List W5}(h:Hp c w (so 448 J4 a cap xs::bk b2 x.f 448::R))(j:i<=xs.length)(H:xs.length<=90000000):Cs 326 #[.slice a xs.length cap,I i,.slice (some ⟨b2,0,none⟩) 1 1] w (λe w'=>∃a' G2,e= .returned (.slice a' (sk xs i x).length G2)∧Hp c w' (so 448 J4 a' G2 (sk xs i x)::R)):=by
 have F:xs.length<=cap:=(h.Z4 0 O).cap;refine R2 func326 O (RD.cut (l:=Int.toNat _) kn O O (Xr m4) O m4 (m5 (BR.eq (λy=>?_) λy=>?_)))
 ·refine A4.Yb (u:=⟨_,_,_,_⟩) (Ca.of (w9:=32) kn O O O O O O) h 0 O O 1 O O O m4 (λ_ _=>rfl) λa1 K w h=>?_;have e:sk xs i x=xs++[x]:=by unfold sk;rw[sd m4,BC m4,Jb]
  rw[e];exact⟨_,_,rfl,h.q 2 [0] O⟩
 ·have D:xs≠[]:=λe=>Zb7
  obtain⟨b,pre,post,rfl,⟨G,A,Yx⟩,h⟩:=h.LR D;have hc7:(cap-xs.length)*4<=post.length:=A;have hdt:(xs.drop i).take (xs.length-i)=xs.drop i:=sd Zb3;have hfm:=qH (E:=J4) (xs:=xs) (pre:=pre) (post:=post) (i:=i) (n:=xs.length-i) O m4;rw[hdt]at hfm;have J:(J4.P3 xs).length=xs.length*4:=J4.p8 xs;have k:i<xs.length:=m4
  refine i5 (BR.T5 (λv=>?_) λv=>?_)
  ·refine RD.Vh kn O O O O m4 (i5 (i5 (A4.KX (E:=J4) (n:=i) (m:=xs.length+1-i) (Ca.of (w9:=32) kn O O O O O O) Zb3 h O (V4 I m4) (h.tq (i:=0) O (by show _+i*4<=_;grind) (qH (i:=0) m4 m4)) m4 (by show 0<_*4;omega) m4 Zb4 m4 λt p C z w h hc4=>?_)));rw[qz]at h;have hc5:C.length=(xs.length+1-i)*4:=hc4.1;have hc6:(p-(i+(xs.length+1-i)))*4<=z.length:=hc4.2.2.1;refine RD.LH (e:=448) (l:=i) kn O O O O m4 m4 (A4.copy (sz:=4) (n:=1) (Ca.of (w9:=32) kn O O O O O O) O O (h.tq (i:=2) (o:=0) (n:=1) (l2:=x.f) O (by rw[f4];decide) O) (Ue m4) (ST.ll h 0 O O O (by show _+1*4<=_;simp only[List.length_append];rw[wl,Ga];show 0+i*4+_<=_;omega) (aiY k hc4.1) O λw h=>ja.D0 kn o8 (λ_=>True) (qs [0,1,2,3,4,5,6,7] (vs [8] .done)) Zb2 trivial ?_));replace h:=h.drew;refine i5 (RD.LH (e:=448) (l:=i+1) kn O O O O m4 m4 (RD.LH (e:=448) (l:=i) kn O O O O m4 m4 (A4.copy (sz:=4) (n:=xs.length-i) (Ca.of (w9:=32) kn O O O O O O) O O (h.tq (i:=1) (o:=pre.length+i*4) (n:=xs.length-i) (l2:=J4.P3 (xs.drop i)) O Zb1 hfm) (Ue m4) ?_)));have d:(J4.P3 (xs.drop i)).take ((xs.length-i)*4)=J4.P3 (xs.drop i):=sd (by rw[wl,Ve];omega);have r:(J4.P3 (xs.drop i)).length=(xs.length-i)*4:=by rw[wl,Ve]
   refine ST.ll h 0 O ((V4 List.length d).trans r) ((V4 (λl=>l.all (·.oneCell')) d).trans (J4.Ji _)) (by simp only[List.length_append,List.length_drop];rw[wl,f4,Ga];show 0+(i+1)*4+_<=_;omega) ((V4 (m8 _ _) d).trans (aiX k hc5)) O λw h=>?_;replace h:=Hp.uJ (cap:=p) (E:=J4) h (by rw[fh j];omega) (by grind[fh]) hc4.2.2.2;have s:i+(xs.length+1-i)=(sk xs i x).length:=by rw[fh j];omega
   skip;exact⟨some ⟨t,0,none⟩,p,V4 (λn=>Ending.returned (Value.slice (some ⟨t,0,none⟩) n p)) s,h.q 3 [0] O⟩
  ·refine i5 (RD.Vh kn O O O O m4 (i5 ?_));have anX:pre++J4.P3 xs++post≠[]:=λe=>by have:=V4 List.length e;grind
   refine RD.LH (e:=448) (l:=i+1) kn O O O O m4 m4 (od.zJ O (A4.alI O O O (h.g [1] O) Zb9 (Q5 (ja.D0 kn o8 (λ_=>True) (qs [0,1,2,3,4,5,6,7] (vs [8] .done)) Zb2 trivial ?_))));replace h:=h.drew;refine i5 (RD.LH (e:=448) (l:=i+1) kn O O O O m4 m4 (RD.LH (e:=448) (l:=i) kn O O O O m4 m4 (A4.copy (sz:=4) (n:=xs.length-i) (Ca.of (w9:=32) kn O O O O O O) O O (h.tq (i:=0) (o:=pre.length+i*4) (n:=xs.length+1-i) (l2:=_) O Zb1 O) Zb1 ?_)));have d:(((pre++J4.P3 xs++post).drop (pre.length+i*4)).take ((xs.length+1-i)*4)).take ((xs.length-i)*4)=J4.P3 (xs.drop i):=by rw[fu,Ue m4];exact hfm
   have r:(J4.P3 (xs.drop i)).length=(xs.length-i)*4:=by rw[wl,Ve]
   refine ST.ll h 0 O ((V4 List.length d).trans r) ((V4 (λl=>l.all (·.oneCell')) d).trans (J4.Ji _)) (by simp only[List.length_append];show pre.length+(i+1)*4+_<=_;omega) ((V4 (m8 _ _) d).trans (aiW k m4)) O λw h=>RD.LH (e:=448) (l:=i) kn O O O O m4 m4 (A4.copy (sz:=4) (n:=1) (Ca.of (w9:=32) kn O O O O O O) O O (h.tq (i:=1) (o:=0) (n:=1) (l2:=x.f) O (by rw[f4];decide) O) (Ue m4) (ST.ll h 0 O O O (by show _+1*4<=_;simp only[List.length_append];rw[wl,Ga];show pre.length+i*4+_<=_;omega) (aiV k) O λw h=>?_));replace h:=Hp.uJ (cap:=cap) (E:=J4) h (by rw[fh j];omega) (by rw[fh j,Ve];show(_*4)<=_;omega) Yx;have s:xs.length+1=(sk xs i x).length:=by rw[fh j]
   skip;exact⟨some ⟨b,pre.length,none⟩,cap,V4 (λn=>Ending.returned (Value.slice (some ⟨b,pre.length,none⟩) n cap)) s,h.q 2 [0] O⟩
end
def Zm(ql:List W5)(x:W5):Nat:=if x.Oe then(if idxOf (λ(x:W5)=>!x.Oe) ql<0 then ql.length else(idxOf (λ(x:W5)=>!x.Oe) ql).toNat)else ql.length
def Lq(ql:List W5)(x:W5):List W5:=sk ql (Zm ql x) x
theorem MC(r:R5)(x:W5):r.R0 x=⟨r.N4,Lq r.R3 x⟩:=rfl
theorem Rs(ql:List W5)(x:W5):Zm ql x<=ql.length:=by have:=vk (p:=λ(x:W5)=>!x.Oe) ql;grind[Zm]
section
theorem MY(h:Hp c w (bk b [.slice a n cap,.slice aq ql.length cq] 439::so 448 J4 aq cq ql::R))(C:ql.length<=80000000):Cs 283 #[Pt b,x.v] w (λe w'=>∃a' G2,e= .returned (.tuple #[])∧Hp c w' (bk b [.slice a n cap,.slice a' (Lq ql x).length G2] 439::so 448 J4 a' G2 (Lq ql x)::R)):=by
 have u:=Rs ql x;obtain⟨k,d⟩:∃k,Zm ql x=k:=⟨_,rfl⟩;have t:=vk (p:=λ(x:W5)=>!x.Oe) ql;unfold Lq;rw[d]at u⊢;unfold Zm at d;obtain⟨j,o⟩:∃j,idxOf (λ(x:W5)=>!x.Oe) ql=j:=⟨_,rfl⟩;rw[o]at t d;have m:(x.Oe=true->(j<0->k=ql.length)∧(¬j<0->j=k))∧(x.Oe=false->k=ql.length):=by subst d;exact⟨λg=>⟨λi=>Zb6,λi=>Zb1⟩,λg=>Zb6⟩
 clear d;have A:x.f=[I x.tx,.bool x.T8,I x.ec,.bool x.Oe]:=rfl;cases l:x.Oe with
 |false=>have e:=m.2 l;subst e;refine R2 func283 O (I2 h O λb1 w h=>U0 h 1 O O (U0 h 0 O O (BR.no l (Y6 h [0,1,2,3,5,4,56,57,108,9,10,111] λh=>U3 1 O O (O4 h 0 O O ⟨h,I2 h O λb2 w h=>⟨h.q 4 [1,2,3] O,ga (mR (h.g [3] O) Zb9 m4) λa1 s w h=>?_⟩⟩)))));exact J3 h 2 O O O λw h=>⟨_,_,rfl,h.q 3 [2,0] O⟩
 |true=>
  obtain⟨z,y⟩:=m.1 l;refine R2 func283 O (I2 h O λb1 w h=>U0 h 1 O O (U0 h 0 O O (BR.s9 l (U0 h 1 O O ?_))));have r:=jJ (f:=325) (lb:=[]) (p:=λ(x:W5)=>!x.Oe) (λh=>agC h) O (h.g [0,2] O) m4;rw[o]at r;refine N1 r λw h=>BR.T5 (λi=>?_) λi=>?_
  ·have e:=z i;subst e;exact U0 h 2 O O (Y6 h [0,1,2,3,5,4,56,57,108,9,10,111] λh=>U3 2 O O (O4 h 0 O O ⟨h,I2 h O λb2 w h=>⟨h.q 4 [1,2,3] O,ga (mR (h.g [2] O) Zb9 m4) λa1 s w h=>J3 h 2 O O O λw h=>⟨_,_,rfl,h.q 3 [2,0] O⟩⟩⟩))
  ·have e:=y i;subst e;exact Y6 h [0,1,2,3,5,4,56,57,108,9,10,111] λh=>U3 2 O O (O4 h 0 O O ⟨h,I2 h O λb2 w h=>⟨h.q 4 [1,2,3] O,ga (mR (h.g [2] O) Zb9 m4) λa1 s w h=>J3 h 2 O O O λw h=>⟨_,_,rfl,h.q 3 [2,0] O⟩⟩⟩)
end
structure Tl(a:Option Addr)(cap n sz k:Nat)(a':Option Addr)(G2:Nat):Prop where
 le:k<=n∧n<=cap
 cp:G2=cap-k
 t8:k<cap->a'=a.map (·.add (k*sz))
 fr:a=none->a'=none
 Ih:∀b o,a=some ⟨b,o,none⟩->∃o',a'=some ⟨b,o',none⟩∧o'<=o+cap*sz
theorem Tl.zero(h:n<=cap):Tl a cap n sz 0 a cap:=by refine⟨⟨m4,h⟩,rfl,λ_=>?_,λh=>h,λb o e=>⟨o,e,m4⟩⟩;simp[Addr.add]
theorem Tl.step{a':Option Addr}{G2:Nat}(h:Tl a cap n sz k a' G2)(g:k<n):Tl a cap n sz (k+1) (if G2=1 then a' else a'.map (·.add (1*sz))) (G2-1):=by
 obtain⟨⟨q,j⟩,p,d,m,i⟩:=h;refine⟨⟨g,j⟩,m4,λl=>?_,λe=>?_,λb o e=>?_⟩
 ·rw[V0 m4,d m4,Option.map_map];congr 1;funext x;simp[Addr.add_add,Nat.add_mul]
 ·simp[*]
 ·obtain⟨o',f,r⟩:=i b o e;split
  ·simp[*]
  ·have c:=d m4;rw[e,Es,i9]at c;rw[f]at c;injection c with c;injection c with _ c;refine⟨o'+1*sz,by rw[f,Es,i9],?_⟩;rw[c,wz,<-iu];have:=xv sz (show k+1<=cap by omega);omega
section
variable{a':Option Addr}{G2:Nat}
theorem Tl.VF(t:Tl a cap xs.length E.sz k a' G2)(h:Hp c w (so e E a cap xs::L)):Hp c w (so e E a' G2 (xs.drop k)::L):=by
 obtain⟨⟨q,z⟩,y,p,o,n⟩:=t;refine h.imp λm j=>?_;rcases j with⟨d,i,g⟩|⟨b,pre,post,d,i,g,x,v⟩
 ·exact .inl ⟨o d,m4,Zb6⟩
 ·have s:=E.p8 xs;by_cases l:k<cap
  ·have f:=p l;rw[d,Es,i9]at f;have A:E.P3 xs=E.P3 (xs.take k)++E.P3 (xs.drop k):=by rw[<-E.Z9,Vd]
   refine .inr ⟨b,pre++E.P3 (xs.take k),post,?_,?_,?_,?_,m4⟩
   ·rw[f,j7,E.p8,Ga,Ue q]
   ·simp_all
   ·grind
   grind
  ·obtain⟨o',f,C⟩:=n b _ d;have r:xs.drop k=[]:=BC m4;have u:o'<=(pre++E.P3 xs++post).length:=by rw[j7,j7,s];have:cap*E.sz<=xs.length*E.sz:=xv _ m4;omega
   refine .inr ⟨b,(pre++E.P3 xs++post).take o',(pre++E.P3 xs++post).drop o',?_,?_,?_,?_,m4⟩
   ·simp_all
   ·grind[Qb.Fr,List.take_append_drop]
   ·rw[r];simp
   simp_all
theorem Jc.at0(a:0<n)(k:K (.pointer (some ⟨b,o,none⟩))):Jc (some ⟨b,o,none⟩) n 0 sz K:=by refine⟨_,rfl,m4,m4,?_⟩;simp_all[i9]
end
theorem vo(hs:List W5)(x:W5):(Zc hs x).length<=hs.length+1:=by grind[Zc]
theorem oW(a:i3 ql k=some x)(b:Gv hs x=true):R5.on (f+1) ⟨hs,ql.drop k⟩=R5.on f ⟨Zc hs x,ql.drop (k+1)⟩:=by rw[ud ql k x a];show(if R5.Um _ _=true then _ else _)=_;rw[NS,S1 b,Hn]
theorem nW(a:i3 ql k=some x)(b:Gv hs x=false):R5.on (f+1) ⟨hs,ql.drop k⟩=⟨hs,ql.drop k⟩:=by rw[ud ql k x a];show(if R5.Um _ _=true then _ else _)=_;simp_all[NS]
theorem adx:R5.on f ⟨hs,[]⟩=⟨hs,[]⟩:=by cases f<;>rfl
section
theorem agk(h:Hp c w (bk b [.slice a hs.length cap,.slice aq ql.length cq] 439::so 448 J4 a cap hs::so 448 J4 aq cq ql::R))(F:hs.length+ql.length<=90000000):Cs 359 #[Pt b] w (λe w'=>∃(k:Nat)(a':Option Addr)(G2:Nat)(aq':Option Addr)(cq':Nat)(Mh:List W5),e= .returned (.tuple #[])∧(k<=ql.length∧R5.on ql.length ⟨hs,ql⟩=⟨Mh,ql.drop k⟩∧Tl aq cq ql.length 4 k aq' cq'∧Mh.length<=hs.length+k)∧Hp c w' (bk b [.slice a' Mh.length G2,.slice aq' (ql.length-k) cq'] 439::so 448 J4 a' G2 Mh::so 448 J4 aq cq ql::R)):=by
 have hqc:ql.length<=cq:=(h.Z4 2 O).cap;refine R2 func359 O (p5.A6 kn [0] (λm vs w'=>∃(k:Nat)(a':Option Addr)(G2:Nat)(aq':Option Addr)(cq':Nat)(Mh:List W5),vs=[Pt b]∧(k+m=ql.length∧R5.on ql.length ⟨hs,ql⟩=R5.on m ⟨Mh,ql.drop k⟩∧Tl aq cq ql.length 4 k aq' cq'∧Mh.length<=hs.length+k)∧Hp c w' (bk b [.slice a' Mh.length G2,.slice aq' (ql.length-k) cq'] 439::so 448 J4 a' G2 Mh::so 448 J4 aq cq ql::R)) ql.length ⟨0,a,cap,aq,cq,hs,rfl,⟨m4,rfl,Tl.zero hqc,m4⟩,h⟩ ?_);rintro m _ w1 G ⟨k,a1,s,aq1,cq1,d,rfl,⟨hkm,f,j,t⟩,h⟩;refine U0 h 0 O O (BR.T5 (λA=>?_) λA=>?_)
 ·have D:ql≠[]:=λe=>Zb7
  obtain⟨b1,z,_,_,p,_,_⟩:=h.El (i:=2) rfl D;have y:=j.t8 m4;rw[p,Es,i9]at y;subst y;obtain⟨x,n⟩:∃x,i3 ql k=some x:=⟨ql[k],by rw[Z0,d8]⟩;have u:m=m-1+1:=m4
  have hgl:=vo d x;have E:=j.step (show k<ql.length by omega);obtain⟨q,o⟩:∃q,Gv d x=q:=⟨_,rfl⟩;have v:=λ(w:World)(h:Hp c w (bk b [.slice a1 d.length s,.slice (some ⟨b1,z+k*4,none⟩) (ql.length-k) cq1] 439::so 448 J4 a1 s d::so 448 J4 aq cq ql::R))=>dM (x:=x) h m4;rw[o]at v;refine U0 h 0 O O (Jc.at0 m4 (Oa.sl h 2 O p n (N1 (v w1 h) λw h=>BR.O' (λr=>?_) λr=>?_)))
  ·have hcp:=j.cp;rw[u,oW n (o.trans r)]at f;have C:ql.length-k-1=ql.length-(k+1):=m4
   refine U0 h 0 O O (Jc.at0 m4 (Oa.sl h 2 O p n (I2 h O λb2 w h=>J3 h 0 O O O λw h=>U0 h 1 O O (RD.cut (e:=448) (sz:=4) (l:=1) kn O O O O m4 (J3 h 1 O O O λw h=>O4 h 0 O O (ga (cM (h.g [1,2] O) m4) λa2 H w h=>?_))))));rw[C]at h;exact⟨m-1,m4,k+1,_,_,_,_,_,rfl,⟨m4,f,E,m4⟩,h.q 4 [0,1,3] O⟩
  ·rw[u,nW n (o.trans r)]at f;skip;exact⟨k,_,_,_,_,d,rfl,⟨m4,f,j,t⟩,h⟩
 ·have e:ql.drop k=[]:=BC m4;rw[e,adx,<-e]at f;exact m5 ⟨k,a1,s,aq1,cq1,d,rfl,⟨m4,f,j,t⟩,h⟩
end
section
variable[DecidableEq κ]
theorem Q7:∀{xs:List (κ×β)}{k:κ}{v:β},K0 xs k=some v->(k,v)∈xs
 |[],_,_,h=>by cases h
 |x::r,k,v,h=>by
  unfold K0 at h;by_cases a:k=x.1
  ·grind
  ·rw[V0 a]at h;exact Ta _ (Q7 h)
theorem Sa:∀{xs:List (κ×β)}{k:κ}{v:β}{y:κ×β},y∈R1 xs k v->y=(k,v)∨y∈xs
 |[],k,v,y,h=>by simp_all[R1]
 |x::r,k,v,y,h=>by
  unfold R1 at h;by_cases a:k=x.1
  ·grind
  ·rw[V0 a]at h;rcases Vk.1 h with h|h
   ·simp[*]
   ·rcases Sa h with h|h<;>grind
theorem Qk:∀{xs:List (κ×β)}{k:κ}{y:κ×β},y∈U7 xs k->y∈xs
 |[],k,y,h=>by simp[U7]at h
 |x::r,k,y,h=>by
  unfold U7 at h;by_cases a:k=x.1
  ·simp_all
  ·rw[V0 a]at h;rcases Vk.1 h with h|h
   ·simp[*]
   ·exact Ta _ (Qk h)
theorem G1:∀{xs:List (κ×β)}{k:κ}{v:β},K0 (R1 xs k v) k=some v
 |[],k,v=>by simp[R1,K0]
 |x::r,k,v=>by
  unfold R1;by_cases a:k=x.1
  ·rw[S1 a];simp[K0,a]
  ·rw[V0 a];simp[K0,a];exact G1
theorem Y0:∀{xs:List (κ×β)}{k j:κ}{v:β},j≠k->K0 (R1 xs k v) j=K0 xs j
 |[],k,j,v,h=>by simp[R1,K0,h]
 |x::r,k,j,v,h=>by
  unfold R1;by_cases b:k=x.1
  ·simp_all[K0]
  ·rw[V0 b];simp only[K0];by_cases a:j=x.1
   ·simp[*]
   ·rw[V0 a,V0 a];exact Y0 h
theorem Nk{xs:List (κ×β)}{k:κ}(h:(K0 xs k).isSome=true):(R1 xs k v).map (·.1)=xs.map (·.1):=by
 induction xs with
 |nil=>cases h
 |cons x r a=>unfold R1;unfold K0 at h<;>grind
end
def aeO(g a:M9):Prop:=∀tx p C0 aiB v,g.o9 tx p C0=(v,0)->C0<=aiB->a.o9 tx p aiB=(v,0)
def acK(g:M9)(C0:Int)(m:P9):Prop:=m.W0=4->g.o9 m.tx m.E0 C0=(m.H8,0)
def IT(g:M9)(C0:Int)(e:End)(m:P9):Prop:=e.ra m=true∧acK g C0 m
def aeX(g:M9)(C0:Int)(e:End)(w:Way):Prop:=(∀m∈w.r9,IT g C0 e m)∧∀m∈w.box.rd,IT g C0 e m
def vV(C0:Int)(k:J2):Prop:=∀x∈k.ways,aeX k.R4 C0 x.1 x.2
structure KF(C0:Int)(k k':J2):Prop where
 R4:aeO k.R4 k'.R4
 Er:vV C0 k->vV C0 k'
 D0:k'.D0=k.D0
 Kd:k'.Kd=k.Kd
 all:k'.all=k.all
 U1:k'.ways.map (·.1)=k.ways.map (·.1)
section
variable{C0:Int}{k k' k2:J2}
theorem QK{b:Yk}{l:jc}{o:BitVec 64}{m:P9}:∀x∈(b.put l o m).2.2.rd,x∈b.rd∨x=m:=by grind[Yk.put]
theorem UB{l:List α}{x:α}(h:x∈pj l i):x∈l:=by grind[pj]
theorem CT{l:List α}{i:Int}{d:α}(h:¬(i<0∨i>=l.length)):l.getD i.toNat d∈l:=Zb7
theorem mv{b:Yk}{l:jc}{o:BitVec 64}{i:Int}:(∀x∈(b.take l o i).2.2.rd,x∈b.rd)∧((b.take l o i).2.1=0->(b.take l o i).1∈b.rd):=by grind[Yk.take,UB]
end
def kN(k:w4):Nat:=k.a.toNat*16777216+k.b.toNat*65536+k.x.toNat*256+k.y.toNat
theorem Hx{a b:w4}(h:kN a=kN b):a=b:=by obtain⟨a1,a2,a3,a4⟩:=a;obtain⟨b1,b2,d,c⟩:=b;unfold kN at h;simp only at h;have i:=a1.isLt;have g:=a2.isLt;have f:=a3.isLt;have e:=a4.isLt;have m:=b1.isLt;have l:=b2.isLt;have k:=d.isLt;have j:=c.isLt;have n:a1=b1:=Sh m4;grind[BitVec.eq_of_toNat_eq]
theorem SH(a b:w4):(a.cmp b=0∧kN a=kN b)∨(a.cmp b= -1∧kN a<kN b)∨(a.cmp b=1∧kN b<kN a):=by obtain⟨a1,a2,a3,a4⟩:=a;obtain⟨b1,b2,d,c⟩:=b;have k:=a1.isLt;have j:=a2.isLt;have i:=a3.isLt;have g:=a4.isLt;have o:=b1.isLt;have n:=b2.isLt;have m:=d.isLt;have l:=c.isLt;have f:∀{x y:BitVec 8},¬x=y->¬x.toNat=y.toNat:=λh e=>h (Sh e);unfold w4.cmp kN;grind
theorem y'(a b:w4):Fx a b=true↔kN a<=kN b:=by unfold Fx;rw[xI];grind[SH]
theorem im(a b:w4):a.cmp b<0↔kN a<kN b:=by grind[SH]
section
variable{le:α->α->Bool}
theorem fq(x:α):∀l:List α,(uk le x l).Perm (x::l)
 |[]=>tj _
 |y::l=>by
  unfold uk;split
  ·simp
  ·exact((fq x l).cons y).trans (List.Perm.swap x y l)
theorem H5:∀l:List α,(J7 le l).Perm l
 |[]=>tj _
 |x::l=>(fq x _).trans ((H5 l).cons x)
theorem lr(tot:∀a b,le a b=true∨le b a=true)(d:∀a b c,le a b=true->le b c=true->le a c=true)(x:α):∀l:List α,l.Pairwise (λa b=>le a b=true)->(uk le x l).Pairwise (λa b=>le a b=true)
 |[],_=>by unfold uk;simp
 |y::l,h=>by
  obtain⟨i,f⟩:=List.pairwise_cons.mp h;unfold uk;split
  ·rename_i g;refine List.pairwise_cons.mpr ⟨λz e=>?_,h⟩;grind
  ·rename_i g;refine List.pairwise_cons.mpr ⟨λz e=>?_,lr tot d x l f⟩;grind[fq]
theorem Sb(tot:∀a b,le a b=true∨le b a=true)(d:∀a b c,le a b=true->le b c=true->le a c=true):∀l:List α,(J7 le l).Pairwise (λa b=>le a b=true)
 |[]=>List.Pairwise.nil
 |x::l=>lr tot d x _ (Sb tot d l)
theorem OA:∀l:List α,l.Pairwise (λa b=>le a b=true)->J7 le l=l
 |[],_=>rfl
 |x::l,h=>by
  obtain⟨d,c⟩:=List.pairwise_cons.mp h;unfold J7;rw[OA l c];cases l with
  |nil=>rfl
  |cons y l=>simp_all[uk]
theorem rH{p:α->Bool}(x:α)(a:∀y,p x=true->p y=true->le x y=true):∀l:List α,(uk le x l).find? p=if p x then some x else l.find? p
 |[]=>by grind[uk]
 |y::l=>by
  unfold uk;split
  ·grind
  ·rename_i b;rw[ig,rH x a l];grind
theorem Ct{p:α->Bool}(a:∀x y,p x=true->p y=true->le x y=true):∀l:List α,(J7 le l).find? p=l.find? p
 |[]=>rfl
 |x::l=>by unfold J7;rw[rH x (a x),Ct a l,ig];grind
end
theorem dq(a b:E2):aa a b=true∨aa b a=true:=by grind[aa,y']
theorem yt(a b c:E2)(e:aa a b=true)(d:aa b c=true):aa a c=true:=by grind[aa,y']
def J9(k:w4)(p:E2):Bool:=decide (p.key=k)
theorem dI{k:w4}{x y:E2}(b:J9 k x=true)(a:J9 k y=true):aa x y=true:=by simp_all[J9,aa,y']
def ao(a b:E2):Bool:=decide (a.key=b.key)
theorem rj:∀(l:List E2)(x:E2),x∈D6 ao l->x∈l
 |[],x,h=>by simp[D6]at h
 |[y],x,h=>by grind[cB1]
 |y::z::l,x,h=>by
  rw[cB2]at h;split at h
  ·rcases List.mem_cons.mp (rj (y::l) x h)with e|h
   ·simp[*]
   simp[*]
  ·rcases List.mem_cons.mp h with e|h
   ·simp[*]
   ·exact Ta _ (rj (z::l) x h)
termination_by l=>l.length
def ia(l:List E2):Prop:=l.Pairwise λa b=>kN a.key<kN b.key
theorem Qg:∀(l:List E2),l.Pairwise (λa b=>aa a b=true)->ia (D6 ao l)
 |[],_=>by simp[ia,D6]
 |[y],_=>by simp[ia,cB1]
 |y::z::l,h=>by
  obtain⟨g,f⟩:=List.pairwise_cons.mp h;obtain⟨m,j⟩:=List.pairwise_cons.mp f;rw[cB2];split
  ·exact Qg (y::l) (List.pairwise_cons.mpr ⟨λx c=>g x (Ta _ c),j⟩)
  ·rename_i k;have i:=Qg (z::l) f;refine List.pairwise_cons.mpr ⟨λx c=>?_,i⟩;have c:=rj _ x c;have hyz:kN y.key<kN z.key:=by
    have e:=g z (Ka ..);unfold aa at e;rw[y']at e;rcases Nat.lt_or_eq_of_le e with d|d
    ·exact d
    ·refine absurd ?_ k;unfold ao;rw[xI];exact Hx d
   grind[aa,y']
termination_by l=>l.length
theorem Xl(k:w4):∀l:List E2,(D6 ao l).find? (J9 k)=l.find? (J9 k)
 |[]=>rfl
 |[y]=>rfl
 |y::z::l=>by
  rw[cB2];split
  ·rename_i a;rw[Xl k (y::l),ig,ig,ig];have:J9 k y=J9 k z:=by unfold ao at a;simp only[decide_eq_true_eq]at a;unfold J9;rw[a]
   grind
  ·rw[ig,Xl k (z::l),<-ig]
termination_by l=>l.length
theorem ia.filter(h:ia l)(q:E2->Bool):ia (l.filter q):=List.Pairwise.sublist List.filter_sublist h
theorem ia.tail{x:E2}(h:ia (x::l)):ia l:=(List.pairwise_cons.mp h).2
theorem ia.wD{x:E2}(h:ia (x::l)):l.find? (J9 x.key)=none:=by rw[List.find?_eq_none];intro y a b;have:=(List.pairwise_cons.mp h).1 y a;simp_all[J9]
theorem Jn(k:w4)(q:E2->Bool):∀l:List E2,ia l->(l.filter q).find? (J9 k)=(l.find? (J9 k)).filter q
 |[],_=>rfl
 |x::l,h=>by
  rw[xz,ig];cases c:J9 k x with
  |true=>
   have a:x.key=k:=by simpa [J9] using c
   cases b:q x with
   |true=>grind
   |false=>simp only[Bool.false_eq_true,if_false,Option.filter,b];rw[Jn k q l h.tail,<-a,h.wD];rfl
  |false=>simp only;rw[<-Jn k q l h.tail];grind
theorem ia.ext:∀{l m:List E2},ia l->ia m->(∀k,l.find? (J9 k)=m.find? (J9 k))->l=m
 |[],[],_,_,_=>rfl
 |[],y::m,_,_,h=>by
  have:=h y.key
  simp[J9]at this
 |x::l,[],_,_,h=>by
  have:=h x.key
  simp[J9]at this
 |x::l,y::m,d,c,h=>by
  have self:∀z:E2,J9 z.key z=true:=λz=>by simp[J9]
  have key:x.key=y.key:=by
   have a:=h x.key
   have b:=h y.key
   rw[ig,self x]at a
   rw[ig,ig,self y]at b
   apply Hs
   intro g
   have p:J9 x.key y=false:=Em (λe=>g (Eq.symm e))
   have o:J9 y.key x=false:=by simp[J9,g]
   rw[ig,p]at a
   rw[o]at b
   simp only at a b
   have j:=fV a.symm
   have i:=fV b
   have l1:=(List.pairwise_cons.mp c).1 x j
   have l2:=(List.pairwise_cons.mp d).1 y i
   omega
  have q:x=y:=by
   have a:=h x.key
   rw[ig,self x,key,ig,self y]at a
   injection a
  subst q
  rw[ia.ext d.tail c.tail (λk=>?_)]
  have a:=h k
  rw[ig,ig]at a
  cases f:J9 k x with
  |true=>
   have n:x.key=k:=by simpa [J9] using f
   rw[<-n,d.wD,c.wD]
  |false=>
   rw[f]at a
   exact a
theorem dv(l:List E2):ia (gc l):=ia.filter (Qg _ (Sb dq yt _)) _
theorem FH(l:List E2):∀p∈gc l,p.val.K3=true:=by intro p a;exact(List.mem_filter.mp a).2
theorem zP{p:E2}(h:p∈gc l):p∈l:=by have a:=rj _ _ (List.mem_filter.mp h).1;grind[H5]
theorem zK(l:List E2)(k:w4):(gc l).find? (J9 k)=(l.reverse.find? (J9 k)).filter (λp=>p.val.K3):=by show((D6 ao (J7 aa l.reverse)).filter (λp=>p.val.K3)).find? (J9 k)=_;grind[Jn,Qg,Sb,dq,yt,Xl,Ct,dI]
theorem JT(h:ia l)(k:w4):l.reverse.find? (J9 k)=l.find? (J9 k):=by
 induction l with
 |nil=>rfl
 |cons x l b=>
  rw[List.reverse_cons,List.find?_append,b h.tail,ig];cases a:J9 k x with
  |true=>
   have c:x.key=k:=by simpa [J9] using a
   rw[<-c,h.wD];simp[J9]
  |false=>simp[a]
theorem JH(h:ia l)(a:∀p∈l,p.val.K3=true):gc l=l:=by
 refine ia.ext (dv l) h λk=>?_;rw[zK,JT h];cases b:l.find? (J9 k)with
 |none=>rfl
 |some p=>grind
theorem Aj:∀{l:List E2},J8 l=true->ia l
 |[],_=>List.Pairwise.nil
 |[x],_=>by unfold ia;simp
 |x::y::l,h=>by
  unfold J8 at h;simp only[Bool.and_eq_true,decide_eq_true_eq]at h;obtain⟨d,c⟩:=h;rw[im]at d;have b:=Aj c;refine List.pairwise_cons.mpr ⟨λz a=>?_,b⟩;rcases List.mem_cons.mp a with e|a
  ·simp[*]
  ·have:=(List.pairwise_cons.mp b).1 z a;omega
theorem ia.le(h:ia l):l.Pairwise λa b=>aa a b=true:=Cq (λ{a b}hab=>by simp_all[aa,y',Nat.le_of_lt]) h
def Jj(d:List (w4×Ba)):Prop:=(d.map (·.1)).Nodup
theorem u9{κ β:Type}[DecidableEq κ]:∀{l:List (κ×β)}{k:κ}{v:β},(l.map (·.1)).Nodup->((R1 l k v).map (·.1)).Nodup
 |[],k,v,_=>by simp[R1]
 |x::l,k,v,h=>by
  rw[Kb,Fm]at h;unfold R1;by_cases c:k=x.1
  ·simp[*]
  ·rw[V0 c,Kb,Fm];refine⟨λb=>?_,u9 h.2⟩;obtain⟨y,a,e⟩:=List.mem_map.mp b;rcases Sa a with d|a
   ·simp_all
   grind
theorem be(d:List (w4×Ba)):(Z2 d).Perm (d.map λx=>⟨x.1,x.2⟩):=H5 _
theorem Og{d:List (w4×Ba)}(h:Jj d):ia (Z2 d):=by
 have hs:(Z2 d).Pairwise (λa b=>aa a b=true):=Sb dq yt _;have c:((Z2 d).map (·.key)).Nodup:=by have e:=(be d).map (·.key);rw[e.nodup_iff,Ph];exact h
 have f:(Z2 d).Pairwise λa b=>a.key≠b.key:=List.pairwise_map.mp c;refine Cq (λ{a b}hab=>?_) (List.Pairwise.and hs f);grind[aa,y',Hx]
theorem Tp(h:ia l):Z2 (l.map λp=>(p.key,p.val))=l:=by
 unfold Z2;rw[Ph];have:((λ(x:w4×Ba)=>(⟨x.1,x.2⟩:E2))∘λ(p:E2)=>(p.key,p.val))=id:=by funext p;rfl
 rw[this,lE];exact OA l h.le
theorem Wl(d:List (w4×Ba))(k:w4):(Z2 d).find? (J9 k)=(K0 d k).map λv=>⟨k,v⟩:=by
 unfold Z2;rw[Ct (λx y=>dI)];induction d with
 |nil=>rfl
 |cons x d b=>
  rw[Kb,ig];unfold K0;by_cases a:k=x.1
  ·simp_all[J9]
  ·rw[V0 a];have:J9 k ⟨x.1,x.2⟩=false:=Em (λe=>a (Eq.symm e));simp[*]
theorem Wy:∀(l:List E2)(d:List (w4×Ba)),ia l->(∀p∈l,K0 d p.key=none)->l.foldl (λ(d:List (w4×Ba))(p:E2)=>R1 d p.key p.val) d=d++l.map λp=>(p.key,p.val)
 |[],d,_,_=>Zb3
 |x::l,d,h,b=>by
  have c:R1 d x.key x.val=d++[(x.key,x.val)]:=Gc (b x (Ka ..));rw[Ti,c,Wy l _ h.tail (λp a=>?_)]
  ·simp
  ·rw[Ri (b p (Ta _ a))];have:¬p.key=x.key:=by intro e;have:=(List.pairwise_cons.mp h).1 p a;rw[e]at this;omega
   simp[K0,this]
section
variable(r:α->Int)
def F7(xs ys:List α):Prop:=∀z:Int,xs.filter (λx=>decide (r x=z))=ys.filter (λx=>decide (r x=z))
def I6(xs:List α):Prop:=xs.Pairwise λa b=>r a<=r b
variable{r}
theorem F7.refl(xs:List α):F7 r xs xs:=λ_=>rfl
theorem F7.symm(h:F7 r xs ys):F7 r ys xs:=λz=>(h z).symm
theorem F7.trans{a:List α}(h:F7 r xs ys)(k:F7 r ys a):F7 r xs a:=λz=>(h z).trans (k z)
theorem F7.jI{a b x y:List α}(h:F7 r a b)(k:F7 r x y):F7 r (a++x) (b++y):=λz=>by rw[uv,uv,h z,k z]
theorem F7.swap{a b:List α}(h:∀x∈a,∀y∈b,¬r x=r y):F7 r (a++b) (b++a):=by
 intro z;rw[uv,uv];by_cases f:∃x∈a,r x=z
 ·obtain⟨x,g,e⟩:=f;have:b.filter (λx=>decide (r x=z))=[]:=by rw[HE];intro y d c;simp only[decide_eq_true_eq]at c;exact h x g y d (by rw[e,c])
  simp[*]
 ·have:a.filter (λx=>decide (r x=z))=[]:=by
   rw[HE];intro y d c;simp only[decide_eq_true_eq]at c;exact f ⟨y,d,c⟩
  simp[*]
theorem F7.mem(h:F7 r xs ys){x:α}:x∈xs↔x∈ys:=by
 have:=h (r x);constructor
 ·intro a;have b:x∈xs.filter (λy=>decide (r y=r x)):=List.mem_filter.mpr ⟨a,Zb3⟩;simp_all
 ·intro a;have b:x∈ys.filter (λy=>decide (r y=r x)):=List.mem_filter.mpr ⟨a,Zb3⟩;grind
theorem I6.GQ:∀{xs ys:List α},I6 r xs->I6 r ys->F7 r xs ys->xs=ys
 |[],[],_,_,_=>rfl
 |[],y::ys,_,_,h=>by
  have:=(h.mem (x:=y)).mpr (Ka ..)
  cases this
 |x::xs,[],_,_,h=>by
  have:=(h.mem (x:=x)).mp (Ka ..)
  cases this
 |x::xs,y::ys,f,d,h=>by
  obtain⟨k,l⟩:=List.pairwise_cons.mp f
  obtain⟨i,g⟩:=List.pairwise_cons.mp d
  have n:r x<=r y:=by
   rcases List.mem_cons.mp ((h.mem (x:=y)).mpr (Ka ..))with e|c
   ·rw[e]
    exact lm _
   ·exact k y c
  have m:r y<=r x:=by
   rcases List.mem_cons.mp ((h.mem (x:=x)).mp (Ka ..))with e|c
   ·rw[e]
    exact lm _
   ·exact i x c
  have e:r x=r y:=m4
  have a:=h (r x)
  rw[JE Zb3,JE (by simp[e])]at a
  injection a with j _
  subst j
  rw[I6.GQ l g (λz=>?_)]
  have a:=h z
  by_cases b:r x=z
  ·rw[JE (by simp[b]),JE (by simp[b])]at a
   injection a
  ·rw[List.filter_cons_of_neg (by simp[b]),List.filter_cons_of_neg (by simp[b])]at a
   exact a
theorem VG{le:α->α->Bool}(c:∀a b,le a b=true↔r a<=r b)(x:α):∀l:List α,F7 r (x::l) (uk le x l)
 |[]=>F7.refl _
 |y::l=>by
  unfold uk;by_cases h:le x y=true
  ·rw[S1 h];exact F7.refl _
  ·rw[V0 h];rw[c]at h;have d:F7 r ([x]++[y]) ([y]++[x]):=F7.swap Zb1;exact(d.jI (F7.refl l)).trans ((F7.refl [y]).jI (VG c x l))
theorem MA{le:α->α->Bool}(c:∀a b,le a b=true↔r a<=r b):∀l:List α,F7 r l (J7 le l)
 |[]=>F7.refl _
 |x::l=>((F7.refl [x]).jI (MA c l)).trans (VG c x _)
theorem cD{le:α->α->Bool}(d:∀a b,le a b=true↔r a<=r b)(hs:F7 r xs ys)(e:I6 r ys):ys=J7 le xs:=by refine I6.GQ e ?_ (hs.symm.trans (MA d xs));exact Cq (λ{a b}h=>(d a b).mp h) (Sb (λa b=>Zb1) (λa b c g f=>Zb1) xs)
structure Ep(r:α->Int)(mid p:List α)(x:α)(q:List α):Prop where
 akM:F7 r mid (p++x::q)
 Oe:I6 r (p++q)
 aiK:∀y∈q,r x<r y
theorem Ep.start{p:List α}{x:α}(h:I6 r p):Ep r (p++[x]) p x []:=⟨F7.refl _,Zb6,λy a=>(by cases a)⟩
theorem Ep.step{mid p:List α}{y x:α}{q:List α}(h:Ep r mid (p++[y]) x q)(b:r x<r y):Ep r mid p x (y::q):=by
 obtain⟨a,d,c⟩:=h;refine⟨a.trans ?_,Zb7,?_⟩
 ·grind[F7]
 simp_all
theorem Ep.done{mid p:List α}{x:α}{q:List α}(h:Ep r mid p x q)(j:∀y,p.getLast?=some y->r y<=r x):I6 r (p++x::q):=by
 obtain⟨_,c,b⟩:=h;obtain⟨f,d,k⟩:=List.pairwise_append.mp c;have i:∀y∈p,r y<=r x:=by
  intro y a;rcases EE p with e|⟨g,z,e⟩
  ·simp_all
  ·grind
 refine List.pairwise_append.mpr ⟨f,List.pairwise_cons.mpr ⟨λy a=>Int.le_of_lt (b y a),d⟩,?_⟩;simp_all
theorem SQ(u v:List α)(p x:α):((u++p::x::v).set (u.length+1) p).set u.length x=u++x::p::v:=Zb3
end
end Go.Proofs.YtaaihojmcfaejaaGreatDoor
