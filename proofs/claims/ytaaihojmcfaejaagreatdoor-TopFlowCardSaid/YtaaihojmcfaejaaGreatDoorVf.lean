/- concordattop.TopFlow answers true for every setup and every list of events, and what came in reads as it did. No condition is added. -/
import Derived.Test.YtaaihojmcfaejaaGreatDoorFUo
import Derived.Test.YtaaihojmcfaejaaGreatDoorVb
set_option linter.all false
namespace Go.Proofs.YtaaihojmcfaejaaGreatDoor.topFlow
open Go Go.RowKit Go.ChangeShapes Go.WideShapes Go.ChangeAt Go.Lib Go.Shelf
set_option maxRecDepth 100000 in
theorem My(H:Type)(d7:TypeId×Value->H)(W:World)(N0:Nat)(args:Array Value)(ds C:List (DataW H))(r:List MemPlace)
  (c:∀(j:Nat)t v,Tryz.f4.params[j]? =some t->args[j]? =some v->Value.okWide Tryz.prog W .any N0 t v)
  (k:DataW.Whole d7 Tryz.prog Tryz.f4.params.toList Rows.topFlowSpec.vars false W args.toList ds C r)(A:laidMet Tryz.prog Sv W):
  Calls Tryz.prog 4 args W λe b=>∃v,e= .returned v∧Rows.topFlowSpec.post d7 Tryz.prog Tryz.f4 false true false false W args v b:=by
 have hW':=k;obtain⟨p,q,n,z,rfl,hfz,E⟩:=k;have l:DataW.TrodAll d7 Tryz.prog W 0 (λ_=>true) true Tryz.f4.params.toList args.toList ds p:=n;rw[Tryz.params4]at l c;obtain⟨f,vs0,d0,ds0,i,J,F,rfl,rfl,h0,r0⟩:=trodAll_cons l;obtain⟨d,vs1,K,ds1,g,G,rfl,rfl,rfl,m,w⟩:=trodAll_cons r0;obtain⟨rfl,rfl,rfl⟩:=trodAll_nil w;obtain rfl:args= #[f,d]:=by cases args;simp_all
 obtain⟨rfl,rfl⟩:=trodVars_none z;clear n;have y:=JM A;have adR:=h0;have adQ:=m;obtain⟨cs,rfl,o⟩:=okWide_struct Tryz.underlying23 (c 0 23 f rfl rfl);obtain⟨P,s,R0,rfl⟩:=XF (o.trans (by kernel_rfl)) h0;obtain⟨a1,alH,L,rfl⟩:=okWide_slice Tryz.underlying24 (c 1 24 d rfl rfl);obtain⟨ajV,hf1⟩:=m;obtain⟨P0,u,hs,D⟩:=NT hf1;subst u;have aej:∀x∈i,x.block<W.heap.size:=λx hx=>by simpa using hW'.lt x (by simp[hx])
 have aei:∀x∈g,x.block<W.heap.size:=λx hx=>by simpa using hW'.lt x (by simp[hx])
 refine(sp4 (p:=P) (s:=s) (R0:=R0) (Hp.start W) y hs D).mono ?_;rintro _ b ⟨rfl,h⟩;have a:Below W.heap.size W b:=h.ake;refine⟨_,rfl,_,_,_,[],i++(g++[]),[],hW',?_,?_,?_,a.frame _,λh=>by cases h⟩
 ·exact trodAll_cons_mk (shut_bool Tryz.underlying4 _) trodAll_mk0
 ·exact trodAll_cons_mk (Below.trod Zv (by kernel_rfl) (Vn (by kernel_rfl)) adR a aej) (trodAll_cons_mk (Below.trod Zv (by kernel_rfl) (Vn (by kernel_rfl)) adQ a aei) trodAll_mk0)
 ·rfl
theorem kS(a:Go.Os){H:Type}(d7:TypeId×Value->H):∃b,DataW.whole d7 Tryz.prog ((rk a).forCall (λ_ _=>0) ⟨#[],#[.agg #[.int .i64 0,.int .i64 0,.int .i64 0,.int .i64 0,.int .i64 0],.slice none 0 0],[]⟩).memory Tryz.f4.params.toList Rows.topFlowSpec.vars false #[Value.agg #[.int .i64 0,.int .i64 0,.int .i64 0,.int .i64 0,.int .i64 0],.slice none 0 0].toList 8=some ([.agg [.lit (.int .i64 0),.lit (.int .i64 0),.lit (.int .i64 0),.lit (.int .i64 0),.lit (.int .i64 0)],.nil],[],b):=
 ⟨[],by kernel_rfl⟩
set_option maxRecDepth 100000 in
theorem lifted(a:Go.Os)(i:a.Started)(H:Type)(d7:TypeId×Value->H)(F:Stop.Interp):
  ReturnsInHanded {} Tryz.checked a 4 .any ((OpenSpec.ofChange Rows.topFlowSpec).preRow d7 Tryz.prog Tryz.f4 Rows.topFlowRow.domain false Rows.topFlowRow.laid) (((OpenSpec.ofChange Rows.topFlowSpec).at F).post d7 Tryz.prog Tryz.f4 false true false false):=by
 obtain⟨l,c⟩:=kS a d7;refine returnsInHanded_of_row (C:=Tryz.checked) (s:=OpenSpec.ofChange Rows.topFlowSpec) ais i (by kernel_rfl) Tryz.func4
  (witness_row_atRef (enc:=d7) (C:=Tryz.checked) false (rk a) #[.agg #[.int .i64 0,.int .i64 0,.int .i64 0,.int .i64 0,.int .i64 0],.slice none 0 0] O (by kernel_rfl) (by kernel_rfl) (by kernel_rfl)
   (OpenSpec.preRow_of_cond 8 c (by kernel_rfl) (λk d=>by cases d) (by kernel_rfl) (PG a _))) ?_
 intro W N0 args ds g b h e _ _ _ f j _;exact My H d7 W N0 args ds g b h e f
theorem fn0:Tryz.prog.funcNamed Rows.topFlowRow.func=some 4:=by kernel_rfl
theorem j1:(laidOutB Tryz.prog&&mapsRowed Tryz.prog)=true:=by kernel_rfl
theorem j2:(Rows.topFlowRow.inPlace==Tryz.prog.inPlace 4)=true:=by kernel_rfl
theorem j3:(Rows.topFlowRow.unfollowed==Tryz.prog.unfollowed 4)=true:=by kernel_rfl
theorem j4:(Rows.topFlowRow.recurses==Tryz.prog.recurses 4)=true:=by kernel_rfl
theorem j5:(Rows.topFlowRow.named==Tryz.prog.varsNamed 4)=true:=by kernel_rfl
set_option maxHeartbeats 4000000 in
theorem KK:joinedFacts Tryz.pinned.checked.prog 4 Tryz.f4 (OpenSpec.ofChange Rows.topFlowSpec).bare Rows.topFlowRow=true:=by have a:=j1;rw[Cd]at a;simp only[joinedFacts,Bool.and_eq_true];refine⟨⟨⟨⟨⟨⟨⟨⟨⟨⟨⟨⟨⟨⟨⟨⟨⟨⟨⟨⟨⟨⟨⟨⟨⟨⟨⟨⟨⟨⟨⟨?_,a.1⟩,a.2⟩,?_⟩,?_⟩,?_⟩,?_⟩,?_⟩,?_⟩,j2⟩,j3⟩,j4⟩,j5⟩,?_⟩,?_⟩,?_⟩,?_⟩,?_⟩,?_⟩,?_⟩,?_⟩,?_⟩,?_⟩,?_⟩,?_⟩,?_⟩,?_⟩,?_⟩,?_⟩,?_⟩,?_⟩,?_⟩;all_goals as_aux_lemma=>kernel_rfl
theorem adg:Rows.TopFlowSaid:=
 OpenClaim.holds_of_cond 4 Tryz.f4 O O O O O O O ⟨rfl,rfl,rfl,rfl,rfl⟩ O O O O O fn0 Tryz.func4 KK
  (Vn (by as_aux_lemma=>kernel_rfl)) (by unfold Func.isWrapper;first|(rw[S1 (by decide+kernel)];as_aux_lemma=>kernel_rfl)|(rw[V0 (by decide+kernel)];exact⟨rfl,rfl⟩))
  (λa b H d7 _ F=>by rw[OpenClaim.pre_eq_preRow];exact lifted a b H d7 F)
theorem plain(f:FuncId)(fn:Func)(c:Tryz.pinned.checked.prog.funcNamed Rows.topFlowRow.func=some f)(hfn:Tryz.pinned.checked.prog.funcs[f]? =some fn):
  true=Tryz.pinned.checked.prog.looks []∧∀(j:Nat)t,fn.params[j]? =some t->Tryz.pinned.checked.prog.wantsStandIn t=false:=by
 obtain rfl:f=4:=pE (fn0.symm.trans c)|>.symm
 obtain rfl:fn=Tryz.f4:=(pE (Tryz.func4.symm.trans hfn)).symm;refine⟨by kernel_rfl,λj t b=>?_⟩;rw[Tryz.params4]at b;have a:=Array.mem_of_getElem? b;have a:t=23∨t=24:=by simpa using a
 rcases a with rfl|rfl
 ·exact(show Tryz.prog.wantsStandIn 23=false by kernel_rfl)
 ·exact(show Tryz.prog.wantsStandIn 24=false by kernel_rfl)
theorem card:Rows.TopFlowCardSaid:=
 Claim7.holds_tied_plain_at .later [] _ _ _ _ adg (λ_ h=>by cases h) (by as_aux_lemma=>kernel_rfl) (λ_ h=>by cases h) topFlow_row_tie rfl ⟨rfl,rfl⟩ (by as_aux_lemma=>kernel_rfl) O plain (kH _ O)
end Go.Proofs.YtaaihojmcfaejaaGreatDoor.topFlow
