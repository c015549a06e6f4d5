/- Lemmas for the tops: the walk of the house and its laws. No condition is added. -/
import Derived.Test.YtaaihojmcfaejaaGreatDoorQaw
import Derived.Test.YtaaihojmcfaejaaGreatDoorQah
import Derived.Test.YtaaihojmcfaejaaGreatDoorQaf
import Derived.Test.YtaaihojmcfaejaaGreatDoorQav
set_option linter.all false
namespace Go.Proofs.YtaaihojmcfaejaaGreatDoor
open Go Go.RowKit Tryz
variable{x:CW}{s:E1}{C0 me tx:Int}{k:J2}{kq:List (Int×Nat)}{B0:List (Int×T4)}{R:List HP}{l:N7}{b cap cs d m mm n pk:Nat}{B6 a:Option Addr}{X:PW}{r:T4}{c w:World}{p:d4}
theorem acs{P:Prop}(h:P:=by exact U0 h 6 O O (U0 h 7 O O (N1 (hRm _ _ _ _ (h.g [8,5,4] O)) λw h=>jq _ _ (h.g [3,4,5,6,2,1,7,8] O)))):P:=h
theorem acr{P Q:Prop}(q:Q)(f:Q->P:=by intro q;exact ja.D0 kn o8 (λw'=>Hp c w' ((sf λk=>K1 kb k)::mr I r5 m ue::J5 d pl l2::M1 d d2::T2 pk s2::bk b1 [Pt b] 61::bk b2 [I C0] 3::bk b [Pt kb,I me,Pt pl,Pt pk,.map (some m),.slice B6 seen.length cs] 162::pt D1 (.deferred (some []))::bk cI [Pt b] 61::so 55 j8 B6 cs seen::R)) (qs [0,1,2,3,4,5,6,7,8,9,10,11,12] (.w2 13 (qs [14,15,16] (vs [17,18] (qs [19] .done))) 17 (vs [13] (qs [14,15,16] (vs [18] (qs [19] .done)))))) Zb2 (Hp.R8 (f:=λk=>K1 kb k) k h).drew q):P:=f q
theorem acq{P Q:Prop}(q:Q)(f:Q->P:=by intro q;exact I2 h O λb3 w h=>⟨Hp.R8 (f:=λk=>K1 kb k) k (h.q 12 [1,2,3,4,5,6,7,8,9,10,11] O),N1 (lX _ _ (h.g [1] O)) λw h=>q b3 w h⟩):P:=f q
theorem abC{P:Prop}(h:P:=by
 replace h:=h.q 13 [6,2,3,4,5,9,10,1,0,11,12,7] O;obtain⟨q3,e5,h0⟩:=h.Xc;replace h:=h0;clear h0;obtain⟨Wf,KD⟩:∃Wf,kp q3=Wf:=⟨_,rfl⟩;rw[KD]at h;have aek:Wf.length<=80:=by have h1:=hpy.B0;have h2:(Vj).length<=80:=h1;rw[<-KD];rw[e5]at h2;simpa [ks,kp] using h2
 have lK:(Vj).map (·.1)=Wf.map (·.1):=by rw[<-KD,e5];simp[ks,kp,Function.comp_def]
 have hel:(d9 Wf).length<=80:=by unfold d9;rw[H7,(i4 Wf).length_eq,H7];exact aek
 have Rd:=fy (f2 C0) ⟨⟨me,l3,s3,Vj⟩,k3,d3⟩ lK;have hS2:Hp c w (C5 [bk b [Pt kb,I me,Pt pl,Pt pk,.map (some m),.slice fI (seen++[z.1]).length NH] 162,mo I Pt m Wf,PJ d pl pk kb b1 b2 b C0 Wf (fo (f2 C0) ⟨⟨me,l3,s3,Vj⟩,k3,d3⟩ [])]::bk dU [Pt b] 61::pt D1 (.deferred (some []))::bk cI [Pt b] 61::so 55 j8 fI NH (seen++[z.1])::R):=by have h1:=Hp.ew (X:=⟨⟨me,l3,s3,Vj⟩,k3,d3⟩) (q:=q3) e5.symm KD (L:=bk b [Pt kb,I me,Pt pl,Pt pk,.map (some m),.slice fI (seen++[z.1]).length NH] 162::mo I Pt m Wf::bk dU [Pt b] 61::pt D1 (.deferred (some []))::bk cI [Pt b] 61::so 55 j8 fI NH (seen++[z.1])::R) (h.g [1,2,3,4,5,6,7,8] O);exact Hp.C3 (A:=[bk b [Pt kb,I me,Pt pl,Pt pk,.map (some m),.slice fI (seen++[z.1]).length NH] 162,mo I Pt m Wf,PJ d pl pk kb b1 b2 b C0 Wf ⟨⟨me,l3,s3,Vj⟩,k3,d3⟩]) (h1.g [1,2] O)
 refine RF.Zi kn O O (λ(x:Int×Nat)=>[I x.1,Pt x.2]) (λ_=>rfl) O O O (λl=>l=d9 Wf) (λl=>l=(d9 Wf).take l.length) (λpre=>C5 [bk b [Pt kb,I me,Pt pl,Pt pk,.map (some m),.slice fI (seen++[z.1]).length NH] 162,mo I Pt m Wf,PJ d pl pk kb b1 b2 b C0 Wf (fo (f2 C0) ⟨⟨me,l3,s3,Vj⟩,k3,d3⟩ pre)]) (λ_=>d6 False) hS2 (LM m4 (λpre=>PJ d pl pk kb b1 b2 b C0 Wf (fo (f2 C0) ⟨⟨me,l3,s3,Vj⟩,k3,d3⟩ pre))) ?_ ?_ ?_
 ·rintro pre ⟨tx,p⟩ W M hS h;obtain⟨Px,Fe⟩:=Xq hS;have hp:=zo Fe;have ajo:pre.length<=80:=by rw[Px,Ga];omega
  obtain⟨jA,NI⟩:=UD C0 pre hpy m4;have A7:=TD (f2 C0) ⟨⟨me,l3,s3,Vj⟩,k3,d3⟩ pre (tx,p);obtain⟨X,hX⟩:∃X,fo (f2 C0) ⟨⟨me,l3,s3,Vj⟩,k3,d3⟩ pre=X:=⟨_,rfl⟩;rw[hX]at jA NI h A7;replace h:=h.R6;obtain⟨q4,q5,r,hr,hq,h⟩:=Hp.BL (L:=bk b [Pt kb,I me,Pt pl,Pt pk,.map (some m),.slice fI (seen++[z.1]).length NH] 162::mo I Pt m Wf::M) (Hp.get (L:=bk b [Pt kb,I me,Pt pl,Pt pk,.map (some m),.slice fI (seen++[z.1]).length NH] 162::mo I Pt m Wf::PJ d pl pk kb b1 b2 b C0 Wf X::M) h 3 [2,0,1] rfl rfl) hp;have aj:fo (f2 C0) ⟨⟨me,l3,s3,Vj⟩,k3,d3⟩ (pre++[(tx,p)])=f2 C0 X tx r:=by rw[A7];simp only[hr];rfl
  have e7:f2 C0 X tx r={X with O0:=Dv X.O0 X.E0.me X.E0.U1 tx r C0}:=Rw X tx r C0;rw[e7]at aj;obtain⟨⟨rB,l',s',Lc⟩,k',d'⟩:=X;have e8:rB=me:=by have:=V4 d4.me NI;exact this
  subst rB;simp only at hr hq h aj;refine⟨[r5 p r,ea r5 (ps q4++ps q5),J5 d pl l',M1 d d',T2 pk s',K1 kb k',bk b1 [Pt b] 61,bk b2 [I C0] 3,bk b [Pt kb,I me,Pt pl,Pt pk,.map (some m),.slice fI (seen++[z.1]).length NH] 162,mo I Pt m Wf],h,λW M h=>?_⟩;have jq:∀W M,Hp c W (r5 p r::ea r5 (ps q4++ps q5)::J5 d pl l'::M1 d d'::T2 pk s'::K1 kb (Dv k' me s' tx r C0)::bk b1 [Pt b] 61::bk b2 [I C0] 3::bk b [Pt kb,I me,Pt pl,Pt pk,.map (some m),.slice fI (seen++[z.1]).length NH] 162::mo I Pt m Wf::M)->Hp c W (C5 [bk b [Pt kb,I me,Pt pl,Pt pk,.map (some m),.slice fI (seen++[z.1]).length NH] 162,mo I Pt m Wf,PJ d pl pk kb b1 b2 b C0 Wf (fo (f2 C0) ⟨⟨me,l3,s3,Vj⟩,k3,d3⟩ (pre++[(tx,p)]))]::M):=by intro W M h;rw[aj];have h1:=Hp.NN (X':=⟨⟨me,l',s',Lc⟩,Dv k' me s' tx r C0,d'⟩) (by grind[E']) (hq r).2 h;exact Hp.C3 (A:=[bk b [Pt kb,I me,Pt pl,Pt pk,.map (some m),.slice fI (seen++[z.1]).length NH] 162,mo I Pt m Wf,PJ d pl pk kb b1 b2 b C0 Wf ⟨⟨me,l',s',Lc⟩,Dv k' me s' tx r C0,d'⟩]) (h1.g [1,2] O)
  have hRm:=λ(v4 v5:Value)(w:World)(R:List HP)(h:Hp c w (bk b [Pt kb,I me,Pt pl,Pt pk,v4,v5] 162::K1 kb k'::T2 pk s'::r5 p r::R))=>yY (tx:=tx) (C0:=C0) h jA.kb.ok jA.pl;exact acs
 ·rintro D2 xs W rfl h;obtain⟨Y,hY⟩:∃Y,fo (f2 C0) ⟨⟨me,l3,s3,Vj⟩,k3,d3⟩ (d9 Wf)=Y:=⟨_,rfl⟩;rw[hY]at h Rd;rw[Rd];replace h:=h.R6;obtain⟨q6,e9,e10,h⟩:=Hp.gw (L:=bk b [Pt kb,I me,Pt pl,Pt pk,.map (some m),.slice fI (seen++[z.1]).length NH] 162::mo I Pt m Wf::pt D2 (.deferred (some []))::bk dU [Pt b] 61::pt D1 (.deferred (some []))::bk cI [Pt b] 61::so 55 j8 fI NH (seen++[z.1])::R) (Hp.get (L:=bk b [Pt kb,I me,Pt pl,Pt pk,.map (some m),.slice fI (seen++[z.1]).length NH] 162::mo I Pt m Wf::PJ d pl pk kb b1 b2 b C0 Wf Y::pt D2 (.deferred (some []))::bk dU [Pt b] 61::pt D1 (.deferred (some []))::bk cI [Pt b] 61::so 55 j8 fI NH (seen++[z.1])::R) h 3 [2,0,1] rfl rfl);rw[<-e10]at h;replace h:=(h.g [8] O).Bd;rw[e9]at h;exact Mz.O' h (i:=8) (j:=10) O O O O λw h=>⟨_,_,_,rfl,Zb3,h.q 13 [7,1,2,3,4,0,12] O⟩
 ·rintro D j W h;exact h.uf.1.elim):P:=h
theorem abB{P:Prop}(h:P:=by
 replace h:=h.q 13 [3,4,5,6,2,7,8,9,0,10,11,12] O;obtain⟨q3,e5,h0⟩:=h.Xc;replace h:=h0;clear h0;obtain⟨Wf,KD⟩:∃Wf,kp q3=Wf:=⟨_,rfl⟩;rw[KD]at h;have aek:Wf.length<=80:=by have h1:=hpy.B0;have h2:(ue).length<=80:=h1;rw[<-KD];rw[e5]at h2;simpa [ks,kp] using h2
 have lK:(ue).map (·.1)=Wf.map (·.1):=by rw[<-KD,e5];simp[ks,kp,Function.comp_def]
 have hel:(d9 Wf).length<=80:=by unfold d9;rw[H7,(i4 Wf).length_eq,H7];exact aek
 have Rd:=fy (f2 C0) ⟨⟨me,l2,s2,ue⟩,z.2.2,d2⟩ lK;have hS2:Hp c w (C5 [bk b [Pt kb,I me,Pt pl,Pt pk,.map (some m),.slice B6 seen.length cs] 162,mo I Pt m Wf,PJ d pl pk kb b1 b2 b C0 Wf (fo (f2 C0) ⟨⟨me,l2,s2,ue⟩,z.2.2,d2⟩ [])]::bk dU [Pt b] 61::pt D1 (.deferred (some []))::bk cI [Pt b] 61::so 55 j8 B6 cs seen::R):=by have h1:=Hp.ew (X:=⟨⟨me,l2,s2,ue⟩,z.2.2,d2⟩) (q:=q3) e5.symm KD (L:=bk b [Pt kb,I me,Pt pl,Pt pk,.map (some m),.slice B6 seen.length cs] 162::mo I Pt m Wf::bk dU [Pt b] 61::pt D1 (.deferred (some []))::bk cI [Pt b] 61::so 55 j8 B6 cs seen::R) (h.g [1,2,3,4,5,6,7,8] O);exact Hp.C3 (A:=[bk b [Pt kb,I me,Pt pl,Pt pk,.map (some m),.slice B6 seen.length cs] 162,mo I Pt m Wf,PJ d pl pk kb b1 b2 b C0 Wf ⟨⟨me,l2,s2,ue⟩,z.2.2,d2⟩]) (h1.g [1,2] O)
 refine RF.Zi kn O O (λ(x:Int×Nat)=>[I x.1,Pt x.2]) (λ_=>rfl) O O O (λl=>l=d9 Wf) (λl=>l=(d9 Wf).take l.length) (λpre=>C5 [bk b [Pt kb,I me,Pt pl,Pt pk,.map (some m),.slice B6 seen.length cs] 162,mo I Pt m Wf,PJ d pl pk kb b1 b2 b C0 Wf (fo (f2 C0) ⟨⟨me,l2,s2,ue⟩,z.2.2,d2⟩ pre)]) (λ_=>d6 False) hS2 (LM m4 (λpre=>PJ d pl pk kb b1 b2 b C0 Wf (fo (f2 C0) ⟨⟨me,l2,s2,ue⟩,z.2.2,d2⟩ pre))) ?_ ?_ ?_
 ·rintro pre ⟨tx,p⟩ W M hS h;obtain⟨Px,Fe⟩:=Xq hS;have hp:=zo Fe;have ajo:pre.length<=80:=by rw[Px,Ga];omega
  obtain⟨jA,NI⟩:=UD C0 pre hpy m4;have A7:=TD (f2 C0) ⟨⟨me,l2,s2,ue⟩,z.2.2,d2⟩ pre (tx,p);obtain⟨X,hX⟩:∃X,fo (f2 C0) ⟨⟨me,l2,s2,ue⟩,z.2.2,d2⟩ pre=X:=⟨_,rfl⟩;rw[hX]at jA NI h A7;replace h:=h.R6;obtain⟨q4,q5,r,hr,hq,h⟩:=Hp.BL (L:=bk b [Pt kb,I me,Pt pl,Pt pk,.map (some m),.slice B6 seen.length cs] 162::mo I Pt m Wf::M) (Hp.get (L:=bk b [Pt kb,I me,Pt pl,Pt pk,.map (some m),.slice B6 seen.length cs] 162::mo I Pt m Wf::PJ d pl pk kb b1 b2 b C0 Wf X::M) h 3 [2,0,1] rfl rfl) hp;have aj:fo (f2 C0) ⟨⟨me,l2,s2,ue⟩,z.2.2,d2⟩ (pre++[(tx,p)])=f2 C0 X tx r:=by rw[A7];simp only[hr];rfl
  have e7:f2 C0 X tx r={X with O0:=Dv X.O0 X.E0.me X.E0.U1 tx r C0}:=Rw X tx r C0;rw[e7]at aj;obtain⟨⟨rB,l',s',Lc⟩,k',d'⟩:=X;have e8:rB=me:=by have:=V4 d4.me NI;exact this
  subst rB;simp only at hr hq h aj;refine⟨[r5 p r,ea r5 (ps q4++ps q5),J5 d pl l',M1 d d',T2 pk s',K1 kb k',bk b1 [Pt b] 61,bk b2 [I C0] 3,bk b [Pt kb,I me,Pt pl,Pt pk,.map (some m),.slice B6 seen.length cs] 162,mo I Pt m Wf],h,λW M h=>?_⟩;have jq:∀W M,Hp c W (r5 p r::ea r5 (ps q4++ps q5)::J5 d pl l'::M1 d d'::T2 pk s'::K1 kb (Dv k' me s' tx r C0)::bk b1 [Pt b] 61::bk b2 [I C0] 3::bk b [Pt kb,I me,Pt pl,Pt pk,.map (some m),.slice B6 seen.length cs] 162::mo I Pt m Wf::M)->Hp c W (C5 [bk b [Pt kb,I me,Pt pl,Pt pk,.map (some m),.slice B6 seen.length cs] 162,mo I Pt m Wf,PJ d pl pk kb b1 b2 b C0 Wf (fo (f2 C0) ⟨⟨me,l2,s2,ue⟩,z.2.2,d2⟩ (pre++[(tx,p)]))]::M):=by intro W M h;rw[aj];have h1:=Hp.NN (X':=⟨⟨me,l',s',Lc⟩,Dv k' me s' tx r C0,d'⟩) (by grind[E']) (hq r).2 h;exact Hp.C3 (A:=[bk b [Pt kb,I me,Pt pl,Pt pk,.map (some m),.slice B6 seen.length cs] 162,mo I Pt m Wf,PJ d pl pk kb b1 b2 b C0 Wf ⟨⟨me,l',s',Lc⟩,Dv k' me s' tx r C0,d'⟩]) (h1.g [1,2] O)
  have hRm:=λ(v4 v5:Value)(w:World)(R:List HP)(h:Hp c w (bk b [Pt kb,I me,Pt pl,Pt pk,v4,v5] 162::K1 kb k'::T2 pk s'::r5 p r::R))=>yY (tx:=tx) (C0:=C0) h jA.kb.ok jA.pl;exact acs
 ·rintro D2 xs W rfl h;obtain⟨Y,hY⟩:∃Y,fo (f2 C0) ⟨⟨me,l2,s2,ue⟩,z.2.2,d2⟩ (d9 Wf)=Y:=⟨_,rfl⟩;rw[hY]at h Rd;rw[Rd];replace h:=h.R6;obtain⟨q6,e9,e10,h⟩:=Hp.gw (L:=bk b [Pt kb,I me,Pt pl,Pt pk,.map (some m),.slice B6 seen.length cs] 162::mo I Pt m Wf::pt D2 (.deferred (some []))::bk dU [Pt b] 61::pt D1 (.deferred (some []))::bk cI [Pt b] 61::so 55 j8 B6 cs seen::R) (Hp.get (L:=bk b [Pt kb,I me,Pt pl,Pt pk,.map (some m),.slice B6 seen.length cs] 162::mo I Pt m Wf::PJ d pl pk kb b1 b2 b C0 Wf Y::pt D2 (.deferred (some []))::bk dU [Pt b] 61::pt D1 (.deferred (some []))::bk cI [Pt b] 61::so 55 j8 B6 cs seen::R) h 3 [2,0,1] rfl rfl);rw[<-e10]at h;replace h:=(h.g [8] O).Bd;rw[e9]at h;exact Mz.O' h (i:=8) (j:=10) O O O O λw h=>⟨_,_,_,rfl,(j' _),h.q 13 [7,1,2,3,4,0,12] O⟩
 ·rintro D j W h;exact h.uf.1.elim):P:=h
theorem abA{P:Prop}(h:P:=by intro W M h;rw[aj];have h1:=Hp.NN (X':=⟨⟨rB,l',s',Lc⟩,k,d'⟩) (by grind[E']) (hq r).2 h;exact Hp.C3 (A:=[bk b [Pt kb,I me,Pt pl,Pt pk,.map (some m),.slice B6 seen.length cs] 162,mo I Pt m kq,PJ d pl pk kb b1 b2 b C0 kq ⟨⟨rB,l',s',Lc⟩,k,d'⟩]) (h1.g [1,2] O)):P:=h
theorem Mz.O'{T:Wm}{d:List ResultVar}{Q:Ending->World->Prop}{D D' i j:Nat}{e:td}{L b l:List HP}(h:Hp c w L)(a:i3 L i=some (pt D (.deferred (some []))))(g:G7 L i (pt D (.deferred none))=some b)
 (f:i3 b j=some (pt D' (.deferred (some []))))(hL2:G7 b j (pt D' (.deferred none))=some l)
 (k:∀w',Hp c w' l->xw T (λx=>x=w') e d λvs=>Q (.returned (vm vs)) w'):Mz T d Q [D,D'] e w:=
 ⟨⟨h.t8 a,(h.kG a (jj (o:= .deferred none)) g).t8 f,trivial⟩,k _ ((h.kG a (jj (o:= .deferred none)) g).kG f (jj (o:= .deferred none)) hL2)⟩
def f1(C0:Int)(X:PW)(tx:Int)(r:E6):PW:=if r.z7=false∧C0>=X.O0.D0.M8 r.I1 then X.Y4 tx r else X
def f2(C0:Int)(X:PW)(tx:Int)(r:E6):PW:=X.jb tx r C0
def fo(f:PW->Int->E6->PW)(X:PW)(l:List (Int×Nat)):PW:=l.foldl (λX(p:Int×Nat)=>f X p.1 ((K0 X.E0.B0 p.1).getD Cb)) X
theorem TD(f:PW->Int->E6->PW)(X:PW)(l:List (Int×Nat))(x:Int×Nat):fo f X (l++[x])=f (fo f X l) x.1 ((K0 (fo f X l).E0.B0 x.1).getD Cb):=by simp[fo]
theorem fy(f:PW->Int->E6->PW)(X:PW)(h:X.E0.B0.map (·.1)=kq.map (·.1)):Y8 (λ(x:PW)=>x.E0.B0) Cb f X=fo f X (d9 kq):=by unfold Y8 fo d9 T3;rw[List.foldl_map,h]
theorem zo{p:Nat}(h:(tx,p)∈d9 kq):K0 kq tx=some p:=by unfold d9 at h;obtain⟨n,a,e⟩:=Un.1 h;obtain⟨b,c⟩:=ca ((i4 kq).mem_iff.mp a)<;>grind
section
theorem aka(h:PX n mm X){r:E6}(a:K0 X.E0.B0 tx=some r)(C0:Int):PX n mm (f1 C0 X tx r)∧(f1 C0 X tx r).E0.me=X.E0.me∧(f1 C0 X tx r).E0.B0.map (·.1)=X.E0.B0.map (·.1)∧(f1 C0 X tx r).O0=X.O0:=by
 unfold f1;split
 ·grind[PX.Y4,tQ,Nk]
 simp[*]
theorem ajZ(h:PX n mm X)(a:mm+1<=1000000)(tx:Int)(r:E6)(C0:Int):PX n (mm+1) (f2 C0 X tx r)∧(f2 C0 X tx r).E0=X.E0:=by grind[PX.jb,f2,Rw]
theorem gy(C0:Int):∀(l:List (Int×Nat)){X:PW},PX n mm X->(∀p∈l,p.1∈X.E0.B0.map (·.1))->PX n mm (fo (f1 C0) X l)∧(fo (f1 C0) X l).E0.me=X.E0.me∧(fo (f1 C0) X l).E0.B0.map (·.1)=X.E0.B0.map (·.1)∧(fo (f1 C0) X l).O0=X.O0
 |[],_,h,_=>⟨h,rfl,rfl,rfl⟩
 |p::l,X,h,b=>by
  obtain⟨r,a⟩:=ca (b p (Ka ..));obtain⟨f,o,d,m⟩:=aka h a C0;have e:fo (f1 C0) X (p::l)=fo (f1 C0) (f1 C0 X p.1 r) l:=by show List.foldl _ (f1 C0 X p.1 ((K0 X.E0.B0 p.1).getD Cb)) l=_;rw[a];rfl
  obtain⟨k,j,i,g⟩:=gy C0 l f (λy c=>by rw[d];exact b y (Ta _ c))<;>grind
theorem UD(C0:Int):∀(l:List (Int×Nat)){mm:Nat}{X:PW},PX n mm X->mm+l.length<=1000000->PX n (mm+l.length) (fo (f2 C0) X l)∧(fo (f2 C0) X l).E0=X.E0
 |[],_,_,h,_=>⟨h,rfl⟩
 |p::l,mm,X,h,c=>by rw[ze]at c⊢;obtain⟨e,d⟩:=ajZ h m4 p.1 ((K0 X.E0.B0 p.1).getD Cb) C0;obtain⟨b,a⟩:=UD C0 l e m4;rw[show mm+(l.length+1)=mm+1+l.length by omega];exact⟨b,a.trans d⟩
end
theorem Ao{y:Int×Nat}(h:y∈d9 kq):y.1∈kq.map (·.1):=by grind[d9,i4]
theorem CA(x:PW)(y:P9)(C0:Int):(x.take y C0).2.E0.B0.map (·.1)=x.E0.B0.map (·.1):=by
 obtain⟨⟨me,l,s,B0⟩,k,d⟩:=x;unfold PW.take;split
 ·rfl
 ·rename_i r a;have a:K0 B0 y.tx=some r:=a;have hs:∀r',(R1 B0 y.tx r').map (·.1)=B0.map (·.1):=λr'=>Nk (by rw[a];rfl);split
  ·exact hs _
  ·split
   ·split
    ·simp only[AH a];split
     ·exact hs _
     ·exact hs _
    ·rfl
   ·rfl
theorem XC(x:PW)(y:P9)(C0:Int):(x.take y C0).2.E0.me=x.E0.me:=by
 unfold PW.take;split
 ·rfl
 ·split
  ·rfl
  ·split
   ·split
    ·simp only;split
     ·simp[Gb]
     ·exact(Gb _ _ _ _).2
    ·rfl
   ·rfl
theorem rJ(c:X.E0.B0.map (·.1)=kq.map (·.1))(b:X.O0.D0.K6 C0=X.E0.me){X1 X2 X3:PW}{z:P9×Int×J2}{y:Int×PW}(a:X1={X with E0:={X.E0 with U1:=(X.E0.U1.Q9 C0).2}})(j:PX n mm X1)(g:fo (f1 C0) X1 (d9 kq)=X2)(f:X2.O0.J6 X2.E0.me X2.E0.me 0 C0=z)(e:X3={X2 with O0:=z.2.2})(d:(if z.2.1=0 then X3.take z.1 C0 else(0,X3))=y):PW.run X C0=(y.1,Y8 (λ(x:PW)=>x.E0.B0) Cb (f2 C0) y.2):=by
 have i:X1.E0.B0.map (·.1)=kq.map (·.1):=by rw[a];exact c
 unfold PW.run;rw[V0 (λk=>k b)];have h:Y8 (λ(x:PW)=>x.E0.B0) Cb (λ(x:PW)(tx:Int)(r:E6)=>if r.z7=false∧C0>=x.O0.D0.M8 r.I1 then x.Y4 tx r else x) {X with E0:={X.E0 with U1:=(X.E0.U1.Q9 C0).2}}=X2:=by rw[<-a,<-g];exact fy (f1 C0) X1 i
 simp only[h,f,<-e,d];rfl
def PJ(d pl pk kb b1 b2 b:Nat)(C0:Int)(kq:List (Int×Nat))(X:PW):HP:=sf λ(q:List (Int×Nat×E6))=>C5 [d6 (ks q=X.E0.B0∧kp q=kq),ea r5 (ps q),J5 d pl X.E0.X9,M1 d X.M6,T2 pk X.E0.U1,K1 kb X.O0,bk b1 [Pt b] 61,bk b2 [I C0] 3]
section
variable{L:List HP}{pl kb b1 b2:Nat}
theorem Hp.gw(h:Hp c w (PJ d pl pk kb b1 b2 b C0 kq X::L)):∃q:List (Int×Nat×E6),ks q=X.E0.B0∧kp q=kq∧Hp c w (ea r5 (ps q)::J5 d pl X.E0.X9::M1 d X.M6::T2 pk X.E0.U1::K1 kb X.O0::bk b1 [Pt b] 61::bk b2 [I C0] 3::L):=by obtain⟨q,h0⟩:=h.ex;obtain⟨⟨f,e⟩,a⟩:=h0.R6.uf;exact⟨q,f,e,a⟩
theorem Hp.ew{q:List (Int×Nat×E6)}(e:ks q=X.E0.B0)(a:kp q=kq)(h:Hp c w (ea r5 (ps q)::J5 d pl X.E0.X9::M1 d X.M6::T2 pk X.E0.U1::K1 kb X.O0::bk b1 [Pt b] 61::bk b2 [I C0] 3::L)):Hp c w (PJ d pl pk kb b1 b2 b C0 kq X::L):=
 Hp.R8 q (Hp.C3 (A:=[d6 (ks q=X.E0.B0∧kp q=kq),ea r5 (ps q),J5 d pl X.E0.X9,M1 d X.M6,T2 pk X.E0.U1,K1 kb X.O0,bk b1 [Pt b] 61,bk b2 [I C0] 3]) (Hp.T' ⟨e,a⟩ h))
theorem Hp.BL(h:Hp c w (PJ d pl pk kb b1 b2 b C0 kq X::L)){p:Nat}(i:K0 kq tx=some p):∃(e a:List (Int×Nat×E6))(r:E6),K0 X.E0.B0 tx=some r∧(∀r',ks (e++(tx,p,r')::a)=R1 X.E0.B0 tx r'∧kp (e++(tx,p,r')::a)=kq)∧Hp c w (r5 p r::ea r5 (ps e++ps a)::J5 d pl X.E0.X9::M1 d X.M6::T2 pk X.E0.U1::K1 kb X.O0::bk b1 [Pt b] 61::bk b2 [I C0] 3::L):=by
 obtain⟨q,l,k,h⟩:=h.gw;obtain⟨e,r,a,j,f,g⟩:=wM k i;subst j;rw[l]at f g;refine⟨e,a,r,f,g,?_⟩;have m:ps (e++(tx,p,r)::a)=ps e++(p,r)::ps a:=by simp[ps]
 grind[rq]
theorem Hp.NN{X':PW}{f a:List (Int×Nat×E6)}{p:Nat}{r':E6}(e:ks (f++(tx,p,r')::a)=X'.E0.B0)(i:kp (f++(tx,p,r')::a)=kq)(h:Hp c w (r5 p r'::ea r5 (ps f++ps a)::J5 d pl X'.E0.X9::M1 d X'.M6::T2 pk X'.E0.U1::K1 kb X'.O0::bk b1 [Pt b] 61::bk b2 [I C0] 3::L)):Hp c w (PJ d pl pk kb b1 b2 b C0 kq X'::L):=by
 have h:=Hp.Xu (x:=(p,r')) h;have g:ps (f++(tx,p,r')::a)=ps f++(p,r')::ps a:=by simp[ps]
 grind[Hp.ew]
end
section
theorem age{kb pl:Nat}{B0:List (Int×E6)}{x:U2}{seen:List P9}(h:Hp c w (bk b [Pt kb,I me,Pt pl,Pt pk,.map (some m),.slice B6 seen.length cs] 162::J5 d pl l::M1 d x::T2 pk s::K1 kb k::mr I r5 m B0::so 55 j8 B6 cs seen::R))(H:PX n mm ⟨⟨me,l,s,B0⟩,k,x⟩)(hn:n<=19000000)(XZ:mm<=900000)(NW:seen.length<=90000000):Cs 396 #[Pt b,I C0] w (λe w'=>∃as' cs' UA,e= .returned (I (PW.run ⟨⟨me,l,s,B0⟩,k,x⟩ C0).1)∧UA.length<=seen.length+1∧Hp c w' (bk b [Pt kb,I me,Pt pl,Pt pk,.map (some m),.slice as' UA.length cs'] 162::J5 d pl (PW.run ⟨⟨me,l,s,B0⟩,k,x⟩ C0).2.E0.X9::M1 d (PW.run ⟨⟨me,l,s,B0⟩,k,x⟩ C0).2.M6::T2 pk (PW.run ⟨⟨me,l,s,B0⟩,k,x⟩ C0).2.E0.U1::K1 kb (PW.run ⟨⟨me,l,s,B0⟩,k,x⟩ C0).2.O0::mr I r5 m (PW.run ⟨⟨me,l,s,B0⟩,k,x⟩ C0).2.E0.B0::so 55 j8 as' cs' UA::R)):=by
 obtain⟨np,kh,Ms,bH⟩:=H.pl;have kK:k.Ok:=H.kb.ok;simp only at np kh Ms bH;have J:=λ(w:World)(Z T v4 v5:Value)(R:List HP)(h:Hp c w (bk b [Pt kb,I me,Z,T,v4,v5] 162::K1 kb k::R))=>KS (C0:=C0) h m4;by_cases N:k.D0.K6 C0=me
 ·rw[Si N]at J;have t:=H.Q9 C0;obtain⟨s1,jh⟩:∃s1,(s.Q9 C0).2=s1:=⟨_,rfl⟩;have hL:=λ(w:World)(R:List HP)(h:Hp c w (T2 pk s::R))=>agd (C0:=C0) h H.ss.sb.S3 m4;simp only[jh]at t hL;obtain⟨u,e0,h0⟩:=(h.g [5] rfl).Xc;subst e0;replace h:=h0;clear h0;obtain⟨kq,S⟩:∃kq,kp u=kq:=⟨_,rfl⟩;rw[S]at h;have dF:kq.length<=80:=by have h1:=t.B0;have h2:(ks u).length<=80:=h1;rw[<-S];simpa [ks,kp] using h2
  have Hi:(ks u).map (·.1)=kq.map (·.1):=by rw[<-S];simp[ks,kp,Function.comp_def]
  obtain⟨X1,a⟩:∃X1:PW,X1=⟨⟨me,l,s1,ks u⟩,k,x⟩:=⟨_,rfl⟩;rw[<-a]at t;have hXk:X1.E0.B0.map (·.1)=kq.map (·.1):=by rw[a];exact Hi
  refine Fa kn func396 O O (I2 h O λb1 w h=>I2 h O λb2 w h=>U0 h 1 O O (U0 h 0 O O (N1 (J _ _ _ _ _ _ (h.g [4,8] O)) λw h=>m5 (Y6 h [0,1,2,3,54,105] λh=>U3 3 O O (U3 0 O O (U0 h 2 O O ⟨h,?_⟩))))));refine ga (hL _ _ (h.g [8] O)) λal cl w h=>U0 h 5 O O (He (JA h) λcI w h=>?_);have hS0:Hp c w (C5 [bk b [Pt kb,I me,Pt pl,Pt pk,.map (some m),.slice B6 seen.length cs] 162,mo I Pt m kq,PJ d pl pk kb b1 b2 b C0 kq (fo (f1 C0) X1 [])]::bk cI [Pt b] 61::so 55 j8 B6 cs seen::R):=by have h1:=Hp.ew (X:=X1) (q:=u) (by rw[a]) S (L:=bk b [Pt kb,I me,Pt pl,Pt pk,.map (some m),.slice B6 seen.length cs] 162::mo I Pt m kq::bk cI [Pt b] 61::so 55 j8 B6 cs seen::R) (by rw[a];exact h.q 12 [8,9,10,2,4,6,5,3,7,0,11] O);exact Hp.C3 (A:=[bk b [Pt kb,I me,Pt pl,Pt pk,.map (some m),.slice B6 seen.length cs] 162,mo I Pt m kq,PJ d pl pk kb b1 b2 b C0 kq X1]) (h1.g [1,2] O)
  refine RF.Zi kn O O (λ(x:Int×Nat)=>[I x.1,Pt x.2]) (λ_=>rfl) O O O (λl=>l=d9 kq) (λl=>l=(d9 kq).take l.length) (λpre=>C5 [bk b [Pt kb,I me,Pt pl,Pt pk,.map (some m),.slice B6 seen.length cs] 162,mo I Pt m kq,PJ d pl pk kb b1 b2 b C0 kq (fo (f1 C0) X1 pre)]) (λ_=>d6 False) hS0 (LM m4 (λpre=>PJ d pl pk kb b1 b2 b C0 kq (fo (f1 C0) X1 pre))) ?_ ?_ ?_
  ·rintro pre ⟨tx,p⟩ W M hS h;obtain⟨Px,Fe⟩:=Xq hS;have hp:=zo Fe;obtain⟨jA,NI,hG3,hG4⟩:=gy C0 pre t (λy E=>by grind[Ao]);have A7:=TD (f1 C0) X1 pre (tx,p);obtain⟨X,hX⟩:∃X,fo (f1 C0) X1 pre=X:=⟨_,rfl⟩;rw[hX]at jA NI hG3 hG4 h A7;replace h:=h.R6;obtain⟨G,C,r,hr,hq,h⟩:=Hp.BL (L:=bk b [Pt kb,I me,Pt pl,Pt pk,.map (some m),.slice B6 seen.length cs] 162::mo I Pt m kq::M) (Hp.get (L:=bk b [Pt kb,I me,Pt pl,Pt pk,.map (some m),.slice B6 seen.length cs] 162::mo I Pt m kq::PJ d pl pk kb b1 b2 b C0 kq X::M) h 3 [2,0,1] rfl rfl) hp;have aj:fo (f1 C0) X1 (pre++[(tx,p)])=f1 C0 X tx r:=by rw[A7];simp only[hr];rfl
   obtain⟨⟨rB,l',s',Lc⟩,k',d'⟩:=X;have e1:k'=k:=by rw[a]at hG4;exact hG4
   subst k';simp only at hr hq h;refine⟨[r5 p r,ea r5 (ps G++ps C),J5 d pl l',M1 d d',T2 pk s',K1 kb k,bk b1 [Pt b] 61,bk b2 [I C0] 3,bk b [Pt kb,I me,Pt pl,Pt pk,.map (some m),.slice B6 seen.length cs] 162,mo I Pt m kq],h,λW M h=>?_⟩;have hLt:=λ(w:World)(Z T v4 v5:Value)(R:List HP)(h:Hp c w (bk b [Pt kb,I me,Z,T,v4,v5] 162::K1 kb k::r5 p r::R))=>MZ (C0:=C0) h m4 m4;by_cases g2:r.z7=true
   ·have v:f1 C0 ⟨⟨rB,l',s',Lc⟩,k,d'⟩ tx r=⟨⟨rB,l',s',Lc⟩,k,d'⟩:=by unfold f1;rw[V0 (λk=>Zb1)]
    rw[v]at aj;have jq:∀W M,Hp c W (r5 p r::ea r5 (ps G++ps C)::J5 d pl l'::M1 d d'::T2 pk s'::K1 kb k::bk b1 [Pt b] 61::bk b2 [I C0] 3::bk b [Pt kb,I me,Pt pl,Pt pk,.map (some m),.slice B6 seen.length cs] 162::mo I Pt m kq::M)->Hp c W (C5 [bk b [Pt kb,I me,Pt pl,Pt pk,.map (some m),.slice B6 seen.length cs] 162,mo I Pt m kq,PJ d pl pk kb b1 b2 b C0 kq (fo (f1 C0) X1 (pre++[(tx,p)]))]::M):=by exact abA
    replace h:=h.L7;refine U0 h 0 O O (BR.not (BR.s9 Zb9 (m5 ?_)));replace h:=Hp.Z5 h;exact jq _ _ h
   ·have g2':r.z7=false:=by simpa using g2
    obtain⟨q,hqd⟩:∃q,Decidable.decide (C0>=k.D0.M8 r.I1)=q:=⟨_,rfl⟩;rw[hqd]at hLt;by_cases K:q=true
    ·subst K;have v:f1 C0 ⟨⟨rB,l',s',Lc⟩,k,d'⟩ tx r=PW.Y4 ⟨⟨rB,l',s',Lc⟩,k,d'⟩ tx r:=by unfold f1;rw[S1 ⟨g2',Vn hqd⟩]
     rw[v,tQ]at aj;obtain⟨V,hV⟩:∃V,cn s' l' d' tx r=V:=⟨_,rfl⟩;simp only[hV]at aj;have jq:∀W M,Hp c W (r5 p V.1::ea r5 (ps G++ps C)::J5 d pl V.2.1::M1 d V.2.2.1::T2 pk V.2.2.2::K1 kb k::bk b1 [Pt b] 61::bk b2 [I C0] 3::bk b [Pt kb,I me,Pt pl,Pt pk,.map (some m),.slice B6 seen.length cs] 162::mo I Pt m kq::M)->Hp c W (C5 [bk b [Pt kb,I me,Pt pl,Pt pk,.map (some m),.slice B6 seen.length cs] 162,mo I Pt m kq,PJ d pl pk kb b1 b2 b C0 kq (fo (f1 C0) X1 (pre++[(tx,p)]))]::M):=by intro W M h;rw[aj];have h1:=Hp.NN (X':=⟨⟨rB,V.2.1,V.2.2.2,R1 Lc tx V.1⟩,k,V.2.2.1⟩) (hq V.1).1 (hq V.1).2 h;exact Hp.C3 (A:=[bk b [Pt kb,I me,Pt pl,Pt pk,.map (some m),.slice B6 seen.length cs] 162,mo I Pt m kq,PJ d pl pk kb b1 b2 b C0 kq ⟨⟨rB,V.2.1,V.2.2.2,R1 Lc tx V.1⟩,k,V.2.2.1⟩]) (h1.g [1,2] O)
     obtain⟨S0,aH,_⟩:=jA.pt.ok;have Na:s6 d' l' S0:=aH.X9;have fT:SS n s':=jA.ss;have hVV:=λ(v0 v1 v4 v5:Value)(w:World)(R:List HP)(h:Hp c w (bk b [v0,v1,Pt pl,Pt pk,v4,v5] 162::r5 p r::J5 d pl l'::M1 d d'::T2 pk s'::R))=>agc (tx:=tx) h Na fT m4;rw[hV]at hVV;replace h:=h.L7;refine U0 h 0 O O (BR.not (BR.no Zb9 (U0 h 6 O O (U0 h 7 O O ?_))));replace h:Hp _ _ (r5 p r::_):=Hp.Z5 h;exact N1 (hLt _ _ _ _ _ _ (h.g [8,5] O)) λw h=>Q5 (U0 h 7 O O (N1 (hVV _ _ _ _ _ _ (h.g [0,2,4,5,6] O)) λw h=>jq _ _ (h.g [1,6,2,3,4,5,7,8] O)))
    ·have K:q=false:=by simpa using K
     subst K;have v:f1 C0 ⟨⟨rB,l',s',Lc⟩,k,d'⟩ tx r=⟨⟨rB,l',s',Lc⟩,k,d'⟩:=by unfold f1;rw[V0 (λk=>wE hqd k.2)]
     rw[v]at aj;have jq:∀W M,Hp c W (r5 p r::ea r5 (ps G++ps C)::J5 d pl l'::M1 d d'::T2 pk s'::K1 kb k::bk b1 [Pt b] 61::bk b2 [I C0] 3::bk b [Pt kb,I me,Pt pl,Pt pk,.map (some m),.slice B6 seen.length cs] 162::mo I Pt m kq::M)->Hp c W (C5 [bk b [Pt kb,I me,Pt pl,Pt pk,.map (some m),.slice B6 seen.length cs] 162,mo I Pt m kq,PJ d pl pk kb b1 b2 b C0 kq (fo (f1 C0) X1 (pre++[(tx,p)]))]::M):=by exact abA
     replace h:=h.L7;refine U0 h 0 O O (BR.not (BR.no Zb9 (U0 h 6 O O (U0 h 7 O O ?_))));replace h:Hp _ _ (r5 p r::_):=Hp.Z5 h;exact N1 (hLt _ _ _ _ _ _ (h.g [8,5] O)) λw h=>m5 (jq _ _ (h.g [2,3,4,5,6,1,7,8] O))
  ·rintro D1 xs W rfl h;obtain⟨jA,NI,hG3,hG4⟩:=gy C0 (d9 kq) t (λy E=>by grind[Ao]);obtain⟨X2,hX2⟩:∃X2,fo (f1 C0) X1 (d9 kq)=X2:=⟨_,rfl⟩;rw[hX2]at jA NI hG3 hG4 h;replace h:=h.R6;obtain⟨⟨me2,l2,s2,ue⟩,k2,d2⟩:=X2;have e1:k2=k:=by rw[a]at hG4;exact hG4
   have v:me2=me:=by rw[a]at NI;exact NI
   subst k2;subst me2;obtain⟨C,e3,e4,h⟩:=Hp.gw (L:=bk b [Pt kb,I me,Pt pl,Pt pk,.map (some m),.slice B6 seen.length cs] 162::mo I Pt m kq::pt D1 (.deferred (some []))::bk cI [Pt b] 61::so 55 j8 B6 cs seen::R) (Hp.get (L:=bk b [Pt kb,I me,Pt pl,Pt pk,.map (some m),.slice B6 seen.length cs] 162::mo I Pt m kq::PJ d pl pk kb b1 b2 b C0 kq ⟨⟨me,l2,s2,ue⟩,k,d2⟩::pt D1 (.deferred (some []))::bk cI [Pt b] 61::so 55 j8 B6 cs seen::R) h 3 [2,0,1] rfl rfl);simp only at e3 h;rw[<-e4]at h;replace h:=(h.g [8] O).Bd;rw[e3]at h;obtain⟨z,hz⟩:∃z,k.J6 me me 0 C0=z:=⟨_,rfl⟩;have hrp:=jA.J6 m4 me me 0 C0;have lX:=λ(w:World)(R:List HP)(h:Hp c w (K1 kb k::R))=>zY (N3:=me) (p:=me) (i:=0) (C0:=C0) h kK;simp only[hz]at hrp lX;have o:=λ(y:Int×PW)(E:(if z.2.1=0 then PW.take ⟨⟨me,l2,s2,ue⟩,z.2.2,d2⟩ z.1 C0 else(0,⟨⟨me,l2,s2,ue⟩,z.2.2,d2⟩))=y)=>rJ (X:=⟨⟨me,l,s,ks u⟩,k,x⟩) (X1:=X1) (X2:=⟨⟨me,l2,s2,ue⟩,k,d2⟩) (X3:=⟨⟨me,l2,s2,ue⟩,z.2.2,d2⟩) (z:=z) Hi N Zb1 t hX2 hz O E;by_cases g4:z.2.1=0
   ·obtain⟨y,E⟩:∃y,PW.take ⟨⟨me,l2,s2,ue⟩,z.2.2,d2⟩ z.1 C0=y:=⟨_,rfl⟩;have hpy:=hrp.take m4 z.1 C0;have hym:=XC ⟨⟨me,l2,s2,ue⟩,z.2.2,d2⟩ z.1 C0;have F:=λ(w:World)(R:List HP)(h:Hp c w (bk b [Pt kb,I me,Pt pl,Pt pk,.map (some m),.slice B6 seen.length cs] 162::J5 d pl l2::M1 d d2::T2 pk s2::K1 kb z.2.2::mr I r5 m ue::so 55 j8 B6 cs seen::R))=>agb (y:=z.1) (C0:=C0) h hrp m4 m4;rw[E]at hpy F hym;have o:=o y Zb6;obtain⟨yv,⟨⟨me3,l3,s3,Vj⟩,k3,d3⟩⟩:=y;have e6:me3=me:=hym;subst me3;simp only at F o hpy;rw[o];replace h:=h.g [4] O;refine acr ?_;replace h:=h.drew;refine U3 5 O O (U3 7 O O (U3 5 O O (U3 7 O O (U3 5 O O (U3 7 O O (U3 6 O O ⟨?_,?_⟩))))))
    ·refine N1 (lX _ _ h) λw h=>⟨Hp.R8 (f:=λk=>K1 kb k) z.2.2 h,I2 h O λb3 w h=>J3 h 0 O O O λw h=>mf (U0 h 6 O O (O4 h 0 O O (U0 h 7 O O (ga (F _ _ (h.g [8,3,4,5,1,2,11] O)) λfI NH w h=>U0 h 8 O O (He (JA h) λdU w h=>?_)))))⟩;exact abC
    ·refine acq λb3 w h=>?_;replace h:=h.g [1] O;refine J3 h 0 O O O λw h=>mf (U0 h 6 O O (O4 h 0 O O (U0 h 7 O O (ga (F _ _ (h.g [8,3,4,5,1,2,11] O)) λfI NH w h=>U0 h 8 O O (He (JA h) λdU w h=>?_)))));exact abC
   ·have hpy:=hrp.up (n':=n+16) (m':=mm+1) m4 m4;have o:=o _ (V0 g4);rw[o];replace h:=h.g [4] O;refine acr ?_;replace h:=h.drew;refine U3 5 O O (U3 7 O O (U3 5 O O (U3 7 O O (U3 5 O O (U3 7 O O (U3 6 O O ⟨?_,?_⟩))))))
    ·refine N1 (lX _ _ h) λw h=>⟨Hp.R8 (f:=λk=>K1 kb k) z.2.2 h,I2 h O λb3 w h=>J3 h 0 O O O λw h=>Wa (U0 h 6 O O (He (JA h) λdU w h=>?_))⟩;exact abB
    ·refine acq λb3 w h=>?_;replace h:=h.g [1] O;refine J3 h 0 O O O λw h=>Wa (U0 h 6 O O (He (JA h) λdU w h=>?_));exact abB
  ·rintro D j W h;exact h.uf.1.elim
 ·rw[Em N]at J;have e1:PW.run ⟨⟨me,l,s,B0⟩,k,x⟩ C0=(23,⟨⟨me,l,s,B0⟩,k,x⟩):=by unfold PW.run;rw[S1 N]
  rw[e1];exact Fa kn func396 O O (I2 h O λb1 w h=>I2 h O λb2 w h=>U0 h 1 O O (U0 h 0 O O (N1 (J _ _ _ _ _ _ (h.g [2,6] O)) λw h=>Q5 (Mz.zero ⟨B6,cs,seen,rfl,j' _,h.q 9 [0,4,5,6,1,7,8] O⟩))))
end
def cr1(C0:Int)(x:CW)(p:Int):CW:=if(x.O0.J6 x.O0.D0.A0 p 0 C0).2.1=0 then CW.take {x with O0:=(x.O0.J6 x.O0.D0.A0 p 0 C0).2.2} (x.O0.J6 x.O0.D0.A0 p 0 C0).1 C0 else{x with O0:=(x.O0.J6 x.O0.D0.A0 p 0 C0).2.2}
def cr2(C0:Int)(x:CW)(tx:Int)(r:T4):CW:=if r.N2=0∧C0>=x.O0.D0.E5 r.I1 then x.decide tx r else x
def cf2(C0:Int)(x:CW)(l:List Int):CW:=l.foldl (λ(x:CW)(tx:Int)=>cr2 C0 x tx ((K0 x.O1.B0 tx).getD qj)) x
def cf1(C0:Int)(x:CW)(n:Nat):CW:=(List.range n).foldl (λ(x:CW)(i:Nat)=>cr1 C0 x (i:Int)) x
def GX(B0:List (Int×T4))(C0:Int)(k:J2)(n:Nat):J2:=(List.range n).foldl (λ(k:J2)(i:Nat)=>(T3 B0).foldl (Je B0 (i:Int) C0) k) k
theorem XH(C0:Int)(x:CW)(n:Nat):cf1 C0 x (n+1)=cr1 C0 (cf1 C0 x n) (n:Int):=by simp[cf1,List.range_succ]
theorem WH(B0:List (Int×T4))(C0:Int)(k:J2)(n:Nat):GX B0 C0 k (n+1)=(T3 B0).foldl (Je B0 (n:Int) C0) (GX B0 C0 k n):=by simp[GX,List.range_succ]
theorem bU(C0:Int)(x:CW)(l:List Int)(tx:Int):cf2 C0 x (l++[tx])=cr2 C0 (cf2 C0 x l) tx ((K0 (cf2 C0 x l).O1.B0 tx).getD qj):=by simp[cf2]
theorem eN(f:x.O0.D0.K6 C0=x.O0.D0.A0){x2:CW}{d:U2}(b:cf1 C0 x x.O0.D0.A0.toNat=x2)(a:cf2 C0 x2 (T3 x2.O1.B0)=⟨⟨l,B0⟩,k,d⟩):CW.run x C0=(0,⟨⟨l,B0⟩,GX B0 C0 k x.O0.D0.A0.toNat,d⟩):=by
 unfold CW.run;simp only;rw[V0 (λk=>k f)];have e:m6 x.O0.D0.A0 (λ(x:CW)(p:Int)=>if(x.O0.J6 x.O0.D0.A0 p 0 C0).2.1=0 then CW.take {x with O0:=(x.O0.J6 x.O0.D0.A0 p 0 C0).2.2} (x.O0.J6 x.O0.D0.A0 p 0 C0).1 C0 else{x with O0:=(x.O0.J6 x.O0.D0.A0 p 0 C0).2.2}) x=x2:=b;rw[e];have c:Y8 (λ(x:CW)=>x.O1.B0) qj (λ(x:CW)(tx:Int)(r:T4)=>if r.N2=0∧C0>=x.O0.D0.E5 r.I1 then x.decide tx r else x) x2=⟨⟨l,B0⟩,k,d⟩:=a;rw[c];congr 1;unfold m6 GX;generalize List.range x.O0.D0.A0.toNat=L;clear e c b a;induction L generalizing k with
 |nil=>rfl
 |cons i L g=>simp_all[acJ]
section
variable{P:zf}
theorem XI(k:J2)(r:T4)(y:P9)(C0:Int):(tc k r y C0).1.J0=r.J0:=by grind[tc]
theorem vP(l:N7)(d:U2)(r:T4)(y:P9):(Re l d r y).1.J0=r.J0:=by grind[Re]
theorem zH(l:N7)(d:U2)(tx:Int)(r:T4):(je l d tx r).1.J0=r.J0:=by grind[je,Fb]
theorem oo{r':T4}(h:∀tx r,K0 B0 tx=some r->¬r.J0=0#16)(a:K0 B0 tx=some r)(b:r'.J0=r.J0):∀j q,K0 (R1 B0 tx r') j=some q->¬q.J0=0#16:=by grind[G1,Y0]
theorem CX.up(h:CX P m x){m':Nat}(a:m<=m'):CX P m' x:=⟨h.ci,h.kb.up a,h.pl,h.B0,h.Pu⟩
theorem CX.take(h:CX P m x)(o:m+1<=1000000){y:P9}(p:P.F ⟨y.E0,1⟩ y)(C0:Int):CX P (m+1) (x.take y C0)∧(x.take y C0).O0.D0=x.O0.D0∧(x.take y C0).O1.B0.map (·.1)=x.O1.B0.map (·.1):=by
 have b:=h.ci.take p C0;have j:=h.up (j' m);obtain⟨⟨l,B0⟩,k,d⟩:=x;cases a:K0 B0 y.tx with
 |none=>simp_all[CW.take]
 |some r=>
  have hs:∀r',(R1 B0 y.tx r').map (·.1)=B0.map (·.1):=λr'=>Nk (by rw[a];rfl);have e:∀r',(R1 B0 y.tx r').length<=3000:=λr'=>by rw[Z7 a];exact h.B0
  by_cases i:Qe (W r.J0) y.E0=false
  ·simp_all[CW.take]
  ·by_cases g:y.W0=1
   ·have c:CW.take ⟨⟨l,B0⟩,k,d⟩ y C0=⟨⟨l,R1 B0 y.tx (tc k r y C0).1⟩,(tc k r y C0).2,d⟩:=by unfold CW.take;simp only[a];rw[V0 i,S1 g,QC]
    rw[c]at b⊢;have hp:(tc k r y C0).2.D0=k.D0:=Bf _ _ _ _ _;refine⟨⟨b,h.kb.Z6 o _ _ _ _,?_,e _,oo h.Pu a (XI _ _ _ _)⟩,hp,hs _⟩;show F8 (tc k r y C0).2.D0.A0 _ _;rw[hp];exact h.pl
   ·by_cases n:y.W0=2
    ·by_cases f:r.N2=0
     ·simp_all[CW.take]
     ·have c:CW.take ⟨⟨l,B0⟩,k,d⟩ y C0=⟨⟨l,R1 B0 y.tx {r with ka:=r.ka|||Lk y.E0}⟩,k,d⟩:=by unfold CW.take;simp only[a];rw[V0 i,V0 g,S1 n,S1 f];rfl
      rw[c]at b⊢;exact⟨⟨b,j.kb,h.pl,e _,oo h.Pu a O⟩,rfl,hs _⟩
    ·by_cases f:y.W0=3
     ·have c:CW.take ⟨⟨l,B0⟩,k,d⟩ y C0=⟨⟨(Re l d r y).2.1,R1 B0 y.tx (Re l d r y).1⟩,k,(Re l d r y).2.2⟩:=by unfold CW.take;simp only[a];rw[V0 i,V0 g,V0 n,S1 f,RT]
      rw[c]at b⊢;exact⟨⟨b,j.kb,h.pl,e _,oo h.Pu a (vP _ _ _ _)⟩,rfl,hs _⟩
     simp_all[CW.take]
theorem CX.J6(h:CX P m x)(b:m<=1000000)(N3 p C0:Int):CX P m {x with O0:=(x.O0.J6 N3 p 0 C0).2.2}:=by
 have e:=Df x.O0 N3 p 0 C0;have a:F8 (x.O0.J6 N3 p 0 C0).2.2.D0.A0 (x.O0.J6 N3 p 0 C0).2.2.D0.F0 (x.O0.J6 N3 p 0 C0).2.2.D0.L0:=by rw[e];exact h.pl
 exact⟨h.ci.J6 N3 p 0 C0,h.kb.J6 b N3 p 0 C0,a,h.B0,h.Pu⟩
theorem jS(h:CX P m x)(p C0:Int)(h0:(x.O0.J6 x.O0.D0.A0 p 0 C0).2.1=0):P.F ⟨(x.O0.J6 x.O0.D0.A0 p 0 C0).1.E0,1⟩ (x.O0.J6 x.O0.D0.A0 p 0 C0).1∧(x.O0.J6 x.O0.D0.A0 p 0 C0).1.E0=p:=by have b:=(h.ci.Er.J6 x.O0.D0.A0 p 0 C0).2;have c:x.O0.Ia x.O0.D0.A0=true:=Si O;rw[c]at b;have a:=b h0;have e:=MB a.1;refine⟨?_,e⟩;rw[e];exact a
theorem CX.cr1(h:CX P m x)(b:m+1<=1000000)(p C0:Int):CX P (m+1) (cr1 C0 x p)∧(cr1 C0 x p).O0.D0=x.O0.D0∧(cr1 C0 x p).O1.B0.map (·.1)=x.O1.B0.map (·.1):=by
 have a:=h.J6 m4 x.O0.D0.A0 p C0;unfold Go.Proofs.YtaaihojmcfaejaaGreatDoor.cr1;split
 ·grind[take,jS,Df]
 ·exact⟨a.up (j' m),Df _ _ _ _ _,rfl⟩
theorem CX.cf1{x:CW}(h:CX P m x)(C0:Int):∀n:Nat,m+n<=1000000->CX P (m+n) (cf1 C0 x n)∧(cf1 C0 x n).O0.D0=x.O0.D0∧(cf1 C0 x n).O1.B0.map (·.1)=x.O1.B0.map (·.1)
 |0,_=>⟨h,rfl,rfl⟩
 |n+1,a=>by obtain⟨d,c,b⟩:=CX.cf1 h C0 n m4;grind[XH,cr1]
theorem CX.cr2(h:CX P m x)(a:K0 x.O1.B0 tx=some r)(C0:Int):CX P m (cr2 C0 x tx r)∧(cr2 C0 x tx r).O0.D0=x.O0.D0∧(cr2 C0 x tx r).O1.B0.map (·.1)=x.O1.B0.map (·.1):=by
 unfold Go.Proofs.YtaaihojmcfaejaaGreatDoor.cr2;split
 ·rename_i c;have b:=h.ci.decide a c.1;obtain⟨⟨l,B0⟩,k,d⟩:=x;rw[Fy]at b⊢;have a:K0 B0 tx=some r:=a;refine⟨⟨b,h.kb.R4 _,h.pl,?_,oo h.Pu a (zH _ _ _ _)⟩,rfl,Nk (by rw[a];rfl)⟩;show(R1 B0 tx _).length<=3000;rw[Z7 a];exact h.B0
 simp[*]
theorem CX.cf2(C0:Int):∀(l:List Int){x:CW},CX P m x->(∀tx∈l,tx∈x.O1.B0.map (·.1))->CX P m (cf2 C0 x l)∧(cf2 C0 x l).O0.D0=x.O0.D0∧(cf2 C0 x l).O1.B0.map (·.1)=x.O1.B0.map (·.1)
 |[],_,h,_=>⟨h,rfl,rfl⟩
 |tx::l,x,h,b=>by
  obtain⟨r,a⟩:=ca (b tx (Ka ..))
  obtain⟨k,j,c⟩:=h.cr2 a C0
  have e:Go.Proofs.YtaaihojmcfaejaaGreatDoor.cf2 C0 x (tx::l)=Go.Proofs.YtaaihojmcfaejaaGreatDoor.cf2 C0 (Go.Proofs.YtaaihojmcfaejaaGreatDoor.cr2 C0 x tx r) l:=by
   show List.foldl _ (Go.Proofs.YtaaihojmcfaejaaGreatDoor.cr2 C0 x tx ((K0 x.O1.B0 tx).getD qj)) l=_
   rw[a]
   rfl
  obtain⟨g,f,d⟩:=CX.cf2 C0 l k (λy i=>by rw[c];exact b y (Ta _ i))
  rw[e]
  exact⟨g,f.trans j,d.trans c⟩
theorem aU{C:Nat}(h:KB m k)(B0:List (Int×T4))(C0:Int)(b:B0.length<=C)(n:Nat)(c:m+n*C<=1000000):KB (m+n*C) (GX B0 C0 k n)∧(GX B0 C0 k n).D0=k.D0:=by
 induction n with
 |zero=>exact⟨h.up m4,rfl⟩
 |succ n a=>
  rw[Nat.succ_mul]at c⊢;obtain⟨g,f⟩:=a m4;have i:(T3 B0).length<=C:=by rw[(i4 _).length_eq,H7];exact b
  obtain⟨e,d⟩:=Aw B0 (n:Int) C0 (T3 B0) g m4;rw[WH];exact⟨e.up m4,d.trans f⟩
end
theorem AU{P:Prop}(h:P:=by
 by_cases g3:z.2.1=0
 ·have e2:cr1 C0 ⟨⟨lx,rx⟩,kx,dx⟩ (i:Int)=CW.take ⟨⟨lx,rx⟩,z.2.2,dx⟩ z.1 C0:=by unfold cr1;simp only[hz];rw[S1 g3]
  rw[e2]at A7;have zr:=λ(w:World)(R:List HP)(h:Hp c w (bk b [Pt kb,Pt pl,.map (some m)] 321::J5 d pl lx::M1 d dx::K1 kb z.2.2::mr I M5 m rx::R))=>afx (y:=z.1) (C0:=C0) h hGr Zb7;obtain⟨Y,hY⟩:∃Y,CW.take ⟨⟨lx,rx⟩,z.2.2,dx⟩ z.1 C0=Y:=⟨_,rfl⟩;rw[hY]at zr A7;exact BR.QT g3 (O4 h 0 O O (N1 (zr _ _ (h.g [1,2,3,4,5] O)) λw h=>i5 ⟨q-1,m4,i+1,Y,rfl,m4,A7,h.q 6 [0,1,2,3,4] O⟩))
 ·have e2:cr1 C0 ⟨⟨lx,rx⟩,kx,dx⟩ (i:Int)=⟨⟨lx,rx⟩,z.2.2,dx⟩:=by unfold cr1;simp only[hz];rw[V0 g3]
  rw[e2]at A7;exact BR.eqN g3 (i5 ⟨q-1,m4,i+1,_,rfl,m4,A7,h.q 6 [1,2,3,4,5] O⟩)):P:=h
section
theorem afz{P:zf}{pl kb:Nat}{x:U2}(h:Hp c w (bk b [Pt kb,Pt pl,.map (some m)] 321::J5 d pl l::M1 d x::K1 kb k::mr I M5 m B0::R))(hx:CX P mm ⟨⟨l,B0⟩,k,x⟩)(XZ:mm<=100000):Cr 453 #[Pt b,I C0] w c (I (CW.run ⟨⟨l,B0⟩,k,x⟩ C0).1) (bk b [Pt kb,Pt pl,.map (some m)] 321::J5 d pl (CW.run ⟨⟨l,B0⟩,k,x⟩ C0).2.O1.X9::M1 d (CW.run ⟨⟨l,B0⟩,k,x⟩ C0).2.M6::K1 kb (CW.run ⟨⟨l,B0⟩,k,x⟩ C0).2.O0::mr I M5 m (CW.run ⟨⟨l,B0⟩,k,x⟩ C0).2.O1.B0::R):=by
 obtain⟨np,kh,Ms,bH⟩:=hx.pl;simp only at np kh Ms bH;have J:=λ(w:World)(a f:Value)(R:List HP)(h:Hp c w (bk b [Pt kb,a,f] 321::K1 kb k::R))=>KZ (C0:=C0) h m4;by_cases L:k.D0.K6 C0=k.D0.A0
 ·have Dj:(k.D0.K6 C0==k.D0.A0)=true:=by rw[L];exact beq_self_eq_true _
  rw[Dj]at J;obtain⟨N,hN⟩:∃N:Nat,k.D0.A0=(N:Int):=⟨k.D0.A0.toNat,m4⟩;have hNt:k.D0.A0.toNat=N:=m4
  have M:=λ(k':J2)(a f:Value)(w:World)(R:List HP)(h:Hp c w (bk b [Pt kb,a,f] 321::K1 kb k'::R))=>meK h;refine R2 func453 O (N1 (J _ _ _ _ (h.g [0,3] O)) λw h=>m5 (N1 (M _ _ _ _ _ h) λw h=>p5.A6 kn [0,1,17,18] (λq vs w'=>∃(i:Nat)(X:CW),vs=[Pt b,I C0,I k.D0.A0,I i]∧i+q=N∧cf1 C0 ⟨⟨l,B0⟩,k,x⟩ i=X∧Hp c w' (bk b [Pt kb,Pt pl,.map (some m)] 321::J5 d pl X.O1.X9::M1 d X.M6::K1 kb X.O0::mr I M5 m X.O1.B0::R)) N ⟨0,⟨⟨l,B0⟩,k,x⟩,rfl,m4,rfl,h.g [0,2,3] O⟩ ?_));rintro q _ w1 e0 ⟨i,X,rfl,hq,hX,h⟩;obtain⟨A,Q,hG3⟩:=hx.cf1 C0 i m4;rw[hX]at A Q hG3;refine BR.T5 (λg2=>?_) λg2=>?_
  ·have A7:=XH C0 ⟨⟨l,B0⟩,k,x⟩ i;rw[hX]at A7;obtain⟨⟨lx,rx⟩,kx,dx⟩:=X;simp only at h Q hG3;obtain⟨z,hz⟩:∃z,kx.J6 kx.D0.A0 (i:Int) 0 C0=z:=⟨_,rfl⟩;have hGr:=A.J6 m4 kx.D0.A0 (i:Int) C0;have hRF:=jS A (i:Int) C0;have H:=λ(w:World)(R:List HP)(h:Hp c w (K1 kb kx::R))=>zY (N3:=kx.D0.A0) (p:=(i:Int)) (i:=0) (C0:=C0) h A.kb.ok;have hzp:z.2.2.D0=k.D0:=by rw[<-hz,Df];exact Q
   simp only[hz]at hGr hRF H;have hpb:z.2.1=0->0<=z.1.E0∧z.1.E0<k.D0.A0:=λe=>m4
   refine amO h 5 [0] O (qs [0,1,2,4,6,7,3] (.w2 5 (.w2 8 (qs [9,10,11] (vs [12,13] (qs [14] .done))) 12 (vs [8] (qs [9,10,11] (vs [13] (qs [14] .done))))) 12 (ws [5] (vs [8] (qs [9,10,11] (vs [13] (qs [14] .done))))))) λh=>U3 0 O O ⟨?_,?_⟩
   ·refine N1 (M _ _ _ _ _ (h.g [0,3] O)) λw h=>⟨h.q 5 [0] O,⟨?_,?_⟩⟩
    ·refine N1 (H _ _ (h.g [1] O)) λw h=>⟨h.q 5 [1] O,I2 h O λb1 w h=>J3 h 0 O O O λw h=>?_⟩;replace h:=h.g [0,2,3,4] O;exact AU
    ·refine I2 h O λb1 w h=>⟨h.q 6 [1] O,N1 (H _ _ (h.g [2] O)) λw h=>J3 h 1 O O O λw h=>?_⟩;replace h:=h.g [1,2,3,4] O;exact AU
   ·refine I2 h O λb1 w h=>⟨h.q 6 [1] O,N1 (M _ _ _ _ _ (h.g [1,4] O)) λw h=>⟨h.q 6 [0] O,N1 (H _ _ (h.g [1] O)) λw h=>J3 h 2 O O O λw h=>?_⟩⟩;replace h:=h.g [2,1,3,4] O;exact AU
  ·have hi:i=N:=m4
   subst hi;have amx:=A.B0;obtain⟨K,hK⟩:∃K,T3 X.O1.B0=K:=⟨_,rfl⟩;have aQ:K.length<=3000:=by rw[<-hK,(i4 _).length_eq,H7];exact amx
   have hKs:∀tx∈K,tx∈X.O1.B0.map (·.1):=λtx ht=>(i4 _).mem_iff.mp (hK▸ht);have hRo:=λ(v0 a:Value)(w:World)(R:List HP)(h:Hp c w (bk b [v0,a,.map (some m)] 321::mr I M5 m X.O1.B0::R))=>aR h m4;rw[hK]at hRo;refine ga (hRo _ _ _ _ (h.g [0,4] O)) λa1 V1 w h=>p5.A6 kn [0,1,41,42,43] (λq vs w'=>∃(j:Int)(Y:CW),vs=[Pt b,I C0,.slice a1 K.length V1,I K.length,I j]∧(0<=j∧j+q=K.length)∧cf2 C0 X (K.take j.toNat)=Y∧Hp c w' (bk b [Pt kb,Pt pl,.map (some m)] 321::J5 d pl Y.O1.X9::M1 d Y.M6::K1 kb Y.O0::mr I M5 m Y.O1.B0::so 3 O5 a1 V1 K::R)) K.length ⟨0,X,rfl,m4,rfl,h.g [1,3,4,5,2] O⟩ ?_;rintro S _ w2 e1 ⟨j,Y,rfl,Ox,hY,h⟩;obtain⟨o,hH2,hH3⟩:=A.cf2 C0 (K.take j.toNat) (λtx ht=>hKs tx (ME ht));rw[hY]at o hH2 hH3;refine BR.T5 (λg3=>?_) λg3=>?_
   ·obtain⟨tx,Ei⟩:∃tx,i3 K j.toNat=some tx:=⟨K[j.toNat],by rw[Z0,d8]⟩;have ej:(j+1).toNat=j.toNat+1:=m4
    have A7:=bU C0 X (K.take j.toNat) tx;rw[<-O7 Ei,<-ej,hY]at A7;obtain⟨r,E⟩:=ca (l:=Y.O1.B0) (k:=tx) (by grind[Z0]);rw[E,akx]at A7;obtain⟨⟨t,F⟩,s,D⟩:=Y;simp only at h hH2 hH3 E;obtain⟨S0,Na⟩:=o.lok;obtain⟨KW,aw⟩:=o.V3 E;have Z:=λ(T:Nat)(a f:Value)(w:World)(R:List HP)(h:Hp c w (bk b [Pt kb,a,f] 321::K1 kb s::M5 T r::R))=>gG h o.pl;obtain⟨WE,ZG⟩:∃WE,s.D0.E5 r.I1=WE:=⟨_,rfl⟩;simp only[ZG]at Z;by_cases g4:r.N2=0∧C0>=WE
    ·have e2:cr2 C0 ⟨⟨t,F⟩,s,D⟩ tx r=CW.decide ⟨⟨t,F⟩,s,D⟩ tx r:=by unfold cr2;rw[S1 Zb7]
     rw[e2,Fy]at A7;have hDc:=λ(T:Nat)(f:Value)(w:World)(R:List HP)(h:Hp c w (bk b [Pt kb,Pt pl,f] 321::M5 T r::K1 kb s::J5 d pl t::M1 d D::R))=>qY (tx:=tx) h Na m4;obtain⟨V,hV⟩:∃V,je t D tx r=V:=⟨_,rfl⟩;simp only[hV]at hDc A7;refine jd h 5 O λb3 o3 lh=>LD.qf h 5 O Zb9 Zb9 O (U0 h 0 O O (RD.Ed eb h 4 O _ Zb9 λG h=>wg h.w5 λP4 D3 h=>U0 h 0 O O (mf ?_)));replace h:Hp _ _ (M5 G r::_):=Hp.E3 h;refine N1 (Z _ _ _ _ _ (h.g [2,5] O)) λw h=>Zt (N1 (qY (h.g [0,2,1,4,5] O) Zb9 m4) λw h=>i5 ?_);subst hV;replace h:=Hp.V' (h.g [1,5] O);exact⟨S-1,m4,j+1,_,rfl,m4,A7,h.g [1,3,4,2] O⟩
    ·have e2:cr2 C0 ⟨⟨t,F⟩,s,D⟩ tx r=⟨⟨t,F⟩,s,D⟩:=by unfold cr2;rw[V0 Zb7]
     rw[e2]at A7;refine jd h 5 O λb3 o3 lh=>LD.qf h 5 O Zb9 Zb9 O (U0 h 0 O O (RD.Ed eb h 4 O _ Zb9 λG h=>wg h.w5 λP4 D3 h=>U0 h 0 O O (BR.eq (λg5=>?_) λg5=>?_)))
     ·replace h:Hp _ _ (M5 G r::_):=Hp.E3 h;refine N1 (Z _ _ _ _ _ (h.g [2,5] O)) λw h=>Te (i5 ?_);replace h:=Hp.F6 E (h.g [2,3] O);exact⟨S-1,m4,j+1,_,rfl,m4,A7,h.g [1,3,4,2] O⟩
     ·refine m5 (i5 ?_);replace h:Hp _ _ (M5 G r::_):=Hp.E3 h;replace h:=Hp.F6 E h;exact⟨S-1,m4,j+1,_,rfl,m4,A7,h.g [1,2,3,4] O⟩
   ·have e:K.take j.toNat=K:=sd m4;rw[e]at hY;obtain⟨⟨l3,n⟩,v,d3⟩:=Y;simp only at h hH2;have Ee:=eN (x:=⟨⟨l,B0⟩,k,x⟩) (C0:=C0) L (x2:=X) (l:=l3) (B0:=n) (k:=v) (d:=d3) Zb6 Zb1;simp only[hNt]at Ee;rw[Ee];have hk3:v.D0.A0=k.D0.A0:=by rw[hH2,Q]
    refine N1 (M _ _ _ _ _ (h.g [0,3] O)) λw h=>p5.A6 kn [0,1,71,72] (λq vs w'=>∃(u:Nat),vs=[Pt b,I C0,I v.D0.A0,I u]∧u+q=i∧Hp c w' (bk b [Pt kb,Pt pl,.map (some m)] 321::J5 d pl l3::M1 d d3::K1 kb (GX n C0 v u)::mr I M5 m n::R)) i ⟨0,rfl,m4,h.q 6 [0,2,3,1,4] O⟩ ?_;rintro q3 _ w3 e2 ⟨u,rfl,hq3,h⟩;obtain⟨hB1,hB2⟩:=aU (C:=3000) o.kb n C0 o.B0 u m4;have eT:=WH n C0 v u;obtain⟨ku,ZW⟩:∃ku,GX n C0 v u=ku:=⟨_,rfl⟩;rw[ZW]at hB1 eT h;have hTl:=λ(a:Value)(w:World)(R:List HP)(h:Hp c w (bk b [Pt kb,a,.map (some m)] 321::K1 kb ku::mr I M5 m n::R))=>afw (E0:=(u:Int)) (C0:=C0) h hB1 m4 o.B0;rw[<-eT]at hTl;refine BR.T5 (λg5=>?_) λg5=>?_
    ·exact N1 (hTl _ _ _ (h.g [0,3,4] O)) λw h=>i5 ⟨q3-1,m4,u+1,rfl,m4,h.g [0,3,4] O⟩
    ·have hu:u=i:=m4
     rw[hu]at ZW;rw[ZW];exact⟨rfl,h⟩
 ·have Dj:(k.D0.K6 C0==k.D0.A0)=false:=by rw[AE];exact L
  rw[Dj]at J;have e1:CW.run ⟨⟨l,B0⟩,k,x⟩ C0=(23,⟨⟨l,B0⟩,k,x⟩):=by unfold CW.run;simp only;rw[S1 L]
  rw[e1];exact R2 func453 O (N1 (J _ _ _ _ (h.g [0,3] O)) λw h=>Q5 ⟨rfl,h.g [0,2,3] O⟩)
end
theorem sI{P Q:Prop}(q:Q)(f:Q->P:=by intro q;exact R2 func173 O (I2 h O λb1 w h=>I2 h O λb2 w h=>sv [0,1,2,4,3,5,6,7,8,9,10,11] (q b1 b2 w h))):P:=f q
theorem XU{P Q:Prop}(q:Q)(f:Q->P:=by intro q;exact U0 h 2 O O (U0 h 1 O O (RD.Ed wm h 5 O _ Zb9 λp1 h=>N1 (hM _ _ _ _ _ _ (h.g [4,6] O)) λw h=>m5 (m5 (q p1 w h))))):P:=f q
theorem acp{P Q:Prop}(q:Q)(f:Q->P:=by intro q;exact R2 func169 O (WR.W (U0 h 0 O O (N1 (kJ h) λw h=>BR.not (BR.s9 Zb9 (U0 h 0 O O (RD.tn wm h 2 O _ Zb9 (m5 (I2 h O λb1 w h=>U0 h 1 O O (A4.Wq (⟨J0,bg,0,0,false,false,false⟩:E6) wm (h.g [3] O) tx Zb9 O O O λw h=>q b1 w h)))))))))):P:=f q
theorem abz{P:Prop}(h:P:=by replace h:=Hp.F6 ‹_› (h.g [2,3] O);exact⟨rfl,h.q 6 [1,5,2,0] O⟩):P:=h
section
theorem ahy{bg:Int}{n j i:Value}{B0:List (Int×E6)}{J0:BitVec 16}(h:Hp c w (bk b [n,I me,j,Pt pk,.map (some m),i] 162::T2 pk s::mr I r5 m B0::R)):Cr 169 #[Pt b,I tx,gb J0,I bg,I C0] w c (I (d4.V2 ⟨me,l,s,B0⟩ tx J0 bg C0).1) (bk b [n,I me,j,Pt pk,.map (some m),i] 162::T2 pk (d4.V2 ⟨me,l,s,B0⟩ tx J0 bg C0).2.U1::mr I r5 m (d4.V2 ⟨me,l,s,B0⟩ tx J0 bg C0).2.B0::R):=by
 by_cases d:Qe (W J0) me=false
 ·have a:d4.V2 ⟨me,l,s,B0⟩ tx J0 bg C0=(0,⟨me,l,s,B0⟩):=by unfold d4.V2;rw[S1 d]
  rw[a];exact R2 func169 O (WR.W (U0 h 0 O O (N1 (kJ h) λw h=>BR.not (BR.no Zb9 ⟨rfl,h⟩))))
 ·have t:Qe (W J0) me=true:=by simpa using d
  cases e:K0 B0 tx with
  |some r=>
   have a:d4.V2 ⟨me,l,s,B0⟩ tx J0 bg C0=(0,⟨me,l,s,R1 B0 tx {r with I1:=bg}⟩):=by unfold d4.V2;rw[V0 d];simp only[e]
   rw[a];refine R2 func169 O (WR.W (U0 h 0 O O (N1 (kJ h) λw h=>BR.not (BR.s9 Zb9 (U0 h 0 O O (RD.Ed wm h 2 O _ Zb9 λp h=>Q5 ?_))))));replace h:=h.L7;refine J3 h 0 O O O λw h=>?_;replace h:=Hp.Z5 h;replace h:=h.V';exact⟨rfl,h.g [1,2] O⟩
  |none=>
   by_cases o:bg=C0
   ·have a:d4.V2 ⟨me,l,s,B0⟩ tx J0 bg C0=((s.I1 tx).1,⟨me,l,(s.I1 tx).2,R1 B0 tx ⟨J0,bg,0,0,false,false,decide ((s.I1 tx).1=0)⟩⟩):=by
     unfold d4.V2;rw[V0 d];simp only[e];rw[V0 (λk=>k o)]
    rw[a];refine acp λb1 w h=>?_;refine Mj (U0 h 2 O O (N1 (ahe (h.g [3] O)) λw h=>J3 h 2 O O O λw h=>?_));replace h:=Hp.Z5 (h.g [2] O);replace h:=(h.g [0,2] O).V';refine⟨rfl,Hp.subst (h.g [2,1] O) ?_⟩;first|(rw[qe];done)|(rw[qe];rfl)
   ·have a:d4.V2 ⟨me,l,s,B0⟩ tx J0 bg C0=(0,⟨me,l,s,R1 B0 tx ⟨J0,bg,0,0,false,false,false⟩⟩):=by
     unfold d4.V2;rw[V0 d];simp only[e];rw[S1 o]
    rw[a];refine acp λb1 w h=>?_;refine xq ?_;replace h:=Hp.Z5 (h.g [1] O);replace h:=h.V';refine⟨rfl,Hp.subst (h.g [1,2] O) ?_⟩;simp[qe]
theorem ahv{kp:Nat}{i e:Value}{B0:List (Int×E6)}{op:Op}(h:Hp c w (bk b [Pt kp,I me,i,Pt pk,.map (some m),e] 162::T2 pk s::K1 kp k::mr I r5 m B0::R))(hs:SS n s)(K:n<=20000000)(E:F8 k.D0.A0 k.D0.F0 k.D0.L0):Cr 173 #[Pt b,op.v,I C0] w c (Rep.v' (d4.t7 ⟨me,l,s,B0⟩ k.D0 op C0).1) (bk b [Pt kp,I me,i,Pt pk,.map (some m),e] 162::T2 pk (d4.t7 ⟨me,l,s,B0⟩ k.D0 op C0).2.U1::K1 kp k::mr I r5 m (d4.t7 ⟨me,l,s,B0⟩ k.D0 op C0).2.B0::R):=by
 obtain⟨H,J,M,L⟩:=E;have hM:=λ(w:World)(i u t e:Value)(R:List HP)(h:Hp c w (bk b [Pt kp,I me,i,u,t,e] 162::K1 kp k::R))=>KS (C0:=C0) h m4;have C:=λ(w:World)(R:List HP)(h:Hp c w (T2 pk s::R))=>ahb (op:=op) (C0:=C0) h hs.sb hs.BK m4;by_cases d:k.D0.K6 C0=me
 ·rw[Si d]at hM;cases o:K0 B0 op.tx with
  |none=>
   have a:d4.t7 ⟨me,l,s,B0⟩ k.D0 op C0=(⟨12,X0⟩,⟨me,l,s,B0⟩):=by unfold d4.t7;rw[V0 (λk=>k d)];simp only[o]
   rw[a];refine sI λb1 b2 w h=>?_;replace h:=h.drew;exact U0 h 2 O O (U0 h 1 O O (RD.tn wm h 5 O _ Zb9 (N1 (hM _ _ _ _ _ _ (h.g [2,4] O)) λw h=>m5 (Q5 (J3 h 2 O O O λw h=>O4 h 2 O O ⟨rfl,h.q 6 [0,4,1,5] O⟩)))))
  |some r=>
   have x:=λ(D:Nat)(w:World)(i u t e:Value)(R:List HP)(h:Hp c w (bk b [Pt kp,I me,i,u,t,e] 162::K1 kp k::r5 D r::R))=>MZ (C0:=C0) h m4 m4;by_cases p:r.z7=true
   ·have a:d4.t7 ⟨me,l,s,B0⟩ k.D0 op C0=(⟨19,X0⟩,⟨me,l,s,B0⟩):=by unfold d4.t7;rw[V0 (λk=>k d)];simp only[o];rw[S1 (.inl p)]
    rw[a];refine sI λb1 b2 w h=>?_;replace h:=h.drew;refine XU λp1 w h=>?_;replace h:=(h.g [2] O).L7;refine U0 h 0 O O (BR.s9 Zb9 (Q5 (J3 h 4 O O O λw h=>O4 h 4 O O ?_)));replace h:Hp _ _ (r5 _ (r)::_):=Hp.Z5 h;replace h:=Hp.F6 Zb9 (h.g [0,3] O);exact⟨rfl,h.q 6 [1,5,2,0] O⟩
   ·generalize A:Decidable.decide (C0>=k.D0.M8 r.I1)=q at x;by_cases j:q=true
    ·subst j;have a:d4.t7 ⟨me,l,s,B0⟩ k.D0 op C0=(⟨19,X0⟩,⟨me,l,s,B0⟩):=by unfold d4.t7;rw[V0 (λk=>k d)];simp only[o];rw[S1 (.inr (Vn A))]
     rw[a];refine sI λb1 b2 w h=>?_;replace h:=h.drew;refine XU λp1 w h=>?_;replace h:=(h.g [2] O).L7;refine U0 h 0 O O (BR.O' (λj=>?_) λj=>?_)
     ·refine Q5 (J3 h 4 O O O λw h=>O4 h 4 O O ?_);grind[]
     ·replace h:Hp _ _ (r5 p1 r::_):=Hp.Z5 h;refine N1 (x _ _ _ _ _ _ _ (h.g [1,2] O)) λw h=>Q5 (J3 h 4 O O O λw h=>O4 h 4 O O ?_);exact abz
    ·have j:q=false:=by simpa using j
     subst j;obtain⟨y,z⟩:∃y,s.t7 op C0=y:=⟨_,rfl⟩;have a:d4.t7 ⟨me,l,s,B0⟩ k.D0 op C0=(y.1,⟨me,l,y.2,B0⟩):=by unfold d4.t7;rw[V0 (λk=>k d)];simp only[o];rw[V0 (λk=>k.elim p (wE A)),z]
     rw[a];rw[z]at C;refine sI λb1 b2 w h=>?_;replace h:=h.drew;refine XU λp1 w h=>?_;replace h:=(h.g [2] O).L7;refine U0 h 0 O O (BR.O' (λF=>?_) λF=>?_)
     ·refine Q5 (J3 h 4 O O O λw h=>O4 h 4 O O ?_);grind[]
     ·replace h:Hp _ _ (r5 p1 r::_):=Hp.Z5 h;refine N1 (x _ _ _ _ _ _ _ (h.g [1,2] O)) λw h=>m5 (Y6 h [0,1,2,5,3,54,106,107] λh=>U3 0 O O (O4 h 5 O O ⟨h,N1 (C _ _ (h.g [6] O)) λw h=>J3 h 5 O O O λw h=>O4 h 5 O O ?_⟩));replace h:=Hp.F6 Zb9 (h.g [3,4] O);exact⟨rfl,h.q 6 [2,1,3,0] O⟩
 ·rw[Em d]at hM;have a:d4.t7 ⟨me,l,s,B0⟩ k.D0 op C0=(⟨23,X0⟩,⟨me,l,s,B0⟩):=by unfold d4.t7;rw[S1 d]
  rw[a];refine sI λb1 b2 w h=>?_;replace h:=h.drew;refine U0 h 2 O O (U0 h 1 O O (RD.Fv wm h 5 O _ (λp=>?_) λG p1 p h=>?_))
  ·exact N1 (hM _ _ _ _ _ _ (h.g [2,4] O)) λw h=>Q5 (J3 h 2 O O O λw h=>O4 h 2 O O ⟨rfl,h.q 6 [0,4,1,5] O⟩)
  ·refine N1 (hM _ _ _ _ _ _ (h.g [4,6] O)) λw h=>Q5 (J3 h 4 O O O λw h=>O4 h 4 O O ?_);exact abz
end
theorem aco{P Q:Prop}(q:Q)(f:Q->P:=by intro q;exact jd h 2 O λb5 o5 iA=>Oa.sl h 2 O iA hy (I2 h O λb4 w h=>J3 h 0 O O O λw h=>U0 h 0 O O (BR.no Zb9 (U0 h 0 O O (U0 h 0 O O (q b5 o5 iA b4 w h)))))):P:=f q
theorem acH{p:Z1}{n:Int}{y:xf}(h:jn p n=some y):y.n=n:=by grind[jn]
theorem yK(p:Z1):∀l:List Int,((l.filterMap (jn p)).map (·.n)).Sublist l
 |[]=>List.Sublist.slnil
 |n::l=>by
  rw[List.filterMap_cons];cases h:jn p n with
  |none=>exact(yK p l).cons n
  |some y=>simp only[List.map_cons];rw[acH h];exact(yK p l).cons_cons n
theorem AA(S0:List A5):((P6 S0).L5.map (·.n)).Nodup:=by have a:(P6 S0).L5=(T3 (Tb S0).G0).filterMap (jn (Tb S0)):=rfl;rw[a];exact(yK _ _).nodup ((i4 _).nodup_iff.mpr (Pp S0))
theorem xo(S0:List A5):(P6 S0).L5.length<=S0.length∧∀x∈(P6 S0).L5,x.K2.length<=S0.length:=by
 obtain⟨a,_⟩:=Hr S0 S0.length (V7 _);rw[jg]at a;have a:(Tb S0).iF S0.length:=a;constructor
 ·have f:(P6 S0).L5=(T3 (Tb S0).G0).filterMap (jn (Tb S0)):=rfl;rw[f];refine j9 (Ez _ _) ?_;rw[(i4 _).length_eq,H7];exact a.H'
 ·intro x b;obtain⟨w,e,_,d⟩:=Md.1 b;rw[d];simp only;have c:(Z2 w.K2).length=w.K2.length:=by unfold Z2;rw[(H5 _).length_eq,H7]
  rw[c];exact a.G0 _ _ e
structure SE(p:d4)(l:N7)(me:Int)(done:List xf):Prop where
 ss:SS (64+2048*p.U1.G0.length) p.U1
 B0:∀j r,K0 p.B0 j=some r->j∈done.map (·.n)
 X9:p.X9=l
 me:p.me=me
 len:p.B0.length<=p.U1.G0.length
theorem SE.step{done:List xf}(h:SE p l me done){x:xf}(c:x.K2.length<=2048)(d:x.T1=false)(h0:(p.U1.i7 x.n x.K2).1=0):SE {p with U1:=(p.U1.i7 x.n x.K2).2,B0:=R1 p.B0 x.n ⟨x.J0,0,1,0,true,false,false⟩} l me (done++[x]):=by
 obtain⟨g,b,_⟩:=h.ss.i7 x.n x.K2;have b:=b h0;refine⟨?_,λj r a=>?_,h.X9,h.me,?_⟩
 ·show SS (64+2048*(p.U1.i7 x.n x.K2).2.G0.length) _;grind[SS.up]
 ·rw[ic,rh];by_cases e:j=x.n
  ·simp[*]
  ·have a:K0 (R1 p.B0 x.n _) j=some r:=a;grind[Y0,B0]
 ·have:=qh (xs:=p.B0) (k:=x.n) (v:=(⟨x.J0,0,1,0,true,false,false⟩:E6));have f:=h.len;grind
theorem SE.skip{done:List xf}(h:SE p l me done)(x:xf):SE p l me (done++[x]):=
 ⟨h.ss,λj r a=>by grind[B0],h.X9,h.me,h.len⟩
theorem By{a:Type}{l:List a}{i:Nat}{x:a}(h:i3 l i=some x):l.drop i=x::l.drop (i+1):=by grind[Z0,List.drop_eq_getElem_cons]
theorem UC{x:xf}{l:List xf}(a:x.T1=true):(x::l).foldl Da (some p)=l.foldl Da (some p)∧Wc p (x::l)=Wc p l:=by simp_all[Da,Wc]
theorem WC{x:xf}{l:List xf}(a:x.T1=false)(h:¬(p.U1.i7 x.n x.K2).1=0):(x::l).foldl Da (some p)=none∧Wc p (x::l)=(p.U1.i7 x.n x.K2).1:=by simp_all[Da,gj,Wc]
theorem VC{x:xf}{l:List xf}(a:x.T1=false)(h:(p.U1.i7 x.n x.K2).1=0):(x::l).foldl Da (some p)=l.foldl Da (some {p with U1:=(p.U1.i7 x.n x.K2).2,B0:=R1 p.B0 x.n ⟨x.J0,0,1,0,true,false,false⟩})∧Wc p (x::l)=Wc {p with U1:=(p.U1.i7 x.n x.K2).2,B0:=R1 p.B0 x.n ⟨x.J0,0,1,0,true,false,false⟩} l:=by simp_all[Da,Wc]
section
theorem ahW{kb:Nat}{R0:Int}{x:U2}{v:N7}{S0:List A5}(h:Hp c w (K1 kb k::M1 d x::R))(T:s6 x v S0)(Bt:0<=me∧me<k.D0.A0):Cs 122 #[Pt kb,I me,I R0,Pt d] w (λe w'=>match d4.new me R0 x with
 |none=>e= .returned (.tuple #[.pointer none,I (Bj me R0 x)])∧Hp c w' (K1 kb k::M1 d x::R)
 |some p=>∃b,e= .returned (.tuple #[Pt b,I 0])∧Hp c w' (B7 kb d 0 b p::K1 kb k::M1 d x::R)):=by
 have zm:=T.sj.size;have S:=T.few;have V:=T.Y9;obtain⟨PZ,bP⟩:=xo S0;have zk:=AA S0;have hO:=λ(w:World)(R:List HP)(h:Hp c w (M1 d x::R))=>KR h m4 V;have J:d4.new me R0 x=(match E1.new R0 (P6 S0).N0 with
  |none=>none
  |some s=>(P6 S0).L5.foldl Da (some ⟨me,v,s,[]⟩)):=by unfold d4.new;rw[V];rfl
 have H:Bj me R0 x=(match E1.new R0 (P6 S0).N0 with
  |none=>Nf R0
  |some s=>Wc ⟨me,v,s,[]⟩ (P6 S0).L5):=by unfold Bj;rw[V];rfl
 rw[J,H];clear J H;obtain⟨N0,Am⟩:∃N0,(P6 S0).N0=N0:=⟨_,rfl⟩;obtain⟨t,bK⟩:∃t,(P6 S0).L5=t:=⟨_,rfl⟩;have Z:=λ(w:World)(a:Option Addr)(cap:Nat)(hs:Sx za w a S0.length cap S0)=>acT hs m4;rw[Am,bK]at Z;rw[bK]at PZ bP zk⊢;rw[Am];have fX:N0.length<=100000000:=by
  obtain⟨F,_⟩:=Hr S0 S0.length (V7 _);rw[jg]at F;have h2:N0.length<=S0.length*S0.length:=by rw[<-Am];exact F.N0
  have h3:S0.length*S0.length<=2048*2048:=zq S S;omega
 obtain⟨o,L⟩:∃o,E1.new R0 N0=o:=⟨_,rfl⟩;have hN:=λ(w:World)(a:Option Addr)(cap:Nat)(hs:Sx F2 w a N0.length cap N0)=>ahA (R0:=R0) hs fX;rw[L]at hN;have hse:¬Nf R0=0:=by unfold Nf;split<;>decide
 cases o with
 |none=>simp only[L];refine R2 func122 O (Te (pg h.d5 λC7 E7 D5 D7 h=>N1 (Qz h) λw h=>Te ?_));replace h:Hp _ _ (K1 kb k::_):=Hp.F3 h;refine xb (hO _ _ (h.g [1] O)) ?_;rintro _ w ⟨pl,ar,cr,rfl,h⟩;refine m5 (xb (Z _ _ _ (h.Z4 1 O)) ?_);rintro _ w ⟨ab1,cb1,dQ,bQ,L5,rfl,Ei,C⟩;replace h:=h.H6 C;refine I2 h O λb1 w h=>J3 h 0 O O O λw h=>U0 h 0 O O (N1 (hN _ _ _ (h.Z4 1 O)) λw C=>?_);replace h:=h.H6 C;exact xq ⟨rfl,h.q 8 [7,6] O⟩
 |some N=>
  simp only[L];obtain⟨alM,hw0⟩:=SS.new L;obtain⟨M,Zz⟩:∃M,t.foldl Da (some ⟨me,v,N,[]⟩)=M:=⟨_,rfl⟩;obtain⟨er,her⟩:∃er,Wc ⟨me,v,N,[]⟩ t=er:=⟨_,rfl⟩;rw[Zz,her];refine R2 func122 O (Te (pg h.d5 λC7 E7 D5 D7 h=>N1 (Qz h) λw h=>Te ?_));replace h:Hp _ _ (K1 kb k::_):=Hp.F3 h;refine xb (hO _ _ (h.g [1] O)) ?_;rintro _ w ⟨pl,ar,cr,rfl,h⟩;refine m5 (xb (Z _ _ _ (h.Z4 1 O)) ?_);rintro _ w ⟨ab1,cb1,dQ,bQ,L5,rfl,Ei,C⟩;replace h:=h.H6 C;refine I2 h O λb1 w h=>J3 h 0 O O O λw h=>U0 h 0 O O (He (hN _ _ _ (h.Z4 1 O)) λpk w C=>?_);replace h:=h.H6 C;refine m5 (A4.Xp I Pt h λb2 w h=>I2 h O λb3 w h=>U0 h 3 O O ?_);replace h:=(h.q 11 [1,0,2,5,6,7,9,10] O).yn (R:=r5);have qd:L5.length=t.length:=by rw[<-Ei,H7]
  refine p5.A6 kn [14,15,57,58,59] (λm vs w'=>∃(i:Int)(p:d4),vs=[Pt pk,Pt b3,.slice dQ L5.length bQ,I L5.length,I i]∧(0<=i∧i+m=L5.length)∧SE p v me (t.take i.toNat)∧(M=(t.drop i.toNat).foldl Da (some p)∧er=Wc p (t.drop i.toNat))∧Hp c w' (T2 pk p.U1::mr I r5 b2 p.B0::so 260 Hq dQ bQ L5::wr L5::bk b3 [Pt kb,I me,Pt pl,Pt pk,.map (some b2),.slice none 0 0] 162::J5 d pl v::M1 d x::K1 kb k::R)) L5.length ⟨0,⟨me,v,N,[]⟩,rfl,m4,⟨Zb6,λj r X=>(by cases X),rfl,rfl,ye _⟩,⟨Zz.symm,her.symm⟩,h.g [2,0,3,4] rfl⟩ ?_;rintro m _ w1 e0 ⟨i,p,rfl,hm,u,⟨z,A⟩,h⟩;refine BR.T5 (λg1=>?_) λg1=>?_
  ·obtain⟨y,hy⟩:∃y,i3 L5 i.toNat=some y:=⟨L5[i.toNat],by rw[Z0,d8]⟩;have hyr:i3 t i.toNat=some y.tx:=by rw[<-Ei,Z0,We];rw[Z0]at hy;rw[hy];rfl
   have DB:t.drop i.toNat=y.tx::t.drop (i.toNat+1):=By hyr;have K:=O7 hyr;have ei:(i+1).toNat=i.toNat+1:=m4
   rw[<-ei]at DB K;have Fe:y.tx∈t:=by rw[Z0]at hyr;exact wv hyr
   have hyw:y.K2.length<=2048:=j9 (bP _ Fe) S;rw[DB]at z A;cases G:y.T1 with
   |true=>
    obtain⟨E,D⟩:=UC (p:=p) (x:=y.tx) (l:=t.drop (i+1).toNat) G;rw[E]at z;rw[D]at A;have u:=u.skip y.tx;rw[<-K]at u;refine jd h 2 O λb5 o5 iA=>Oa.sl h 2 O iA hy (I2 h O λb4 w h=>J3 h 0 O O O λw h=>U0 h 0 O O (BR.s9 Zb9 (i5 ?_)));subst Zz;subst A;refine⟨(m-1),?_,_,_,rfl,?_,?_,?_,h.q 9 [1,2,3,4,5,6,7,8] O⟩
    ·omega
    ·omega
    ·assumption
    ·grind[]
   |false=>
    by_cases g0:(p.U1.i7 y.n y.K2).1=0
    ·obtain⟨E,D⟩:=VC (p:=p) (x:=y.tx) (l:=t.drop (i+1).toNat) G g0;rw[E]at z;rw[D]at A;have hnn:K0 p.B0 y.n=none:=by
      cases X:K0 p.B0 y.n with
      |none=>rfl
      |some r=>
       have F:=u.B0 _ _ X;have h2:((t.take i.toNat++[y.tx]).map (·.n)).Nodup:=by rw[<-K];exact(List.Sublist.map _ (List.take_sublist _ _)).nodup zk
       rw[ic,Dq]at h2;exact absurd O (h2.2.2 _ F y.n (by simp;rfl))
     have aP:=u.step (x:=y.tx) hyw G g0;rw[<-K]at aP;have Y:=λ(w:World)(R:List HP)(h:Hp c w (T2 pk p.U1::so 157 F2 y.a y.cap y.K2::R))=>iZ (tx:=y.n) h u.ss.sb u.ss.BK (by have:=u.ss.H';omega) m4;refine aco λb5 o5 iA b4 w h=>?_;replace h:=Hp.rf (f:=Dd.mem) (l:=L5) (i:=i.toNat) (x:=y) (h.g [4] O) hy;refine N1 (Y _ _ (h.g [3] O)) λw h=>?_;replace h:Hp _ _ (wr L5::_):=Hp.ij (f:=Dd.mem) (x:=y) (h.g [1,2] O) hy;refine Mj (Y6 h [0,1,2,4,6,3,5,57,8,59,110] λh=>U3 5 O O (U3 2 O O (U0 h 2 O O ⟨h,I2 h O λb6 w h=>⟨h.q 10 [1,2,3,4,5,6,7,8,9] O,?_⟩⟩)));replace h:=Hp.Z5 h;exact A4.lG wm (h.g [4] O) _ Zb9 O O O λw h=>i5 ⟨m-1,m4,i+1,{p with U1:=(p.U1.i7 y.n y.K2).2,B0:=R1 p.B0 y.n ⟨y.J0,0,1,0,true,false,false⟩},rfl,m4,aP,⟨z,A⟩,h.q 9 [2,0,4,1,5,6,7,8] O⟩
    ·obtain⟨E,D⟩:=WC (p:=p) (x:=y.tx) (l:=t.drop (i+1).toNat) G g0;rw[E]at z;rw[D]at A;subst z A;have Y:=λ(w:World)(R:List HP)(h:Hp c w (T2 pk p.U1::so 157 F2 y.a y.cap y.K2::R))=>iZ (tx:=y.n) h u.ss.sb u.ss.BK (by have:=u.ss.H';omega) m4;refine aco λb5 o5 iA b4 w h=>?_;replace h:=Hp.rf (f:=Dd.mem) (l:=L5) (i:=i.toNat) (x:=y) (h.g [4] O) hy;refine N1 (Y _ _ (h.g [3] O)) λw h=>?_;replace h:Hp _ _ (wr L5::_):=Hp.ij (f:=Dd.mem) (x:=y) (h.g [1,2] O) hy;exact xq ⟨rfl,h.q 9 [8,7] O⟩
  ·have e:t.drop i.toNat=[]:=Dz m4;rw[e]at z;obtain⟨pm,plg,pks,anl⟩:=p;have J:plg=v:=u.X9;have H:pm=me:=u.me;subst J H z;refine⟨b3,rfl,?_⟩;replace h:=(h.q 8 [4,5,0,1,7,6] O).G4 55 j8;replace h:=Hp.T' (p:=([]:List P9).length<=0) (V7 0) h;exact Hp.yf (Hd:=[]) (h.g [2,3,4,5,1] O)
end
def dm(A0:Int)(B0:List (Int×T4))(x:xf):List (Int×T4):=if x.T1 then R1 B0 x.n {T4.new A0 x.J0 0 with N2:=2,need:=x.J0}else B0
theorem UT{A0:Int}{x:xf}{j:Int}(h:K0 (dm A0 B0 x) j=some r):K0 B0 j=some r∨j=x.n:=by
 unfold dm at h;split at h
 ·by_cases e:j=x.n
  ·exact .inr e
  simp_all[Y0]
 grind
theorem OH(A0:Int)(B0:List (Int×T4))(x:xf):(dm A0 B0 x).length<=B0.length+1:=by grind[dm,qh]
section
theorem ahX{kb:Nat}{x:U2}{v:N7}{S0:List A5}(h:Hp c w (K1 kb k::M1 d x::R))(A:s6 x v S0)(hp:1<=k.D0.A0∧k.D0.A0<=6):Cs 121 #[Pt kb,Pt d] w (λe w'=>match D8.new k.D0.A0 x with
 |none=>False
 |some p=>∃b,e= .returned (.tuple #[Pt b,I 0])∧Hp c w' (r6 kb d b p::K1 kb k::M1 d x::R)):=by
 have zm:=A.sj.size;have mq:=A.few;have J:=A.Y9;obtain⟨PZ,bP⟩:=xo S0;have H:=AA S0;have hO:=λ(w:World)(R:List HP)(h:Hp c w (M1 d x::R))=>KR h m4 J;have N:D8.new k.D0.A0 x=some ⟨v,(P6 S0).L5.foldl (dm k.D0.A0) []⟩:=by unfold D8.new;rw[J];rfl
 rw[N];clear N;obtain⟨o,T⟩:∃o,(P6 S0).L5=o:=⟨_,rfl⟩;have K:=λ(w:World)(a:Option Addr)(cap:Nat)(hs:Sx za w a S0.length cap S0)=>acT hs m4;rw[T]at K;rw[T]at PZ bP H⊢;obtain⟨t,F⟩:∃t,o.foldl (dm k.D0.A0) []=t:=⟨_,rfl⟩;simp only[F];refine R2 func121 O (xb (hO _ _ (h.g [1] O)) ?_);rintro _ w ⟨pl,ar,cr,rfl,h⟩;refine m5 (A4.Xp I Pt h λb1 w h=>I2 h O λb2 w h=>xb (K _ _ _ (h.Z4 3 O)) ?_);rintro _ w ⟨ab1,cb1,Q,S,L5,rfl,V,h'⟩;replace h:=h.H6 h';replace h:=(h.q 9 [4,1,2,3,5,7,8] O).yn (R:=M5);have qd:L5.length=o.length:=by rw[<-V,H7]
 refine p5.A6 kn [9,29,30,31] (λm vs w'=>∃(i:Int)(B0:List (Int×T4)),vs=[Pt b2,.slice Q L5.length S,I L5.length,I i]∧(0<=i∧i+m=L5.length)∧B0.length<=i∧(∀j r,K0 B0 j=some r->j∈(o.take i.toNat).map (·.n))∧t=(o.drop i.toNat).foldl (dm k.D0.A0) B0∧Hp c w' (mr I M5 b1 B0::so 260 Hq Q S L5::wr L5::bk b2 [Pt kb,Pt pl,.map (some b1)] 321::J5 d pl v::M1 d x::K1 kb k::R)) L5.length ⟨0,[],rfl,m4,lm 0,(λj r s=>(by cases s)),F.symm,h⟩ ?_;rintro m _ w1 e0 ⟨i,B0,rfl,hm,TP,Y,f,h⟩;refine BR.T5 (λD=>?_) λD=>?_
 ·obtain⟨y,u⟩:∃y,i3 L5 i.toNat=some y:=⟨L5[i.toNat],by rw[Z0,d8]⟩;have hyr:i3 o i.toNat=some y.tx:=by rw[<-V,Z0,We];rw[Z0]at u;rw[u];rfl
  have X:o.drop i.toNat=y.tx::o.drop (i.toNat+1):=By hyr;have G:=O7 hyr;have ei:(i+1).toNat=i.toNat+1:=m4
  rw[<-ei]at X G;rw[X,Ti]at f;have E:∀j r,K0 (dm k.D0.A0 B0 y.tx) j=some r->j∈(o.take (i+1).toNat).map (·.n):=by
   intro j r s;rw[G,ic,rh];rcases UT s with C|C
   ·simp_all
   ·simp[*]
  have aec:(dm k.D0.A0 B0 y.tx).length<=i+1:=by have:=OH k.D0.A0 B0 y.tx;omega
  cases M:y.T1 with
  |false=>
   have hy0:dm k.D0.A0 B0 y.tx=B0:=by unfold dm;rw[V0];show¬y.T1=true;rw[M];decide
   rw[hy0]at f E aec;refine jd h 1 O λb5 Z z=>Oa.sl h 1 O z u (I2 h O λb3 w h=>J3 h 0 O O O λw h=>U0 h 0 O O (BR.no Zb9 (i5 ?_)));subst f;refine⟨(m-1),?_,_,_,rfl,?_,?_,?_,rfl,h.q 8 [1,2,3,4,5,6,7] O⟩
   ·omega
   ·omega
   ·assumption
   ·assumption
  |true=>
   have hy0:dm k.D0.A0 B0 y.tx=R1 B0 y.n {T4.new k.D0.A0 y.J0 0 with N2:=2,need:=y.J0}:=by unfold dm;rw[S1];rfl;exact M
   have hnn:K0 B0 y.n=none:=by
    cases s:K0 B0 y.n with
    |none=>rfl
    |some r=>
     have C:=Y _ _ s;have L:((o.take i.toNat++[y.tx]).map (·.n)).Nodup:=by rw[<-G];exact(List.Sublist.map _ (List.take_sublist _ _)).nodup H
     rw[ic,Dq]at L;exact absurd O (L.2.2 _ C y.n (by simp;rfl))
   rw[hy0]at f E aec;have hRw:=λ(w:World)(R:List HP)(h:Hp c w (bk b2 [Pt kb,Pt pl,.map (some b1)] 321::K1 kb k::R))=>jZ (J0:=y.J0) (bg:=0) h hp;obtain⟨r0,RW⟩:∃r0,T4.new k.D0.A0 y.J0 0=r0:=⟨_,rfl⟩;rw[RW]at hRw f E aec;obtain⟨J0,tl,dn,nd,bg,dc,V3,wn,en⟩:=r0;refine jd h 1 O λb5 Z z=>Oa.sl h 1 O z u (I2 h O λb3 w h=>J3 h 0 O O O λw h=>U0 h 0 O O (BR.s9 Zb9 (U0 h 0 O O (He (hRw _ _ (h.g [4,7] O)) λp w h=>wg h.w5 λP4 D3 h=>?_))));simp only at h;refine ja.D0 kn o8 (λw'=>Hp _ w' ((sf λl=>bk p l 325)::_)) (qs [0,1,2,4,5,3] (ws [6] (qs [7,8] (vs [9] .done)))) Zb2 (Hp.Jm h.drew) ?_;replace h:=h.drew;refine U3 4 O O (J3 h 0 O O O λw h=>⟨Hp.Jm h,J3 h 0 O O O λw h=>Y6 h [0,1,2,4,6,3,55,107] λh=>U3 2 O O (U0 h 4 O O ⟨h,?_⟩)⟩);replace h:=Hp.E3 h;refine A4.lG eb (h.g [4] O) _ Zb9 O O O λw h=>i5 ?_;simp only[D,if_true,if_false,ite_true,ite_false,or_self,or_true,true_or,or_false,false_or,and_self,and_true,true_and,and_false,false_and,not_true_eq_false,not_false_eq_true,Bool.not_true,Bool.not_false,Bool.false_eq_true,reduceCtorEq,↓reduceIte]at f;subst f;refine⟨(m-1),?_,_,_,rfl,?_,?_,?_,rfl,h.q 8 [0,4,5,1,6,7,2] O⟩
   ·omega
   ·omega
   ·assumption
   ·assumption
 ·have e:o.drop i.toNat=[]:=Dz m4;rw[e]at f;have f:t=B0:=f;subst f;subst F;simp[D]at f;obtain⟨rfl,rfl⟩:=f;replace h:=Hp.yh (h.g [3,4] O);exact⟨_,rfl,h.q 5 [0,4,3] O⟩
end
end Go.Proofs.YtaaihojmcfaejaaGreatDoor
