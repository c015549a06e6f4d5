/- Lemmas for the tops: the walk of the house and its laws. No condition is added. -/
import Derived.Test.YtaaihojmcfaejaaGreatDoorQax
import Derived.Test.YtaaihojmcfaejaaGreatDoorQah
import Derived.Test.YtaaihojmcfaejaaGreatDoorQaf
import Derived.Test.YtaaihojmcfaejaaGreatDoorQaw
set_option linter.all false
namespace Go.Proofs.YtaaihojmcfaejaaGreatDoor
open Go Go.RowKit Tryz
variable{C:D8}{s:E1}{C0 R0 d e me tx w_:Int}{k:J2}{B0:List (Int×T4)}{L R:List HP}{m:Method}{l:N7}{M N b cb cp i mm n:Nat}{ab ap:Option Addr}{ch:Option Nat}{name:String}{t:TypeId}{x:U2}{uj v3 v4 v5 v6 v7 v8 v9:Value}{K:Value->World->Prop}{c w:World}{p:d4}
theorem abr{P:Prop}(h:P:=by replace h:=Hp.E3 h;replace h:=Hp.F6 hr h;exact⟨q-1,by omega,i+1,dQ,bQ,L5,rfl,by omega,hy.symm,h.g [1,2] O⟩):P:=h
def cQ(B0:List (Int×T4))(tx:Int):Option xf:=
 let r:=(K0 B0 tx).getD qj
 if r.N2=2∧r.G'=false then some ⟨tx,r.need,true,[]⟩else none
theorem Oy{y:xf}(h:cQ B0 tx=some y):y.K2=[]:=by grind[cQ]
theorem XT{r:T4}(a:K0 B0 tx=some r)(h:r.N2=2∧r.G'=false):(cQ B0 tx).toList=[⟨tx,r.need,true,[]⟩]:=by simp_all[cQ]
theorem YT{r:T4}(a:K0 B0 tx=some r)(h:¬(r.N2=2∧r.G'=false)):(cQ B0 tx).toList=[]:=by simp_all[cQ]
theorem iG{s:x8}{S0:List A5}(h:s.S0=some S0)(b:s.L5.length<=N)(c:∀x∈s.L5,x.K2.length<=M):S0.length<=1+s.N0.length+N*(M+2):=by
 unfold x8.S0 at h;split at h
 ·cases h
 ·injection h with h;rw[<-h,j7,j7,H7];have e:∀l:List xf,(∀x∈l,x.K2.length<=M)->(l.flatMap λ(x:xf)=>x.S0 s.N0).length<=l.length*(M+2):=by
   intro l;induction l with
   |nil=>intro _;simp
   |cons x l f=>
    intro a;rw[EC,j7,ze,Nat.succ_mul];have d:(x.S0 s.N0).length<=M+2:=by unfold xf.S0;have:=a x (Ka ..);rw[j7,j7,H7];split<;>simp<;>omega
    grind
  have d:=e s.L5 c;have g:s.L5.length*(M+2)<=N*(M+2):=xv _ b;grind
def ckW(l:N7)(B0:List (Int×T4))(k:J2)(x:U2):Option (List A5)->Int×CW
 |none=>(10,⟨⟨l,B0⟩,k,x⟩)
 |some S0=>
  if(l.T0 x S0 0).1=0 then(0,⟨⟨((l.T0 x S0 0).2.1.Z8 (l.T0 x S0 0).2.2).1,B0⟩,k,((l.T0 x S0 0).2.1.Z8 (l.T0 x S0 0).2.2).2⟩)
  else((l.T0 x S0 0).1,⟨⟨(l.T0 x S0 0).2.1,B0⟩,k,(l.T0 x S0 0).2.2⟩)
theorem uX{a b:Type}{l:List a}{f:a->Option b}{n:a}(h:i3 l i=some n):(l.take (i+1)).filterMap f=(l.take i).filterMap f++(f n).toList:=by rw[O7 h,List.filterMap_append];grind
section
variable{a ak B6:Option Addr}{cap Xb cs:Nat}
theorem afA{P:zf}{d pl kb m:Nat}(h:Hp c w (bk b [Pt kb,Pt pl,.map (some m)] 321::J5 d pl l::M1 d x::K1 kb k::mr I M5 m B0::R))(n:CX P mm ⟨⟨l,B0⟩,k,x⟩):Cr 452 #[Pt b,I C0] w c (I (CW.T0 ⟨⟨l,B0⟩,k,x⟩ C0).1) (bk b [Pt kb,Pt pl,.map (some m)] 321::J5 d pl (CW.T0 ⟨⟨l,B0⟩,k,x⟩ C0).2.O1.X9::M1 d (CW.T0 ⟨⟨l,B0⟩,k,x⟩ C0).2.M6::K1 kb k::mr I M5 m B0::R):=by
 have z:=λ(G v2:Value)(w:World)(R:List HP)(h:Hp c w (bk b [Pt kb,G,v2] 321::K1 kb k::R))=>KZ (C0:=C0) h (by have:=n.pl.A0;grind);obtain⟨uZ,Na⟩:=n.lok;have v:=Na.sj;have TP:B0.length<=3000:=n.B0;by_cases Q:k.D0.K6 C0=k.D0.A0
 case neg=>
  have D:CW.T0 ⟨⟨l,B0⟩,k,x⟩ C0=(23,⟨⟨l,B0⟩,k,x⟩):=by unfold CW.T0;rw[S1 Q]
  have S:(k.D0.K6 C0==k.D0.A0)=false:=by simp[Q]
  rw[D];rw[S]at z;exact R2 func452 O (N1 (z _ _ _ _ (h.g [0,3] O)) λw h=>Q5 ⟨rfl,h.g [0,2,3] O⟩)
 case pos=>
  have S:(k.D0.K6 C0==k.D0.A0)=true:=by simp[Q]
  rw[S]at z;obtain⟨K,A⟩:∃K,T3 B0=K:=⟨_,rfl⟩;have aQ:K.length<=3000:=by rw[<-A,(i4 _).length_eq,H7];exact TP
  have hKs:∀tx∈K,tx∈B0.map (·.1):=λtx ht=>(i4 _).mem_iff.mp (A▸ht);have hRo:=λ(v0 G:Value)(w:World)(R:List HP)(h:Hp c w (bk b [v0,G,.map (some m)] 321::mr I M5 m B0::R))=>aR h m4;rw[A]at hRo;obtain⟨o,H⟩:∃o,x8.S0 ⟨[],K.filterMap (cQ B0)⟩=o:=⟨_,rfl⟩;have D:CW.T0 ⟨⟨l,B0⟩,k,x⟩ C0=ckW l B0 k x o:=by unfold CW.T0;rw[V0 Zb6];simp only[A];show(match x8.S0 ⟨[],K.filterMap (cQ B0)⟩with|none=>_|some S0=>_)=_;rw[H];cases o<;>rfl
  rw[D];clear D;refine R2 func452 O (N1 (z _ _ _ _ (h.g [0,3] O)) λw h=>m5 (I2 h O λb1 w h=>ga (hRo _ _ _ _ (h.g [1,5] O)) λa1 V1 w h=>?_));replace h:=(h.G4 260 Hq).SI;replace h:=h.G4 157 F2;refine p5.A6 kn [0,5,17,18,19] (λq vs w'=>∃(i:Int)(X:Option Addr)(ct:Nat)(L5:List Dd),vs=[Pt b,Pt b1,.slice a1 K.length V1,I K.length,I i]∧(0<=i∧i+q=K.length)∧L5.map Dd.tx=(K.take i.toNat).filterMap (cQ B0)∧Hp c w' (so 3 O5 a1 V1 K::bk b [Pt kb,Pt pl,.map (some m)] 321::mr I M5 m B0::bk b1 [.slice none 0 0,.slice X L5.length ct] 192::so 260 Hq X ct L5::wr L5::so 157 F2 none 0 []::K1 kb k::J5 d pl l::M1 d x::R)) K.length ⟨0,none,0,[],rfl,m4,rfl,h.g [3,4,5,6,2,1] O⟩ ?_;rintro q _ w1 e0 ⟨i,dQ,bQ,L5,rfl,hm,t,h⟩;have Tu:L5.length<=i.toNat:=by have s:=V4 List.length t;rw[H7]at s;have L:=Ez (cQ B0) (K.take i.toNat);rw[Ga]at L;omega
  refine BR.T5 (λg2=>?_) λg2=>?_
  ·obtain⟨tx,J⟩:∃tx,i3 K i.toNat=some tx:=⟨K[i.toNat],by rw[Z0,d8]⟩;have hy:=uX (f:=cQ B0) J;have ei:(i+1).toNat=i.toNat+1:=m4
   rw[<-ei,<-t]at hy;obtain⟨r,hr⟩:=ca (hKs tx (by grind[Z0]));by_cases p:r.N2=2∧r.G'=false
   ·rw[XT hr p]at hy;refine jd h 0 O λb5 o1 T=>LD.qf h 0 O T J O (U0 h 1 O O (RD.Ed eb h 2 O tx hr λp1 h=>wg h.w5 λP4 D3 h=>U0 h 0 O O (mf (U0 h 0 O O (BR.not (BR.O' (λC=>?_) λC=>?_))))))
    ·refine i5 ?_;grind[]
    ·refine Y6 h [0,2,3,4,5,1,56,7,58,109,10,111] λh=>U3 5 O O (U0 h 0 O O ⟨h,I2 h O λb2 w h=>⟨h.q 13 [1,2,3,4,5,6,7,8,9,10,11,12] O,A4.Yb (u:=(⟨tx,r.need,true,none,0,[]⟩:Dd)) (Ca.of (w9:=40) kn O O O O O O) h 7 O O 0 O O O m4 (λ_ _=>rfl) λa2 F w h=>J3 h 6 O O O λw h=>i5 ?_⟩⟩);replace h:=(h.q 13 [8,1,2,3,4,5,6,7,9,10,11,12] O).G4 157 F2;replace h:=Hp.JC (x:=⟨tx,r.need,true,none,0,[]⟩) h;replace h:=Hp.E3 (h.g [1,2] O);replace h:=Hp.F6 hr (h.g [0,2] O);exact⟨q-1,m4,i+1,a2,F,L5++[⟨tx,r.need,true,none,0,[]⟩],rfl,m4,by rw[ic];exact hy.symm,h.g [2,3,0,4,5] O⟩
   ·rw[YT hr p,Jb]at hy;refine jd h 0 O λb5 o1 T=>LD.qf h 0 O T J O (U0 h 1 O O (RD.Ed eb h 2 O tx hr λp1 h=>wg h.w5 λP4 D3 h=>U0 h 0 O O (BR.eq (λC=>?_) λC=>?_)))
    ·refine U0 h 0 O O (BR.not (BR.O' (λZ=>?_) λZ=>?_))
     ·refine i5 ?_;exact abr
     ·exact Y6 h [0,2,3,4,5,1,56,7,58,109,10,111] λh=>U3 5 O O (U0 h 0 O O ⟨h,I2 h O λb2 w h=>⟨h.q 13 [1,2,3,4,5,6,7,8,9,10,11,12] O,absurd ⟨C,Z⟩ p⟩⟩)
    ·refine m5 (i5 ?_);exact abr
  ·have e:K.take i.toNat=K:=sd m4;rw[e]at t;have y:=λ(w:World)(R:List HP)(h:Hp c w (so 157 F2 none 0 []::so 260 Hq dQ bQ L5::wr L5::R))=>BY h Zb4 m4 (λx n=>by
    have s:x.tx∈K.filterMap (cQ B0):=by rw[<-t];exact oz n
    obtain⟨tx,_,L⟩:=List.mem_filterMap.1 s;have h3:x.K2=[]:=Oy L;simp[*])
   rw[t,H]at y;cases o with
   |none=>refine O4 h 3 O O (xb (y _ _ (h.g [6,4,5] O)) ?_);rintro _ w ⟨a2,F,l2,rfl,j,h⟩;exact Q5 ⟨rfl,h.q 11 [5,9,10,8,6] O⟩
   |some S0=>
    have QW:S0.length<=10000:=by have s:=iG (N:=3000) (M:=0) H Zb1 (λx n=>by grind[Oy]);simp only[List.length_nil]at s;omega
    have E:=λ(w:World)(a:Option Addr)(cap:Nat)(R:List HP)(h:Hp c w (J5 d pl l::M1 d x::R))(hs:Sx za w a S0.length cap S0)=>AY (O2:=0) h (by have:=v.size;omega) v.X9 hs QW Zb4 (by have:=v.L4;omega);have hOk:=iN (O2:=0) v QW;obtain⟨⟨er,l1,x1⟩,Y⟩:∃V,l.T0 x S0 0=V:=⟨_,rfl⟩;rw[Y]at E hOk;simp only at E hOk;have hF:=λ(w:World)(R:List HP)(h:Hp c w (J5 d pl l1::M1 d x1::R))=>IA h hOk;unfold ckW;simp only[Y];by_cases p:er=0
    ·simp only[if_pos p];refine O4 h 3 O O (xb (y _ _ (h.g [6,4,5] O)) ?_);rintro _ w ⟨a2,F,l2,rfl,j,h⟩;replace j:l2=S0:=j;rw[j]at h⊢;refine m5 (U0 h 5 O O (N1 (E _ _ _ _ (h.g [9,10] O) (h.Z4 0 O)) λw h=>mf (U0 h 7 O O (N1 (IA h Zb9) λw h=>⟨Ya O ?_,h.q 11 [7,0,1,10,8] O⟩))));assumption
    ·simp only[if_neg p];refine O4 h 3 O O (xb (y _ _ (h.g [6,4,5] O)) ?_);rintro _ w ⟨a2,F,l2,rfl,j,h⟩;replace j:l2=S0:=j;rw[j]at h⊢;exact m5 (U0 h 5 O O (N1 (E _ _ _ _ (h.g [9,10] O) (h.Z4 0 O)) λw h=>Wa ⟨rfl,h.q 11 [7,0,1,10,8] O⟩))
end
def YB(s:E1)(B0:List (Int×E6))(tx:Int):Option xf:=if s.N9 tx=3 then some ⟨tx,((K0 B0 tx).getD Cb).J0,false,s.rc tx⟩else none
theorem VT{B0:List (Int×E6)}{r:E6}(a:K0 B0 tx=some r)(h:s.N9 tx=3):(YB s B0 tx).toList=[⟨tx,r.J0,false,s.rc tx⟩]:=by simp_all[YB]
theorem WT{B0:List (Int×E6)}(h:¬s.N9 tx=3):(YB s B0 tx).toList=[]:=by unfold YB<;>grind
theorem SS.rc(h:SS n s)(tx:Int):(s.rc tx).length<=16:=by
 unfold E1.rc;cases a:K0 s.G0 tx with
 |none=>simp
 |some x=>simp only;unfold Z2;rw[(H5 _).length_eq,H7];exact h.I3 _ (Q7 a)
theorem LK(h:SS n s){B0:List (Int×E6)}{y:xf}(e:YB s B0 tx=some y):y.K2.length<=16:=by grind[YB,SS.rc]
theorem vJ{s:x8}{S0:List A5}(h:s.S0=some S0):s.N0.length<=64:=by
 unfold x8.S0 at h;split at h
 ·cases h
 ·rename_i g;have g:s.right=true:=by simpa using g
  unfold x8.right at g<;>grind
def ckQ(me:Int)(l:N7)(s:E1)(B0:List (Int×E6))(k:J2)(x:U2):Option (List A5)->Int×PW
 |none=>(10,⟨⟨me,l,s,B0⟩,k,x⟩)
 |some S0=>
  if(l.T0 x S0 0).1=0 then(0,⟨⟨me,((l.T0 x S0 0).2.1.Z8 (l.T0 x S0 0).2.2).1,s,B0⟩,k,((l.T0 x S0 0).2.1.Z8 (l.T0 x S0 0).2.2).2⟩)
  else((l.T0 x S0 0).1,⟨⟨me,(l.T0 x S0 0).2.1,s,B0⟩,k,(l.T0 x S0 0).2.2⟩)
section
variable{pk b1 b5:Nat}{q:List (Int×Nat×E6)}{pre:List (Int×Nat)}
def CJ(pk b b1 b5:Nat)(ab:Option Addr)(cb:Nat)(s:E1)(q:List (Int×Nat×E6))(pre:List (Int×Nat)):HP:=
 sf λ(g:Option Addr×Nat×List Dd)=>C5 [d6 (g.2.2.map Dd.tx=pre.filterMap λy=>YB s (ks q) y.1),bk b5 [.slice ab s.N0.length cb,.slice g.1 g.2.2.length g.2.1] 192,so 260 Hq g.1 g.2.1 g.2.2,wr g.2.2,T2 pk s,ea r5 (ps q),bk b1 [Pt b] 61]
theorem Hp.PN(h:Hp c w (CJ pk b b1 b5 ab cb s q pre::L)):∃(d:Option Addr)(a:Nat)(L5:List Dd),L5.map Dd.tx=pre.filterMap (λy=>YB s (ks q) y.1)∧Hp c w (bk b5 [.slice ab s.N0.length cb,.slice d L5.length a] 192::so 260 Hq d a L5::wr L5::T2 pk s::ea r5 (ps q)::bk b1 [Pt b] 61::L):=by obtain⟨⟨d,a,L5⟩,h0⟩:=h.ex;obtain⟨f,e⟩:=h0.R6.uf;exact⟨d,a,L5,f,e⟩
theorem Hp.ON{d:Option Addr}{a:Nat}{L5:List Dd}(e:L5.map Dd.tx=pre.filterMap (λy=>YB s (ks q) y.1))(h:Hp c w (bk b5 [.slice ab s.N0.length cb,.slice d L5.length a] 192::so 260 Hq d a L5::wr L5::T2 pk s::ea r5 (ps q)::bk b1 [Pt b] 61::L)):Hp c w (CJ pk b b1 b5 ab cb s q pre::L):=
 Hp.R8 (d,a,L5) (Hp.C3 (A:=[d6 (L5.map Dd.tx=pre.filterMap λy=>YB s (ks q) y.1),bk b5 [.slice ab s.N0.length cb,.slice d L5.length a] 192,so 260 Hq d a L5,wr L5,T2 pk s,ea r5 (ps q),bk b1 [Pt b] 61]) (Hp.T' e h))
end
section
variable{a ak B6:Option Addr}{cap Xb cs:Nat}
theorem agf{d kb pl pk m:Nat}{B0:List (Int×E6)}(h:Hp c w (bk b [Pt kb,I me,Pt pl,Pt pk,.map (some m),v5] 162::J5 d pl l::M1 d x::T2 pk s::K1 kb k::mr I r5 m B0::R))(v:PX n mm ⟨⟨me,l,s,B0⟩,k,x⟩)(hn:n<=19000000):Cr 395 #[Pt b,I C0] w c (I (PW.T0 ⟨⟨me,l,s,B0⟩,k,x⟩ C0).1) (bk b [Pt kb,I me,Pt pl,Pt pk,.map (some m),v5] 162::J5 d pl (PW.T0 ⟨⟨me,l,s,B0⟩,k,x⟩ C0).2.E0.X9::M1 d (PW.T0 ⟨⟨me,l,s,B0⟩,k,x⟩ C0).2.M6::T2 pk s::K1 kb k::mr I r5 m B0::R):=by
 obtain⟨np,kh,Ms,bH⟩:=v.pl;simp only at np kh Ms bH;have Y:=λ(w:World)(v2 v3 v4 v5:Value)(R:List HP)(h:Hp c w (bk b [Pt kb,I me,v2,v3,v4,v5] 162::K1 kb k::R))=>KS (C0:=C0) h m4;by_cases g1:k.D0.K6 C0=me
 case neg=>
  rw[Em g1]at Y;have Z:PW.T0 ⟨⟨me,l,s,B0⟩,k,x⟩ C0=(23,⟨⟨me,l,s,B0⟩,k,x⟩):=by unfold PW.T0;rw[S1 g1]
  rw[Z];exact Fa kn func395 O O (I2 h O λb1 w h=>U0 h 0 O O (N1 (Y _ _ _ _ _ _ (h.g [1,5] O)) λw h=>Q5 (Mz.zero ⟨rfl,h.q 7 [0,3,4,5,1,6] O⟩)))
 case pos=>
  rw[Si g1]at Y;obtain⟨uZ,ajl,_⟩:=v.pt.ok;have Na:s6 x l uZ:=ajl.X9;have Q:=Na.sj;have fT:SS n s:=v.ss;have fX:s.N0.length<=100000000:=by have:=fT.N0;omega
  have hB:=λ(w:World)(R:List HP)(h:Hp c w (T2 pk s::R))=>acY h fX;obtain⟨e,e0,h0⟩:=(h.g [5] rfl).Xc;have TP:B0.length<=80:=v.B0;subst e0;replace h:=h0;clear h0;obtain⟨f,J⟩:∃f,kp e=f:=⟨_,rfl⟩;rw[J]at h;have dF:f.length<=80:=by rw[<-J];simpa [ks,kp] using TP
  have Hi:(ks e).map (·.1)=f.map (·.1):=by rw[<-J];simp[ks,kp,Function.comp_def]
  have hEl:(d9 f).length<=80:=by unfold d9;rw[H7,(i4 _).length_eq,H7];exact dF
  have hfm:(T3 (ks e)).filterMap (YB s (ks e))=(d9 f).filterMap (λy=>YB s (ks e) y.1):=by unfold d9 T3;rw[List.filterMap_map,Hi];rfl
  obtain⟨T,hT⟩:∃T,(d9 f).filterMap (λy=>YB s (ks e) y.1)=T:=⟨_,rfl⟩;obtain⟨o,S⟩:∃o,x8.S0 ⟨s.N0,T⟩=o:=⟨_,rfl⟩;have Z:PW.T0 ⟨⟨me,l,s,ks e⟩,k,x⟩ C0=ckQ me l s (ks e) k x o:=by unfold PW.T0;rw[V0 Zb6];show(match x8.S0 ⟨s.N0,(T3 (ks e)).filterMap (YB s (ks e))⟩with|none=>_|some S0=>_)=_;rw[hfm,hT,S];cases o<;>rfl
  rw[Z];clear Z;refine Fa kn func395 O O (I2 h O λb1 w h=>U0 h 0 O O (N1 (Y _ _ _ _ _ _ (h.g [3,7] O)) λw h=>m5 (U0 h 2 O O (U0 h 0 O O (ga (acY (h.g [7] O) Zb9) λa1 t w h=>I2 h O λb2 w h=>J3 h 0 O O O λw h=>U0 h 5 O O (He (JA h) λcI w h=>?_))))));replace h:=h.G4 260 Hq;replace h:=h.SI;have hS0:Hp c w (C5 [bk b [Pt kb,I me,Pt pl,Pt pk,.map (some m),v5] 162,mo I Pt m f,CJ pk b b1 b2 a1 t s e []]::bk cI [Pt b] 61::so 157 F2 a1 t s.N0::K1 kb k::J5 d pl l::M1 d x::R):=by have F:=Hp.ON (pk:=pk) (b:=b) (b1:=b1) (b5:=b2) (ab:=a1) (cb:=t) (s:=s) (q:=e) (pre:=[]) (L5:=[]) O (h.g [3,1,0,5,10,8,6,9] O);exact Hp.C3 (A:=[bk b [Pt kb,I me,Pt pl,Pt pk,.map (some m),v5] 162,mo I Pt m f,CJ pk b b1 b2 a1 t s e []]) (F.g [1,2] O)
  refine RF.Zi kn O O (λ(x:Int×Nat)=>[I x.1,Pt x.2]) (λ_=>rfl) O O O (λl=>l=d9 f) (λl=>l=(d9 f).take l.length) (λpre=>C5 [bk b [Pt kb,I me,Pt pl,Pt pk,.map (some m),v5] 162,mo I Pt m f,CJ pk b b1 b2 a1 t s e pre]) (λ_=>d6 False) hS0 (LM m4 (λpre=>CJ pk b b1 b2 a1 t s e pre)) ?_ ?_ ?_
  ·rintro pre ⟨tx,p⟩ W M hS h;obtain⟨Px,Fe⟩:=Xq hS;have hp:=zo Fe;replace h:=h.R6;obtain⟨a2,z,L5,G,h⟩:=Hp.PN (L:=bk b [Pt kb,I me,Pt pl,Pt pk,.map (some m),v5] 162::mo I Pt m f::M) (Hp.get (L:=bk b [Pt kb,I me,Pt pl,Pt pk,.map (some m),v5] 162::mo I Pt m f::CJ pk b b1 b2 a1 t s e pre::M) h 3 [2,0,1] rfl rfl);have Tu:L5.length<=80:=by
    have F:=V4 List.length G;rw[H7]at F;have h2:=Ez (λ(y:Int×Nat)=>YB s (ks e) y.1) pre;have h3:pre.length<=(d9 f).length:=by rw[Px,Ga];omega
    omega
   obtain⟨q1,r,q2,e3,hr,hq⟩:=wM J hp;have e4:ps e=ps q1++(p,r)::ps q2:=by rw[e3];simp[ps]
   rw[e4]at h;replace h:=Hp.rq (h.g [4] O);refine⟨[r5 p r,ea r5 (ps q1++ps q2),bk b2 [.slice a1 s.N0.length t,.slice a2 L5.length z] 192,so 260 Hq a2 z L5,wr L5,T2 pk s,bk b1 [Pt b] 61,bk b [Pt kb,I me,Pt pl,Pt pk,.map (some m),v5] 162,mo I Pt m f],h,λW M h=>?_⟩;have jq:∀W M a2 z K,K.map Dd.tx=(pre++[(tx,p)]).filterMap (λy=>YB s (ks e) y.1)->Hp c W (r5 p r::ea r5 (ps q1++ps q2)::bk b2 [.slice a1 s.N0.length t,.slice a2 K.length z] 192::so 260 Hq a2 z K::wr K::T2 pk s::bk b1 [Pt b] 61::bk b [Pt kb,I me,Pt pl,Pt pk,.map (some m),v5] 162::mo I Pt m f::M)->Hp c W (C5 [bk b [Pt kb,I me,Pt pl,Pt pk,.map (some m),v5] 162,mo I Pt m f,CJ pk b b1 b2 a1 t s e (pre++[(tx,p)])]::M):=by intro W M a2 z K he h;have h:=Hp.Xu (x:=(p,r)) h;rw[<-e4]at h;have F:=Hp.ON he (h.g [1,2,3,4] O);exact Hp.C3 (A:=[bk b [Pt kb,I me,Pt pl,Pt pk,.map (some m),v5] 162,mo I Pt m f,CJ pk b b1 b2 a1 t s e (pre++[(tx,p)])]) (F.g [1,2] O)
   have RX:(pre++[(tx,p)]).filterMap (λy=>YB s (ks e) y.1)=pre.filterMap (λy=>YB s (ks e) y.1)++(YB s (ks e) tx).toList:=by rw[List.filterMap_append];simp only[List.filterMap_cons,List.filterMap_nil];cases YB s (ks e) tx<;>rfl
   have hSt:=λ(w:World)(R:List HP)(h:Hp c w (T2 pk s::R))=>bp (tx:=tx) h;by_cases C:s.N9 tx=3
   ·rw[VT hr C,<-G]at RX;have hDr:=λ(w:World)(R:List HP)(h:Hp c w (T2 pk s::R))=>agR (tx:=tx) h (λx v=>by have:=fT.I3 _ (Q7 v);grind);refine U0 h 6 O O (U0 h 7 O O (N1 (bp (h.g [5] O)) λw h=>mf ?_));replace h:=(h.g [1] O).L7;refine Y6 h [0,2,3,4,5,11,1,6,57,8,9,60,62,13,64,115,16,117] λh=>U3 3 O O (U3 0 O O (U0 h 6 O O ⟨h,U0 h 7 O O ⟨h,xb (agR (h.g [1] O) ?_) ?_⟩⟩))
    ·exact λx v=>by have:=fT.I3 _ (Q7 v);grind
    rintro _ w ⟨a3,H,rfl,h⟩;refine⟨h.q 10 [2,1,3,4,5,6,7,8,9] O,I2 h O λb3 w h=>⟨h.q 11 [3,2,4,5,6,7,8,9,10] O,A4.Yb (u:=(⟨tx,r.J0,false,a3,H,s.rc tx⟩:Dd)) (Ca.of (w9:=40) kn O O O O O O) h 6 O O 0 O O O m4 (λ_ _=>rfl) λa4 ph w h=>J3 h 5 O O O λw h=>?_⟩⟩;replace h:=Hp.Z5 (h.q 11 [3,1,2,4,5,6,7,8,9,10] O);replace h:=Hp.JC (x:=⟨tx,r.J0,false,a3,H,s.rc tx⟩) (h.g [1,6] O);exact jq _ _ a4 ph (L5++[⟨tx,r.J0,false,a3,H,s.rc tx⟩]) (by rw[ic];exact RX.symm) (h.g [1,3,4,5] O)
   ·rw[WT C,Jb,<-G]at RX;exact U0 h 6 O O (U0 h 7 O O (N1 (bp (h.g [5] O)) λw h=>Wa (jq _ _ a2 z L5 RX.symm (h.g [1,2,3,4,5] O))))
  ·rintro D1 xs W rfl h;replace h:=h.R6;obtain⟨a2,z,L5,G,h⟩:=Hp.PN (L:=bk b [Pt kb,I me,Pt pl,Pt pk,.map (some m),v5] 162::mo I Pt m f::pt D1 (.deferred (some []))::bk cI [Pt b] 61::so 157 F2 a1 t s.N0::K1 kb k::J5 d pl l::M1 d x::R) (Hp.get (L:=bk b [Pt kb,I me,Pt pl,Pt pk,.map (some m),v5] 162::mo I Pt m f::CJ pk b b1 b2 a1 t s e (d9 f)::pt D1 (.deferred (some []))::bk cI [Pt b] 61::so 157 F2 a1 t s.N0::K1 kb k::J5 d pl l::M1 d x::R) h 3 [2,0,1] rfl rfl);rw[hT]at G;have hTl:T.length<=80:=by rw[<-hT];exact j9 (Ez _ _) hEl
   have hTw:∀x∈T,x.K2.length<=16:=λx v=>by grind[LK]
   have Tu:L5.length=T.length:=by rw[<-G,H7]
   rw[<-J]at h;replace h:=(h.g [7,4] O).Bd;have X:=λ(w:World)(R:List HP)(h:Hp c w (so 157 F2 a1 t s.N0::so 260 Hq a2 z L5::wr L5::R))=>BY h fX m4 (λx v=>by grind[Dd.tx,List.mem_map_of_mem]);rw[G,S]at X;cases o with
   |none=>refine O4 h 1 O O (xb (X _ _ (h.g [9,2,3] O)) ?_);rintro _ w ⟨a3,H,l2,rfl,E,h⟩;exact Q5 (Mz.one h (i:=9) O O λw h=>⟨rfl,h.q 14 [8,12,13,6,11,4] O⟩)
   |some S0=>
    have QW:S0.length<=10000:=by have F:=iG (N:=80) (M:=16) S hTl hTw;have h2:=vJ S;simp only at F h2;omega
    have Kv:=λ(w:World)(a:Option Addr)(cap:Nat)(R:List HP)(h:Hp c w (J5 d pl l::M1 d x::R))(hs:Sx za w a S0.length cap S0)=>AY (O2:=0) h (by have:=Q.size;omega) Q.X9 hs QW Zb4 (by have:=Q.L4;omega);have hOk:=iN (O2:=0) Q QW;obtain⟨⟨er,l1,x1⟩,hV⟩:∃V,l.T0 x S0 0=V:=⟨_,rfl⟩;rw[hV]at Kv hOk;simp only at Kv hOk;have hF:=λ(w:World)(R:List HP)(h:Hp c w (J5 d pl l1::M1 d x1::R))=>IA h hOk;unfold ckQ;simp only[hV];by_cases C:er=0
    ·simp only[if_pos C];refine O4 h 1 O O (xb (X _ _ (h.g [9,2,3] O)) ?_);rintro _ w ⟨a3,H,l2,rfl,E,h⟩;replace E:l2=S0:=E;rw[E]at h⊢;refine m5 (U0 h 7 O O (U0 h 8 O O (N1 (Kv _ _ _ _ (h.g [12,13] O) (h.Z4 0 O)) λw h=>BR.QT C (U0 h 9 O O (U0 h 10 O O (N1 (hF _ _ h) λw h=>Mz.one h (i:=11) O O λw h=>?_))))));rw[C];exact⟨rfl,h.q 14 [10,0,1,8,13,6] O⟩
    ·simp only[if_neg C];refine O4 h 1 O O (xb (X _ _ (h.g [9,2,3] O)) ?_);rintro _ w ⟨a3,H,l2,rfl,E,h⟩;replace E:l2=S0:=E;rw[E]at h⊢;exact m5 (U0 h 7 O O (U0 h 8 O O (N1 (Kv _ _ _ _ (h.g [12,13] O) (h.Z4 0 O)) λw h=>BR.eqN C (Mz.one h (i:=11) O O λw h=>⟨rfl,h.q 14 [10,0,1,8,13,6] O⟩))))
  ·rintro D j W h;exact h.uf.1.elim
end
theorem nl{f:Nat}{args:Array Value}{PQ:Y5}{o:Oper}{ρ:Operand->Value}{ch:List PanicEntry}(h:Cs f args w (λe w'=>e= .panicked ch∧Hp c w' L))(k:∀w,Hp c w L->PQ ch w)(a:Ck f=true:=by rfl):od prog f args w K PQ Ck o ρ:=od.by a h Zb7
section
variable{P:Program}{T:Wm}{X:Nat->Bool}{C:World->Prop}{ρ:Operand->Value}{PQ:Y5}{dst:Option Nat}{ty0:TypeId}{db:String}{after:Array Edge}{g:Option (Nat×Bool)}
def DM:TypeDesc->Bool
 | .interface _=>false
 |_=>true
theorem RD.mkI{v:Value}{i:TI}{K:Value->Prop}(c:N8 P T X)(b:T t=some i)(a:DM i.desc=true)(k:K (.iface t v)):RD P C (Instr.makeInterface t v) K:=by
 refine⟨.iface t v,λw _=>?_,k⟩;simp only[Instr.makeInterface,Sem.run_bind,J' c b,Result.andThen_ok]
 revert a
 cases i.desc<;>intro a<;>first|rfl|cases a
theorem A4.pan{x:Operand}{v:Value}(hx:ρ x= .iface t v)(k:PQ [{v:= .iface t v,recovered:=false}] w):A4 P ⟨dst,.panic x,ty0,db,after,g⟩ ρ w K PQ:=by refine⟨?_⟩;simp only[execOp,hx,Instr.panic];exact k
theorem VJ{i:TI}{f:FuncId}{e:TypeId}{v:Value}(d:N8 P T X)(a:T t=some i)(g:i.desc= .pointer e)(b:i.Xf.methods.find? (·.name==name)=some m)(hp:m.path= #[])(c:m.func=some (f,true))(n:Nat)(w:World):(method (n+1) t v name).run P w= .ok (f,v) w:=by unfold method;simp only[Sem.run_bind,vi d a,Result.andThen_ok,b,hp,c,follow,Sem.run_pure];grind[receiverAt,Sem.run_bind,J',Result.andThen_ok,Place.get,Sem.run_pure]
theorem A4.A6{r:Operand}{args:Array Operand}{tys:Array TypeId}{i:TI}{f:FuncId}{e:TypeId}{v:Value}{post:Ending->World->Prop}(a:N8 P T X)(d:ρ r= .iface t v)(c:T t=some i)(q:i.desc= .pointer e)(o:i.Xf.methods.find? (·.name==name)=some m)(j:m.path= #[])(p:m.func=some (f,true))(s:X f=true)(h:Calls P f (v::args.toList.map ρ).toArray w post)
  (k:∀e w',post e w'->match e with
   | .returned v=>K v w'
   | .panicked ch=>PQ ch w'
   | .outgrown=>False):A4 P ⟨dst,.call ⟨.invoke r name,args,tys⟩,ty0,db,after,g⟩ ρ w K PQ:=by
 refine⟨?_⟩;have y:(#[Value.iface t v]++args.map ρ)[0]? =some (.iface t v):=by rw[tL Zb3];rfl
 have x:(#[Value.iface t v]++args.map ρ).extract 1 (#[Value.iface t v]++args.map ρ).size=args.map ρ:=by apply Array.ext';simp;exact sd Zb3
 have u: #[v]++args.map ρ=(v::args.toList.map ρ).toArray:=by apply Array.ext';simp
 obtain⟨n,l⟩:∃n,P.types.size+Made.depth=n+1:=⟨P.types.size+99,rfl⟩;simp only[execOp,resolve,Sem.run_bind,Sem.run_pure,Result.andThen_ok,invoke,y,x,d,callMethod];have b:=λw=>VJ (v:=v) a c q o j p n w;rw[<-l]at b;have hpg:(program).run P w= .ok P w:=rfl;simp only[Sem.run_bind,hpg,Result.andThen_ok,b,a.body f s,u,nm];exact Calls.mono h k
theorem A4.rW{x:Operand}{i:TI}{f:FuncId}{v:Value}{c:Array Value}(h:N8 P T X)(hx:ρ x= .func (.method name) #[.iface t v] c)(a:T t=some i)(d:i.Xf.methods.find? (·.name==name)=some m)(hp:m.path= #[])(e:m.func=some (f,true))(k:K (.func (.method name) #[.iface t v] c) w):A4 P ⟨dst,.nilCheck x,ty0,db,after,g⟩ ρ w K PQ:=by
 refine⟨?_⟩;obtain⟨n,b⟩:∃n,P.types.size+Made.depth=n+1:=⟨P.types.size+99,rfl⟩;have hpg:(program).run P w= .ok P w:=rfl;have j:(#[Value.iface t v]:Array Value)[0]? =some (.iface t v):=rfl;have hna:(nilAhead (n+1) t v name).run P w= .ok (some false) w:=by unfold nilAhead;simp only[Sem.run_bind,vi h a,Result.andThen_ok,d,hp,e,followBlind,Sem.run_pure]
 simp only[execOp,hx,j,Sem.run_bind,hpg,Result.andThen_ok,b,hna];exact k
end
section
def Ir(e:Int):List PanicEntry:=[{v:= .iface 207 (.agg #[I e]),recovered:=false}]
theorem AG{b:Bool}(h:Hp c w R):Cs 171 #[.bool b,I e] w (λx w'=>x=(if b=true then .returned (.tuple #[])else .panicked (Ir e))∧Hp c w' R):=by
 cases b
 ·exact R2 func171 O (Q5 (RD.mkI (v:= .agg #[I e]) kn O O (A4.pan O (λ_=>⟨rfl,h⟩))))
 ·exact R2 func171 O (m5 ⟨rfl,h⟩)
theorem Ff{b:Bool}(h:Hp c w R)(a:b=true):Cr 171 #[.bool b,I e] w c (.tuple #[]) R:=by subst a;refine(AG h).mono ?_;simp
theorem Ai{b:Bool}(h:Hp c w R)(a:b=false):Cs 171 #[.bool b,I e] w (λx w'=>x= .panicked (Ir e)∧Hp c w' R):=by subst a;refine(AG h).mono ?_;simp
theorem Gf(h:Hp c w R)(a:e=0):Cr 131 #[I e] w c (.tuple #[]) R:=by subst a;exact R2 func131 O (N1 (Ff h O) λw h=>⟨rfl,h⟩)
theorem xp(h:Hp c w R)(a:¬e=0):Cs 131 #[I e] w (λx w'=>x= .panicked (Ir e)∧Hp c w' R):=by exact R2 func131 O (nl (Ai h Zb1) λw h=>λ_=>⟨rfl,h⟩)
end
theorem abq{P:Prop}(h:P:=by refine R2 func37 O (U0 h 0 O O (Wa (sv [0,1,2,4,8,9,10,12,3,5,6,7,16,11,13,14,15,17] ?_)));replace h:=h.drew;refine U0 h 0 O O (jd h 1 O λb1 o1 U9=>LD.qf h 1 O ‹_› ‹_› O ?_);refine RD.mkI kn O O (U0 h 0 O O (jd h 1 O λb2 o2 Lj=>LD.qf h 1 O ‹_› ‹_› O ?_));exact tg.un O ⟨rfl,h⟩):P:=h
theorem abp{P:Prop}(h:P:=by simp only[la];refine R2 func37 O (U0 h 0 O O (mf (sv [0,1,2,5,6,7,3,4,10,8,9,11] ?_)));replace h:=h.drew;exact U0 h 0 O O (RD.mkI kn O O (U0 h 0 O O (tg.un O ⟨rfl,h⟩)))):P:=h
def la:Option Nat->Value
 |none=> .pointer none
 |some p=>Pt p
def am:Qb Nat:=⟨λp=>[Pt p],1,λ_=>rfl,λ_=>rfl⟩
def Pg:Qb (Option Nat):=⟨λo=>[la o],1,λ_=>rfl,λo=>by cases o<;>rfl⟩
def Bc(A0:Int)(ch:Option Nat)(ps:List (Option Nat))(n:Int):Value×Bool:=
 if n=A0 then(.iface 87 (la ch),ch.isSome)else(.iface 61 (la (ps.getD n.toNat none)),(ps.getD n.toNat none).isSome)
section
theorem dZ{n:Int}{p:Int}(h:Hp c w (bk b [I p,I w_,I d,I R0,I C0,v3,v4,v5,v6,v7,v8,v9,uj] 90::R)):Cs 181 #[Pt b,I n] w (λx w'=>x=(if 0<=n∧n<=p then .returned (I n)else .panicked (Ir 11))∧Hp c w' (bk b [I p,I w_,I d,I R0,I C0,v3,v4,v5,v6,v7,v8,v9,uj] 90::R)):=by
 by_cases a:0<=n∧n<=p
 ·rw[S1 a];exact R2 func181 O (Zt (U0 h 0 O O (N1 (Ff h aol) λw h=>⟨rfl,h⟩)))
 ·rw[V0 a];refine R2 func181 O ?_;by_cases e:0<=n
  ·have f:¬n<=p:=λk=>a ⟨e,k⟩;exact Zt (U0 h 0 O O (nl (Ai h aol) λw h=>λ_=>⟨rfl,h⟩))
  ·
   exact Te (nl (Ai h aol) λw h=>λ_=>⟨rfl,h⟩)
theorem acX{n:Int}{p:Int}{ps:List (Option Nat)}(h:Hp c w (bk b [I p,I w_,I d,I R0,I C0,v3,v4,v5,v6,.slice ap ps.length cp,la ch,v9,uj] 90::so 61 Pg ap cp ps::R))(g:¬n=p->0<=n∧n<ps.length):Cr 37 #[Pt b,I n] w c (.tuple #[(Bc p ch ps n).1,.bool (Bc p ch ps n).2]) (bk b [I p,I w_,I d,I R0,I C0,v3,v4,v5,v6,.slice ap ps.length cp,la ch,v9,uj] 90::so 61 Pg ap cp ps::R):=by
 unfold Bc;by_cases a:n=p
 ·rw[S1 a];subst a;cases ch with
  |none=>exact abp
  |some q=>exact abp
 ·rw[V0 a];obtain⟨i,j⟩:=g a;obtain⟨o,e⟩:∃o,i3 ps n.toNat=some o:=⟨ps[n.toNat],by rw[Z0,d8]⟩;have f:ps.getD n.toNat none=o:=by rw[Z0]at e;rw[Xo,e];rfl
  rw[f];clear f;cases o with
  |none=>exact abq
  |some q=>exact abq
theorem acC{n:Int}{p:Int}(h:Hp c w (bk b [I p,I w_,I d,I R0,I C0,v3,v4,v5,v6,v7,v8,v9,uj] 90::R))(a:0<=n∧n<=p):Cr 181 #[Pt b,I n] w c (I n) (bk b [I p,I w_,I d,I R0,I C0,v3,v4,v5,v6,v7,v8,v9,uj] 90::R):=by refine(dZ h).mono ?_;rintro _ w' ⟨rfl,h⟩;rw[S1 a];exact⟨rfl,h⟩
theorem aeU{n:Int}{p:Int}(h:Hp c w (bk b [I p,I w_,I d,I R0,I C0,v3,v4,v5,v6,v7,v8,v9,uj] 90::R))(a:¬(0<=n∧n<=p)):Cs 181 #[Pt b,I n] w (λx w'=>x= .panicked (Ir 11)∧Hp c w' (bk b [I p,I w_,I d,I R0,I C0,v3,v4,v5,v6,v7,v8,v9,uj] 90::R)):=by refine(dZ h).mono ?_;rintro _ w' ⟨rfl,h⟩;rw[V0 a];exact⟨rfl,h⟩
theorem upW{n:Int}{p:Int}{ps:List (Option Nat)}(h:Hp c w (bk b [I p,I w_,I d,I R0,I C0,v3,v4,v5,v6,.slice ap ps.length cp,la ch,v9,uj] 90::so 61 Pg ap cp ps::R))(a:¬(0<=n∧n<=p)):Cs 136 #[Pt b,I n] w (λx w'=>x= .panicked (Ir 11)∧Hp c w' (bk b [I p,I w_,I d,I R0,I C0,v3,v4,v5,v6,.slice ap ps.length cp,la ch,v9,uj] 90::so 61 Pg ap cp ps::R)):=by exact R2 func136 O (nl (aeU h a) λw h=>λ_=>⟨rfl,h⟩)
theorem XN{n:Int}{p:Int}{ps:List (Option Nat)}(h:Hp c w (bk b [I p,I w_,I d,I R0,I C0,v3,v4,v5,v6,.slice ap ps.length cp,la ch,v9,uj] 90::so 61 Pg ap cp ps::R))(e:0<=n∧n<=p)(g:(ps.length:Int)=p)(f:(Bc p ch ps n).2=false):Cs 136 #[Pt b,I n] w (λx w'=>x= .panicked (Ir 22)∧Hp c w' (bk b [I p,I w_,I d,I R0,I C0,v3,v4,v5,v6,.slice ap ps.length cp,la ch,v9,uj] 90::so 61 Pg ap cp ps::R)):=by have a:=λ(w:World)(R:List HP)(h:Hp c w (bk b [I p,I w_,I d,I R0,I C0,v3,v4,v5,v6,.slice ap ps.length cp,la ch,v9,uj] 90::so 61 Pg ap cp ps::R))=>acX (n:=n) h m4;rw[f]at a;exact R2 func136 O (N1 (acC h e) λw h=>N1 (a _ _ h) λw h=>nl (Ai h O) λw h=>λ_=>⟨rfl,h⟩)
theorem xA{n:Int}{p:Int}{ps:List (Option Nat)}(h:Hp c w (bk b [I p,I w_,I d,I R0,I C0,v3,v4,v5,v6,.slice ap ps.length cp,la ch,v9,uj] 90::so 61 Pg ap cp ps::R))(e:0<=n∧n<=p)(g:(ps.length:Int)=p)(f:(Bc p ch ps n).2=true):Cr 136 #[Pt b,I n] w c (Bc p ch ps n).1 (bk b [I p,I w_,I d,I R0,I C0,v3,v4,v5,v6,.slice ap ps.length cp,la ch,v9,uj] 90::so 61 Pg ap cp ps::R):=by have a:=λ(w:World)(R:List HP)(h:Hp c w (bk b [I p,I w_,I d,I R0,I C0,v3,v4,v5,v6,.slice ap ps.length cp,la ch,v9,uj] 90::so 61 Pg ap cp ps::R))=>acX (n:=n) h m4;rw[f]at a;exact R2 func136 O (N1 (acC h e) λw h=>N1 (a _ _ h) λw h=>N1 (Ff h O) λw h=>⟨rfl,h⟩)
end
theorem ST.lit{P:Program}{L':List HP}{k size:Nat}{l l':List Value}{v:Value}{K:World->Prop}(h:Hp c w L)(i:Nat)(a:i3 L i=some (bk b l t))(hs:v.cells.toList.length=size)(m:v.cells.toList.all (·.oneCell')=true)(g:Nat.ble (k+size) l.length=true)
  (f:m8 l k v.cells.toList=l')(j:G7 L i (bk b l' t)=some L')(d:∀w',Hp c w' L'->K w'):ST P w ⟨b,k,none⟩ v size K:=by
 subst f;exact ST.Qm (h.Qm a) hs m g λw' e=>d w' (h.kG a e j)
structure S2 where
 d:Nat
 x:U2
 o:Option (Nat×d4)
def S2.E0(s:S2):Option d4:=s.o.map (·.2)
def S2.pp(s:S2):Option Nat:=s.o.map (·.1)
def M4(kb N:Nat)(s:S2):HP:=match s.o with
 |none=>M1 s.d s.x
 |some y=>C5 [M1 s.d s.x,B7 kb s.d N y.1 y.2]
def Lf(kb d:Nat)(x:U2)(o:Option (Nat×D8)):HP:=match o with
 |none=>M1 d x
 |some y=>C5 [M1 d x,r6 kb d y.1 y.2]
structure SG where
 zb:Int
 W0:Int
 Ge:Int
 K3:Bool
 n:Int
 a1:Option Addr
 n1:Nat
 c1:Nat
 a2:Option Addr
 n2:Nat
 c2:Nat
def SG.f(s:SG):List Value:=[I s.zb,I s.W0,I s.Ge,.bool s.K3,I s.n,.slice s.a1 s.n1 s.c1,.slice s.a2 s.n2 s.c2]
def cN:Qb SG:=⟨SG.f,7,λ_=>rfl,λ_=>rfl⟩
structure sh where
 a:Option Addr
 cap:Nat
 l:List SG
def jl:Qb sh:=⟨λs=>[.slice s.a s.l.length s.cap],1,λ_=>rfl,λ_=>rfl⟩
def sh.mem(N:Nat)(s:sh):HP:=C5 [so 214 cN s.a s.cap s.l,d6 (s.l.length<=N)]
structure HS where
 D0:R9
 R0:Int
 C0:Int
 O0:J2
 p6:O6
 P2:E9
 q:List S2
 dc:Nat
 xc:U2
 oc:Option (Nat×D8)
 M3:List Wk
def HS.J1(s:HS):I0:=⟨s.D0,s.R0,s.C0,s.O0,s.p6,s.P2,s.q.map (·.x)++[s.xc],s.q.map S2.E0,s.oc.map (·.2),s.M3⟩
structure HG where
 pk:Nat
 pl:Nat
 pd:Nat
 ad:Option Addr
 cd:Nat
 ap:Option Addr
 cp:Nat
 ar:Option Addr
 cr:Nat
 B6:Option Addr
 cs:Nat
 sl:List sh
def O9(s:HS)(g:HG):List Value:=[I s.D0.A0,I s.D0.F0,I s.D0.L0,I s.R0,I s.C0,Pt g.pk,Pt g.pl,Pt g.pd,.slice g.ad (s.q.map (·.d)++[s.dc]).length g.cd,.slice g.ap (s.q.map S2.pp).length g.cp,la (s.oc.map (·.1)),.slice g.ar s.M3.length g.cr,.slice g.B6 g.sl.length g.cs]
def G3(b N:Nat)(h:I0):HP:=sf λ(z:HS×HG)=>C5 [d6 (h=z.1.J1∧(z.1.q.length:Int)=z.1.D0.A0∧z.2.sl.length=z.1.q.length),
 bk b (O9 z.1 z.2) 90,K1 z.2.pk z.1.O0,x5 z.2.pl z.1.p6,z6 z.2.pd z.1.P2,so 99 am z.2.ad z.2.cd (z.1.q.map (·.d)++[z.1.dc]),so 61 Pg z.2.ap z.2.cp (z.1.q.map S2.pp),so 42 I9 z.2.ar z.2.cr z.1.M3,so 215 jl z.2.B6 z.2.cs z.2.sl,rl (sh.mem N) z.2.sl,rl (M4 z.2.pk N) z.1.q,Lf z.2.pk z.1.dc z.1.xc z.1.oc]
section
variable{h0:I0}
theorem Hp.C4(h:Hp c w (G3 b N h0::L)):∃(s:HS)(g:HG),h0=s.J1∧(s.q.length:Int)=s.D0.A0∧g.sl.length=s.q.length∧Hp c w (bk b (O9 s g) 90::K1 g.pk s.O0::x5 g.pl s.p6::z6 g.pd s.P2::so 99 am g.ad g.cd (s.q.map (·.d)++[s.dc])::so 61 Pg g.ap g.cp (s.q.map S2.pp)::so 42 I9 g.ar g.cr s.M3::so 215 jl g.B6 g.cs g.sl::rl (sh.mem N) g.sl::rl (M4 g.pk N) s.q::Lf g.pk s.dc s.xc s.oc::L):=by obtain⟨⟨s,g⟩,e⟩:=h.ex;obtain⟨⟨j,i,f⟩,a⟩:=e.R6.uf;exact⟨s,g,j,i,f,a⟩
theorem Hp.F1{s:HS}{g:HG}(f:h0=s.J1)(e:(s.q.length:Int)=s.D0.A0)(a:g.sl.length=s.q.length)(h:Hp c w (bk b (O9 s g) 90::K1 g.pk s.O0::x5 g.pl s.p6::z6 g.pd s.P2::so 99 am g.ad g.cd (s.q.map (·.d)++[s.dc])::so 61 Pg g.ap g.cp (s.q.map S2.pp)::so 42 I9 g.ar g.cr s.M3::so 215 jl g.B6 g.cs g.sl::rl (sh.mem N) g.sl::rl (M4 g.pk N) s.q::Lf g.pk s.dc s.xc s.oc::L)):Hp c w (G3 b N h0::L):=
 Hp.R8 (s,g) (Hp.C3 (A:=[d6 (h0=s.J1∧(s.q.length:Int)=s.D0.A0∧g.sl.length=s.q.length),
 bk b (O9 s g) 90,K1 g.pk s.O0,x5 g.pl s.p6,z6 g.pd s.P2,so 99 am g.ad g.cd (s.q.map (·.d)++[s.dc]),so 61 Pg g.ap g.cp (s.q.map S2.pp),so 42 I9 g.ar g.cr s.M3,so 215 jl g.B6 g.cs g.sl,rl (sh.mem N) g.sl,rl (M4 g.pk N) s.q,Lf g.pk s.dc s.xc s.oc]) (Hp.T' ⟨f,e,a⟩ h))
theorem Hp.ae{a:Type}{f f':a->HP}(b:∀x w L,Hp c w (f x::L)->Hp c w (f' x::L)):∀(l:List a){L:List HP},Hp c w (rl f l::L)->Hp c w (rl f' l::L)
 |[],_,h=>h
 |x::l,L,h=>by
  have g:Hp c w (f x::(l.map f++L)):=h.R6
  have e:Hp c w (rl f l::f' x::L):=Hp.C3 (A:=l.map f) ((b x _ _ g).Od List.perm_middle.symm)
  have d:Hp c w (l.map f'++(f' x::L)):=(Hp.ae b l e).R6
  exact Hp.C3 (A:=(x::l).map f') (d.Od List.perm_middle)
theorem Hp.yI{kb d p:Nat}{y:d4}(b:N<=M)(h:Hp c w (B7 kb d N p y::L)):Hp c w (B7 kb d M p y::L):=by obtain⟨pl,pk,m,a,cap,xs,h⟩:=h.Lg;obtain⟨e,h⟩:=(h.g [5] rfl).uf;replace h:=Hp.T' (j9 e b) h;exact Hp.yf (h.g [1,2,3,4,5] O)
theorem Hp.Sj{kb:Nat}{s:S2}(a:N<=M)(h:Hp c w (M4 kb N s::L)):Hp c w (M4 kb M s::L):=by
 obtain⟨d,x,o⟩:=s;cases o with
 |none=>exact h
 |some y=>have e:Hp c w (M1 d x::B7 kb d N y.1 y.2::L):=Hp.R6 h;have b:=Hp.yI a (e.g [1] O);exact Hp.C3 (A:=[M1 d x,B7 kb d M y.1 y.2]) (b.g [1] O)
theorem Hp.GC{s:sh}(b:N<=M)(h:Hp c w (sh.mem N s::L)):Hp c w (sh.mem M s::L):=by have i:Hp c w (so 214 cN s.a s.cap s.l::d6 (s.l.length<=N)::L):=Hp.R6 h;obtain⟨e,f⟩:=(i.g [1] rfl).uf;have d:=Hp.T' (j9 e b) f;exact Hp.C3 (A:=[so 214 cN s.a s.cap s.l,d6 (s.l.length<=M)]) (d.g [1] O)
theorem Hp.se(a:N<=M)(h:Hp c w (G3 b N h0::L)):Hp c w (G3 b M h0::L):=by obtain⟨s,g,f,e,d,h⟩:=h.C4;have h:=Hp.ae (f':=sh.mem M) (λ_ _ _ h=>Hp.GC a h) _ (h.g [8,9] O);have h:=Hp.ae (f':=M4 g.pk M) (λ_ _ _ h=>Hp.Sj a h) _ (h.g [1] O);exact Hp.F1 f e d (h.g [2,3,4,5,6,7,8,9,1] O)
end
section
variable{s:HS}
theorem HS.Ey(a:(s.q.length:Int)=s.D0.A0):s.J1.U4 s.D0.A0=s.xc:=by grind[I0.U4,HS.J1]
theorem HS.Yu{y:S2}(a:i3 s.q i=some y):s.J1.U4 i=y.x:=by grind[Z0,I0.U4,HS.J1]
theorem HS.AM{y:S2}(a:i3 s.q i=some y):s.J1.G5 i=y.E0:=by simp_all[Z0,I0.G5,HS.J1]
end
abbrev Ev.v(e:Ev):Value:= .agg #[I e.W0,I e.Z3,I e.N3,I e.tx,I e.t8,I e.Q6,I e.O8,gb e.J0,.bool e.up,.bool e.uc,I e.op.W0,I e.op.tx,B8 e.op.key.a,B8 e.op.key.b,B8 e.op.key.x,B8 e.op.key.y,I e.op.n]
def Zk(ev:Ev)(t tx a:Int)(v:Ba):List Value:=Wk.f ⟨ev.W0,t,ev.Z3,ev.N3,tx,ev.op,a,v⟩
def pA(c:World)(b N pr:Nat)(a:Int->Int->Ba->List Value)(R:List HP)(x:QI×I0)(e:Ending)(w':World):Prop:=
 (e= .returned (.tuple #[])∧Hp c w' (bk pr (a x.1.tx x.1.Ge x.1.val) 42::G3 b N x.2::R))∨
 (e= .panicked (Ir x.1.Ge)∧x.1.val=X0∧Hp c w' (bk pr (a x.1.tx 0 X0) 42::G3 b N x.2::R))
theorem Dm{P:Prop}(h:P:=by refine⟨So ?_,h⟩;exact V4 (λf=>Value.func (.func f) #[] #[]) (by simp_all)):P:=h
section
variable{pr:Nat}{h0:I0}{ev:Ev}{t:Int}
theorem ahQ(h:Hp c w (bk pr (Zk ev t 0 0 X0) 42::G3 b N h0::R))(G:0<=h0.C0):Cs 128 #[Pt b,ev.v,Pt pr] w (pA c b N pr (Zk ev t) R h0.zb):=by
 obtain⟨⟨⟨A0,l,j⟩,R0,C0,k,o,p,q,e,m,i,f⟩,⟨pk,pl,u,C,cd,ap,cp,A,z,B6,cs,r⟩,rfl,D,F,h⟩:=(h.g [1] rfl).C4;simp only at D F h;replace h:Hp c w (bk pr [I ev.W0,I t,I ev.Z3,I ev.N3,I 0,I ev.op.W0,I ev.op.tx,B8 ev.op.key.a,B8 ev.op.key.b,B8 ev.op.key.x,B8 ev.op.key.y,I ev.op.n,I 0,.bool false,I 0] 42::bk b [I A0,I l,I j,I R0,I C0,Pt pk,Pt pl,Pt u,.slice C (q.map (·.d)++[e]).length cd,.slice ap (q.map S2.pp).length cp,la (i.map (·.1)),.slice A f.length z,.slice B6 r.length cs] 90::K1 pk k::x5 pl o::z6 u p::so 99 am C cd (q.map (·.d)++[e])::so 61 Pg ap cp (q.map S2.pp)::so 42 I9 A z f::so 215 jl B6 cs r::rl (sh.mem N) r::rl (M4 pk N) q::Lf pk e m i::R):=h.g [11] O;have G:0<=C0:=G;by_cases H:C0<1099511627776
 ·have E:I0.zb (HS.J1 ⟨⟨A0,l,j⟩,R0,C0,k,o,p,q,e,m,i,f⟩)=(oA,HS.J1 ⟨⟨A0,l,j⟩,R0,(C0+1),k,o,p,q,e,m,i,f⟩):=by unfold I0.zb;exact S1 H
  rw[E];exact R2 func128 O (I2 h O λb1 w h=>U0 h 2 O O (N1 (Ff h aol) λw h=>U0 h 2 O O (i5 (ST.lit h 2 O O O O (l':=[I A0,I l,I j,I R0,I (C0+1),Pt pk,Pt pl,Pt u,.slice C (q.map (·.d)++[e]).length cd,.slice ap (q.map S2.pp).length cp,la (i.map (·.1)),.slice A f.length z,.slice B6 r.length cs]) O O λw h=> .inl ⟨rfl,(Hp.F1 (s:=⟨⟨A0,l,j⟩,R0,(C0+1),k,o,p,q,e,m,i,f⟩) (g:=⟨pk,pl,u,C,cd,ap,cp,A,z,B6,cs,r⟩) O D F (h.q 13 [2,3,4,5,6,7,8,9,10,11,12,1] O)).g [1] O⟩))))
 ·have E:I0.zb (HS.J1 ⟨⟨A0,l,j⟩,R0,C0,k,o,p,q,e,m,i,f⟩)=(ma 11,HS.J1 ⟨⟨A0,l,j⟩,R0,C0,k,o,p,q,e,m,i,f⟩):=by unfold I0.zb;exact V0 H
  rw[E];exact R2 func128 O (I2 h O λb1 w h=>U0 h 2 O O (nl (Ai h aol) λw h=>λ_=>Or.inr ⟨rfl,rfl,(Hp.F1 (s:=⟨⟨A0,l,j⟩,R0,C0,k,o,p,q,e,m,i,f⟩) (g:=⟨pk,pl,u,C,cd,ap,cp,A,z,B6,cs,r⟩) O D F (h.q 13 [2,3,4,5,6,7,8,9,10,11,12,1] O)).g [1] O⟩))
def evF(W0:Int):Nat:=if W0=1 then 123 else if W0=2 then 124 else if W0=3 then 125 else if W0=4 then 126 else if W0=5 then 127 else if W0=6 then 128 else if W0=7 then 129 else if W0=8 then 130 else if W0=9 then 133 else if W0=10 then 133 else if W0=11 then 134 else if W0=12 then 135 else 137
theorem akQ{W0:Int}(h:Hp c w R):Cr 83 #[I W0] w c (.func (.func (evF W0)) #[] #[]) R:=by
 obtain⟨f,a⟩:∃f,evF W0=f:=⟨_,rfl⟩;rw[a];unfold evF at a;refine R2 func83 O (BR.eq (λm=>?_) λm=>?_)
 ·exact Dm
 ·refine BR.eq (λl=>?_) λl=>?_
  ·exact Dm
  ·refine BR.eq (λk=>?_) λk=>?_
   ·exact Dm
   ·refine BR.eq (λj=>?_) λj=>?_
    ·exact Dm
    ·refine BR.eq (λi=>?_) λi=>?_
     ·exact Dm
     ·refine BR.eq (λg=>?_) λg=>?_
      ·exact Dm
      ·refine BR.eq (λe=>?_) λe=>?_
       ·exact Dm
       ·refine BR.eq (λd=>?_) λd=>?_
        ·exact Dm
        ·refine BR.eq (λb=>?_) λb=>?_
         ·refine mf ⟨So ?_,h⟩;exact V4 (λf=>Value.func (.func f) #[] #[]) Zb7
         ·refine BR.eq (λg10=>?_) λg10=>?_
          ·exact Dm
          ·refine BR.eq (λg11=>?_) λg11=>?_
           ·exact Dm
           ·refine BR.eq (λg12=>?_) λg12=>?_
            ·exact Dm
            ·exact Dm
theorem ahK(h:Hp c w (bk pr (Zk ev t 0 0 X0) 42::G3 b N h0::R)):Cs 137 #[Pt b,ev.v,Pt pr] w (pA c b N pr (Zk ev t) R (ma 10,h0)):=by exact R2 func137 O (I2 h O λb1 w h=>nl (xp h Zb4) λw h=>λ_=>Or.inr ⟨rfl,rfl,h.q 3 [1,2] O⟩)
end
theorem abo{P:Prop}(h:P:=by rw[hV]at h hk⊢;obtain⟨l',Lc⟩:=V;have hk:l'=l:=hk;subst hk;exact Hp.yh (h.g [0,3,2] O)):P:=h
theorem Qs(x:CW)(tx C0:Int):(x.Xa tx C0).2.O0=x.O0∧(x.Xa tx C0).2.M6=x.M6∧(x.Xa tx C0).2.O1.X9=x.O1.X9:=by unfold CW.Xa<;>grind
theorem Xh(x:CW)(tx:Int)(m:BitVec 16)(bg:Int):(x.V2 tx m bg).2.M6=x.M6∧(x.V2 tx m bg).2.O1.X9=x.O1.X9∧(x.V2 tx m bg).2.O0={x.O0 with R4:=(x.V2 tx m bg).2.O0.R4}:=by unfold CW.V2<;>grind
theorem nD(p:d4)(tx:Int)(m:BitVec 16)(bg C0:Int):(p.V2 tx m bg C0).2.me=p.me∧(p.V2 tx m bg C0).2.X9=p.X9:=by unfold d4.V2<;>grind
theorem wP(p:d4)(pl:R9)(op:Op)(C0:Int):(p.t7 pl op C0).2.me=p.me∧(p.t7 pl op C0).2.X9=p.X9∧(p.t7 pl op C0).2.B0=p.B0:=by unfold d4.t7<;>grind
section
variable{d kb:Nat}{bg:Int}{J0:BitVec 16}
theorem aeZ(h:Hp c w (r6 kb d b C::K1 kb k::R))(a:F8 k.D0.A0 k.D0.F0 k.D0.L0):Cr 174 #[Pt b,I tx,I C0] w c (I (CW.Xa ⟨C,k,x⟩ tx C0).1) (r6 kb d b (CW.Xa ⟨C,k,x⟩ tx C0).2.O1::K1 kb k::R):=by obtain⟨l,B0⟩:=C;obtain⟨pl,m,h⟩:=h.zh;have hk:=(Qs ⟨⟨l,B0⟩,k,x⟩ tx C0).2.2;refine(ahu (x:=x) (l:=l) (tx:=tx) (C0:=C0) (h.g [0,3,2] O) a).mono ?_;rintro _ w' ⟨rfl,h⟩;refine⟨rfl,?_⟩;obtain⟨V,hV⟩:∃V,(CW.Xa ⟨⟨l,B0⟩,k,x⟩ tx C0).2.O1=V:=⟨_,rfl⟩;exact abo
theorem UV(h:Hp c w (r6 kb d b C::K1 kb k::R))(e:ng c)(a:∀tx r,K0 C.B0 tx=some r->¬r.J0=0#16):Cr 175 #[Pt b,I tx,I C0] w c (.tuple #[I (CW.T9 ⟨C,k,x⟩ tx C0).1,I (CW.T9 ⟨C,k,x⟩ tx C0).2]) (r6 kb d b C::K1 kb k::R):=by obtain⟨l,B0⟩:=C;obtain⟨pl,m,h⟩:=h.zh;refine(aht (x:=x) (l:=l) (tx:=tx) (C0:=C0) (h.g [0,3,2] O) e a).mono ?_;rintro _ w' ⟨rfl,h⟩;exact⟨rfl,Hp.yh (h.g [0,3,2] O)⟩
theorem YH(h:Hp c w (r6 kb d b C::K1 kb k::R))(f:ng c)(e:¬J0=0#16)(a:F8 k.D0.A0 k.D0.F0 k.D0.L0):Cr 170 #[Pt b,I tx,gb J0,I bg] w c (I (CW.V2 ⟨C,k,x⟩ tx J0 bg).1) (r6 kb d b (CW.V2 ⟨C,k,x⟩ tx J0 bg).2.O1::K1 kb (CW.V2 ⟨C,k,x⟩ tx J0 bg).2.O0::R):=by obtain⟨l,B0⟩:=C;obtain⟨pl,m,h⟩:=h.zh;have hk:=(Xh ⟨⟨l,B0⟩,k,x⟩ tx J0 bg).2.1;refine(ahx (x:=x) (l:=l) (tx:=tx) (bg:=bg) (h.g [0,3,2] O) f e a).mono ?_;rintro _ w' ⟨rfl,h⟩;refine⟨rfl,?_⟩;obtain⟨V,hV⟩:∃V,(CW.V2 ⟨⟨l,B0⟩,k,x⟩ tx J0 bg).2.O1=V:=⟨_,rfl⟩;exact abo
theorem akj{P:zf}(h:Hp c w (r6 kb d b C::M1 d x::K1 kb k::R))(a:CX P mm ⟨C,k,x⟩)(e:mm<=100000):Cr 453 #[Pt b,I C0] w c (I (CW.run ⟨C,k,x⟩ C0).1) (r6 kb d b (CW.run ⟨C,k,x⟩ C0).2.O1::M1 d (CW.run ⟨C,k,x⟩ C0).2.M6::K1 kb (CW.run ⟨C,k,x⟩ C0).2.O0::R):=by obtain⟨l,B0⟩:=C;obtain⟨pl,m,h⟩:=h.zh;refine(afz (C0:=C0) (h.g [0,1,3,4] O) a e).mono ?_;rintro _ w' ⟨rfl,h⟩;exact⟨rfl,Hp.yh (h.g [0,1,4] O)⟩
theorem aeD{P:zf}(h:Hp c w (r6 kb d b C::M1 d x::K1 kb k::R))(i:CX P mm ⟨C,k,x⟩):Cr 452 #[Pt b,I C0] w c (I (CW.T0 ⟨C,k,x⟩ C0).1) (r6 kb d b (CW.T0 ⟨C,k,x⟩ C0).2.O1::M1 d (CW.T0 ⟨C,k,x⟩ C0).2.M6::K1 kb (CW.T0 ⟨C,k,x⟩ C0).2.O0::R):=by
 obtain⟨l,B0⟩:=C;obtain⟨pl,m,h⟩:=h.zh;have a:(CW.T0 ⟨⟨l,B0⟩,k,x⟩ C0).2.O0=k∧(CW.T0 ⟨⟨l,B0⟩,k,x⟩ C0).2.O1.B0=B0:=by
  unfold CW.T0;split
  ·simp
  ·grind
 refine(afA (C0:=C0) (h.g [0,1,3,4] O) i).mono ?_;rintro _ w' ⟨rfl,h⟩;refine⟨rfl,?_⟩;obtain⟨V,j⟩:∃V,(CW.T0 ⟨⟨l,B0⟩,k,x⟩ C0).2=V:=⟨_,rfl⟩;rw[j]at h a⊢;obtain⟨⟨l',p⟩,o,n⟩:=V;obtain⟨f,e⟩:=a;simp only at f e;subst f e;exact Hp.yh (h.g [0,1,4] O)
theorem pG(h:Hp c w (B7 kb d N b p::R)):Cr 169 #[Pt b,I tx,gb J0,I bg,I C0] w c (I (d4.V2 p tx J0 bg C0).1) (B7 kb d N b (d4.V2 p tx J0 bg C0).2::R):=by obtain⟨me,l,s,B0⟩:=p;obtain⟨pl,pk,m,a,cap,xs,h⟩:=h.Lg;have e:=nD ⟨me,l,s,B0⟩ tx J0 bg C0;refine(ahy (l:=l) (tx:=tx) (bg:=bg) (C0:=C0) (J0:=J0) (h.g [0,2,3] O)).mono ?_;rintro _ w' ⟨rfl,h⟩;refine⟨rfl,?_⟩;obtain⟨V,j⟩:∃V,(d4.V2 ⟨me,l,s,B0⟩ tx J0 bg C0).2=V:=⟨_,rfl⟩;rw[j]at h e⊢;obtain⟨n,l',k,o⟩:=V;obtain⟨i,f⟩:=e;simp only at i f;subst i f;exact Hp.yf (h.g [0,3] O)
theorem doW{op:Op}(h:Hp c w (B7 kb d N b p::K1 kb k::R))(hs:SS n p.U1)(o:n<=20000000)(j:F8 k.D0.A0 k.D0.F0 k.D0.L0):Cr 173 #[Pt b,op.v,I C0] w c (Rep.v' (d4.t7 p k.D0 op C0).1) (B7 kb d N b (d4.t7 p k.D0 op C0).2::K1 kb k::R):=by obtain⟨me,l,s,B0⟩:=p;obtain⟨pl,pk,m,a,cap,xs,h⟩:=h.Lg;have e:=wP ⟨me,l,s,B0⟩ k.D0 op C0;refine(ahv (l:=l) (C0:=C0) (op:=op) (h.g [0,2,6,3] O) hs o j).mono ?_;rintro _ w' ⟨rfl,h⟩;refine⟨rfl,?_⟩;obtain⟨V,q⟩:∃V,(d4.t7 ⟨me,l,s,B0⟩ k.D0 op C0).2=V:=⟨_,rfl⟩;rw[q]at h e⊢;obtain⟨t,l',r,u⟩:=V;obtain⟨i,f,_⟩:=e;simp only at i f;subst i f;exact Hp.yf (h.g [0,4,1,3,5,6] O)
theorem aio(h:Hp c w (B7 kb d N b p::M1 d x::K1 kb k::R))(f:PX n mm ⟨p,k,x⟩)(i:n<=19000000)(o:mm<=900000)(z:N<=90000000)(e:(PW.run ⟨p,k,x⟩ C0).2.E0.me=p.me):Cr 396 #[Pt b,I C0] w c (I (PW.run ⟨p,k,x⟩ C0).1) (B7 kb d (N+1) b (PW.run ⟨p,k,x⟩ C0).2.E0::M1 d (PW.run ⟨p,k,x⟩ C0).2.M6::K1 kb (PW.run ⟨p,k,x⟩ C0).2.O0::R):=by obtain⟨me,l,s,B0⟩:=p;obtain⟨pl,pk,m,a,cap,xs,h⟩:=h.Lg;obtain⟨y,h⟩:=(h.g [5] rfl).uf;refine(age (C0:=C0) (h.g [0,1,5,2,6] O) f i o m4).mono ?_;rintro _ w' ⟨as',cs',q,rfl,hs,h⟩;refine⟨rfl,?_⟩;obtain⟨V,j⟩:∃V,(PW.run ⟨⟨me,l,s,B0⟩,k,x⟩ C0).2=V:=⟨_,rfl⟩;rw[j]at h e⊢;obtain⟨⟨u,l',t,A⟩,v,r⟩:=V;simp only at e h;subst e;replace h:=Hp.T' (p:=q.length<=N+1) m4 h;exact Hp.yf (h.g [1,2,4,6,7] O)
theorem adt(h:Hp c w (B7 kb d N b p::M1 d x::K1 kb k::R))(q:PX n mm ⟨p,k,x⟩)(r:n<=19000000):Cr 395 #[Pt b,I C0] w c (I (PW.T0 ⟨p,k,x⟩ C0).1) (B7 kb d N b (PW.T0 ⟨p,k,x⟩ C0).2.E0::M1 d (PW.T0 ⟨p,k,x⟩ C0).2.M6::K1 kb (PW.T0 ⟨p,k,x⟩ C0).2.O0::R):=by
 obtain⟨me,l,s,B0⟩:=p;obtain⟨pl,pk,m,a,cap,xs,h⟩:=h.Lg;have e:(PW.T0 ⟨⟨me,l,s,B0⟩,k,x⟩ C0).2.O0=k∧(PW.T0 ⟨⟨me,l,s,B0⟩,k,x⟩ C0).2.E0.B0=B0∧(PW.T0 ⟨⟨me,l,s,B0⟩,k,x⟩ C0).2.E0.U1=s∧(PW.T0 ⟨⟨me,l,s,B0⟩,k,x⟩ C0).2.E0.me=me:=by
  unfold PW.T0;split
  ·simp
  ·grind
 refine(agf (C0:=C0) (h.g [0,1,6,2,7] O) q r).mono ?_;rintro _ w' ⟨rfl,h⟩;refine⟨rfl,?_⟩;obtain⟨V,t⟩:∃V,(PW.T0 ⟨⟨me,l,s,B0⟩,k,x⟩ C0).2=V:=⟨_,rfl⟩;rw[t]at h e⊢;obtain⟨⟨y,l',v,A⟩,z,u⟩:=V;obtain⟨o,j,i,f⟩:=e;simp only at o j i f;subst o j i f;exact Hp.yf (h.g [0,1,3,5,6,7] O)
end
section
variable{s:HS}
theorem HS.cwE(a:(s.q.length:Int)=s.D0.A0)(C:D8):s.J1.cw C=⟨C,s.O0,s.xc⟩:=by unfold I0.cw;have b:=HS.Ey a;have e:s.J1.D0.A0=s.D0.A0:=rfl;rw[e,b];rfl
theorem HS.ZF(b:(s.q.length:Int)=s.D0.A0)(a:Nat)(C:D8)(k:J2)(x:U2):s.J1.G7 ⟨C,k,x⟩=HS.J1 {s with O0:=k,xc:=x,oc:=some (a,C)}:=by
 unfold I0.G7 HS.J1;simp only;have e:(s.q.map (·.x)++[s.xc]).set s.D0.A0.toNat x=s.q.map (·.x)++[x]:=by rw[<-b,kg,Cz _ _ Zb3];simp
 rw[e];rfl
theorem HS.pwE{y:S2}(a:i3 s.q i=some y)(p:d4):s.J1.pw (i:Int) p=⟨p,s.O0,y.x⟩:=by unfold I0.pw;rw[HS.Yu a];rfl
theorem HS.HJ{y:S2}(a:i3 s.q i=some y)(b:Nat)(p:d4):{s.J1 with A0:=s.J1.A0.set i (some p)}=HS.J1 {s with q:=s.q.set i ⟨y.d,y.x,some (b,p)⟩}:=by
 rw[Z0]at a;obtain⟨f,c⟩:=Cp.1 a;unfold HS.J1;simp only[List.map_set];have e:(s.q.map (·.x)).set i y.x=s.q.map (·.x):=by
  apply tv;intro j;rw[wL];split
  ·grind
  ·rfl
 rw[e];rfl
theorem HS.sZ{y:S2}(a:i3 s.q i=some y)(b:Nat)(p:d4)(k:J2)(x:U2):s.J1.qg (i:Int) ⟨p,k,x⟩=HS.J1 {s with O0:=k,q:=s.q.set i ⟨y.d,x,some (b,p)⟩}:=by rw[Z0]at a;obtain⟨e,c⟩:=Cp.1 a;unfold I0.qg HS.J1;simp only[List.map_set,Int.toNat_natCast];rw[List.set_append_left _ _ Zb1];rfl
end
def G8(s a:E1):Prop:=∀tx w',K0 a.G0 tx=some w'->¬w'.B4=3->∃w,K0 s.G0 tx=some w∧¬w.B4=3
theorem G8.refl(s:E1):G8 s s:=λ_ w h k=>⟨w,h,k⟩
theorem G8.trans{a b c:E1}(h:G8 a b)(k:G8 b c):G8 a c:=λtx w d f=>
 let⟨v,e,g⟩:=k tx w d f
 h tx v e g
theorem Lb.fresh{a:E1}(h:Lb s a)(hs:Qo s):G8 s a:=λtx w b d=>by obtain⟨v,c,e⟩:=h hs tx w b<;>grind
section
variable{A:Int->Prop}{Q:A5->Prop}{C:Int->Prop}{x:PW}
theorem YI{x:PW}(h:RE x.E0)(hs:Qo x.E0.U1){r:E6}(c:K0 x.E0.B0 tx=some r):G8 x.E0.U1 (x.Y4 tx r).E0.U1:=by obtain⟨b,v,l,e,g,f,_⟩:=Pj hs tx r;rw[e];intro j w a d;have a:K0 b.G0 j=some w:=a;grind[RE.J0]
theorem gJ(hs:Qo x.E0.U1)(m:P9)(C0:Int):G8 x.E0.U1 (x.take m C0).2.E0.U1:=by
 unfold PW.take;split
 ·exact G8.refl _
 rename_i r d;split
 ·exact G8.refl _
 split
 ·split
  ·rename_i c;have a:G8 x.E0.U1 (x.decide m.tx r (Decidable.decide (m.H8=1))).2.E0.U1:=by
    rcases Zu (r:=r) (s9:=Decidable.decide (m.H8=1)) c with e|⟨b,l,o,e⟩
    ·rw[e];exact G8.refl _
    ·rw[e];exact(Lb.K7 (tx:=m.tx) (b:=b)).fresh hs
   simp only;split
   ·exact a
   ·exact a
  ·exact G8.refl _
 ·exact G8.refl _
theorem PI.fresh(m:∀z:A5,A z.tx->¬z.W0=4->Q z)(h:PI A Q C x)(C0:Int):G8 x.E0.U1 (x.run C0).2.E0.U1:=by
 unfold PW.run;split
 ·exact G8.refl _
 simp only;have n:=h.Q9 C0;have f1:G8 x.E0.U1 (x.E0.U1.Q9 C0).2:=(Lb.Q9 _ _).fresh h.lJ;have b:PI A Q C (Y8 (λ(x:PW)=>x.E0.B0) Cb (λ(x:PW)(tx:Int)(r:E6)=>if r.z7=false∧C0>=x.O0.D0.M8 r.I1 then x.Y4 tx r else x) {x with E0:={x.E0 with U1:=(x.E0.U1.Q9 C0).2}})∧G8 x.E0.U1 (Y8 (λ(x:PW)=>x.E0.B0) Cb (λ(x:PW)(tx:Int)(r:E6)=>if r.z7=false∧C0>=x.O0.D0.M8 r.I1 then x.Y4 tx r else x) {x with E0:={x.E0 with U1:=(x.E0.U1.Q9 C0).2}}).E0.U1:=by
  have:=Uc (B0:=λ(x:PW)=>x.E0.B0) (r0:=Cb) (f:=λ(x:PW)(tx:Int)(r:E6)=>if r.z7=false∧C0>=x.O0.D0.M8 r.I1 then x.Y4 tx r else x) (I:=λy=>(PI A Q C y∧G8 x.E0.U1 y.E0.U1)∧∀tx∈x.E0.B0.map (·.1),∃r,K0 y.E0.B0 tx=some r) (s:={x with E0:={x.E0 with U1:=(x.E0.U1.Q9 C0).2}}) ⟨⟨n,f1⟩,λtx a=>ca a⟩ λt tx u⟨⟨a,k⟩,d⟩=>?_
  ·exact this.1
  obtain⟨r,c⟩:=d tx u;have e:(K0 t.E0.B0 tx).getD Cb=r:=by rw[c];rfl
  simp only[e];split
  ·refine⟨⟨PI.Y4 m a c,k.trans (YI a.DI a.lJ c)⟩,λj i=>?_⟩;obtain⟨w,v,l,p,_⟩:=Pj a.lJ tx r;rw[p];obtain⟨q,g⟩:=d j i;exact Ld g
  ·omega
 generalize Y8 (λ(x:PW)=>x.E0.B0) Cb (λ(x:PW)(tx:Int)(r:E6)=>if r.z7=false∧C0>=x.O0.D0.M8 r.I1 then x.Y4 tx r else x) {x with E0:={x.E0 with U1:=(x.E0.U1.Q9 C0).2}}=x2 at b;obtain⟨b,f2⟩:=b;have o:G8 x.E0.U1 (if(x2.O0.J6 x2.E0.me x2.E0.me 0 C0).2.1=0 then PW.take {x2 with O0:=(x2.O0.J6 x2.E0.me x2.E0.me 0 C0).2.2} (x2.O0.J6 x2.E0.me x2.E0.me 0 C0).1 C0 else(0,{x2 with O0:=(x2.O0.J6 x2.E0.me x2.E0.me 0 C0).2.2})).2.E0.U1:=by
  split
  ·exact f2.trans (gJ (x:={x2 with O0:=(x2.O0.J6 x2.E0.me x2.E0.me 0 C0).2.2}) b.lJ _ C0)
  ·exact f2
 refine Uc (I:=λ(t:PW)=>G8 x.E0.U1 t.E0.U1) o λt tx _ a=>?_;simp_all[rn]
end
theorem PT.mono{A c:Int->Prop}{Q b:A5->Prop}{x:PW}(h:PT A Q x)(e:∀tx,A tx->c tx)(d:∀r,Q r->b r):PT c b x:=by obtain⟨S0,g,f⟩:=h.ok;exact⟨⟨S0,g,λr a=>d r (f r a)⟩,λtx r a=>e tx (h.B0 tx r a)⟩
def Ua(P:zf)(me:Int)(o:Option d4)(d:U2):Prop:=match o with
 |some p=>(∀k,PT P.A P.Q ⟨p,k,d⟩)∧p.me=me∧RE p∧∀T,P.C me T->PB T p
 |none=>∃S0 l,s6 d l S0∧d.Clean∧FL S0∧(∀r∈S0,P.Q r)∧(∀tx w,K0 (Tb S0).G0 tx=some w->P.A tx)∧∀T,P.C me T->K0 (Tb S0).G0 T=none
section
variable{P P':zf}{o:Option d4}{d:U2}
theorem zf.hQ(P:zf):∀z:A5,P.A z.tx->¬z.W0=4->P.Q z:=λ_ b a=>⟨b,λe=>absurd e a⟩
theorem zf.D4(h:P.D tx):P.Q ⟨4,tx,0#16,Y3,X0,X0⟩:=⟨h.1,λ_=>h⟩
theorem Ua.mono(h:P.Le P')(g:∀T,P'.C me T->P.C me T)(hs:Ua P me o d):Ua P' me o d:=by
 cases o with
 |some p=>
  obtain⟨f,e,c,b⟩:=hs
  exact⟨λk=>(f k).mono h.A (λr=>zf.Q.mono h),e,c,λT a=>b T (g T a)⟩
 |none=>
  obtain⟨S0,l,f,e,c,b,n,m⟩:=hs
  exact⟨S0,l,f,e,c,λr j=>(b r j).mono h,λtx w i=>h.A tx (n tx w i),λT a=>m T (g T a)⟩
theorem Ua.pi(hs:Ua P me (some p) d)(k:J2):PI P.A P.Q (P.C me) ⟨p,k,d⟩:=⟨hs.1 k,hs.2.2.1,hs.2.2.2⟩
theorem PI.adf(h:PI P.A P.Q (P.C me) ⟨p,k,d⟩)(b:p.me=me):Ua P me (some p) d:=⟨λa=>h.pt.O0 a,b,h.DI,h.pb⟩
theorem Ua.off(hs:Ua P me o d):Ua P me none d:=by
 cases o with
 |none=>exact hs
 |some p=>
  obtain⟨h,_,_,g⟩:=hs;obtain⟨⟨S0,a,i⟩,l⟩:=h ⟨⟨0,0,0⟩,⟨0#64,[]⟩,[],0#64,[]⟩;refine⟨S0,p.X9,a.X9,a.TH,a.tie.Gd,i,λtx w e=>?_,λT f=>?_⟩
  ·cases hp:Sf p.U1 tx with
   |none=>rw[a.tie.fr tx hp]at e;cases e
   |some d=>obtain⟨b,c,_,_⟩:=Bg hp;obtain⟨r,k⟩:=a.B0 tx b c<;>grind
  ·refine a.tie.fr T ?_;cases hp:Sf p.U1 T with
   |none=>rfl
   |some d=>obtain⟨b,c,j,_⟩:=Bg hp;have:=(g T f).G0 b c;omega
theorem Ua.Gd(hs:Ua P me o d)(Q6 O8:Int):Ua P me none (d.N6 Q6 O8):=by obtain⟨S0,l,i,h,g,f,c,b⟩:=hs.off;obtain⟨l',j,a,c1,c2,c3,_,c4⟩:=i.N6 Q6 O8;have e:a=[]:=c4 h.1;subst e;rw[Jb]at c3;subst c3;exact⟨S0,l',c1,c2,g,f,c,b⟩
theorem Ua.S0(hs:Ua P me o d):∃S0 l,I' d=some (l,S0)∧∀r∈S0,P.Q r:=by obtain⟨S0,l,b,_,_,a,_,_⟩:=hs.off;exact⟨S0,l,b.Y9,a⟩
theorem uu:∀(xs:List xf)(p b:d4),(∀x∈xs,¬(x.J0.toNat:Int)=0)->xs.foldl Da (some p)=some b->(∀tx r,K0 p.B0 tx=some r->¬(r.J0.toNat:Int)=0)->∀tx r,K0 b.B0 tx=some r->¬(r.J0.toNat:Int)=0
 |[],p,b,_,h,f=>Zb1
 |x::xs,p,b,e,h,f=>by
  rw[Ti]at h;cases a:Da (some p) x with
  |none=>simp_all[gj]
  |some q=>
   rw[a]at h;refine uu xs q b (λy d=>e y (Ta _ d)) h λtx r c=>?_;unfold Da at a;simp only at a;split at a
   ·grind
   ·split at a
    ·cases a
    ·injection a with a;rw[<-a]at c;have c:K0 (R1 p.B0 x.n ⟨x.J0,0,1,0,true,false,false⟩) tx=some r:=c;by_cases g:tx=x.n
     ·grind[G1]
     grind[Y0]
theorem CO{S0:List A5}{d:U2}(e:I' d=some (l,S0))(a:d4.new me R0 d=some p):∀tx r,K0 p.B0 tx=some r->¬(r.J0.toNat:Int)=0:=by
 unfold d4.new at a;rw[e]at a;simp only at a;cases hs:E1.new R0 (P6 S0).N0 with
 |none=>simp_all
 |some s=>rw[hs]at a;simp only at a;have a:(P6 S0).L5.foldl Da (some ⟨me,l,s,[]⟩)=some p:=a;refine uu _ _ p (λx b=>?_) a (λtx r c=>by cases c);obtain⟨w,_,g,f⟩:=Md.mp b<;>grind
theorem Ua.Y9(hs:Ua P me none d)(c:d4.new me R0 d=some p):Ua P me (some p) d∧∀tx w,K0 p.U1.G0 tx=some w->w.B4=3:=by
 obtain⟨S0,l,h,o,g,n,m,x⟩:=hs;have f:=h.Y9;obtain⟨q,E,D,z,y⟩:=rG f g c;obtain⟨e,b,t⟩:=QX.Y9 (A:=P.A) (Q:=P.Q) (me:=me) ⟨S0,l,h,o,g,n,m⟩ c;have F:∀T,P.C me T->K0 p.U1.G0 T=none:=by
  intro T k;cases a:K0 p.U1.G0 T with
  |none=>rfl
  |some w=>obtain⟨s,u,_⟩:=q.Ih T w.I3 (Jl a (b T w a))<;>grind
 refine⟨⟨e.1,e.2,⟨λtx w a=> .inr (.inr (b tx w a)),λtx w r a j _=>absurd (b tx w a) j,λtx r i v=>?_,CO f c⟩,λT k=>⟨λw a=>?_,λr i=>?_⟩⟩,b⟩
 ·grind
 ·simp_all
 grind
theorem Wu(hs:Ua P me (some p) d)(E:P.A tx)(J0:BitVec 16){b:Int}(G:b=C0->K0 p.B0 tx=none∧¬P.C me tx):Ua P me (some (p.V2 tx J0 b C0).2) d:=by
 have h0:=hs;obtain⟨y,t,s,g⟩:=hs;have hpt:∀k,PT P.A P.Q ⟨(p.V2 tx J0 b C0).2,k,d⟩:=λk=>PT.V2 (y k) E J0 b C0;have J:(p.V2 tx J0 b C0).2.me=me:=by
  unfold d4.V2;split;·exact t
  split;·exact t
  split<;>exact t
 have hmk:Qe (W J0) p.me=true->¬(J0.toNat:Int)=0:=by intro o e;have i:J0=0#16:=Sh Zb5;rw[i]at o;unfold Qe at o;simp[W]at o
 have K:Qo p.U1:=(h0.pi ⟨⟨0,0,0⟩,⟨0#64,[]⟩,[],0#64,[]⟩).lJ;have alJ:∀j w,K0 p.U1.G0 j=some w->∃r,K0 p.B0 j=some r:=by obtain⟨S0,H,_⟩:=(y ⟨⟨0,0,0⟩,⟨0#64,[]⟩,[],0#64,[]⟩).ok;exact H.B0
 refine⟨hpt,J,?_⟩;unfold d4.V2;split
 ·simp_all
 rename_i x;have x:Qe (W J0) p.me=true:=by simpa using x
 split
 ·rename_i r m;exact⟨s.row m O O O,λT f=>(g T f).row m O⟩
 rename_i m;have u:∀(q:E6)j v,K0 (R1 p.B0 tx q) j=some v->(j=tx∧v=q)∨(j≠tx∧K0 p.B0 j=some v):=by
  intro q j v l;by_cases n:j=tx
  ·rw[n,G1]at l;simp_all
  ·simp_all[Y0]
 have hnw:K0 p.U1.G0 tx=none:=by
  cases a:K0 p.U1.G0 tx with
  |none=>rfl
  |some w=>grind
 split
 ·refine⟨⟨s.st,λj w r a F c=>?_,λj r c l=>?_,λj r c=>?_⟩,λT f=>⟨(g T f).G0,λr c=>?_⟩⟩
  ·grind[RE.Y9]
  ·grind[RE.Y4]
  ·grind[RE.J0]
  ·rcases u _ T r c with⟨_,e⟩|⟨_,e⟩
   ·rw[e]
   ·exact(g T f).B0 r e
 ·rename_i z;have z:b=C0:=m4
  have hnc:=(G z).2;simp only;have D:∀j w,K0 (p.U1.I1 tx).2.G0 j=some w->(j=tx∧w=⟨1,0,[]⟩)∨(j≠tx∧K0 p.U1.G0 j=some w):=by
   intro j w a;unfold E1.I1 at a;simp only at a;split at a
   ·have a:K0 (R1 p.U1.G0 tx ⟨1,0,[]⟩) j=some w:=a;by_cases n:j=tx
    ·rw[n,G1]at a;simp_all
    simp_all[Y0]
   ·grind
  refine⟨⟨λj w a=>?_,λj w r a F c=>?_,λj r c l=>?_,λj r c=>?_⟩,λT f=>⟨λw a=>?_,λr c=>?_⟩⟩
  ·rcases D j w a with⟨_,e⟩|⟨_,e⟩
   ·simp[*]
   ·exact s.st j w e
  ·grind[RE.Y9]
  ·grind[RE.Y4]
  ·grind[RE.J0]
  ·rcases D T w a with⟨i,_⟩|⟨_,i⟩
   ·simp_all
   ·exact(g T f).G0 w i
  ·rcases u _ T r c with⟨_,e⟩|⟨_,e⟩
   ·rw[e]
   ·exact(g T f).B0 r e
theorem Jr{J0:BitVec 16}{b:Int}:∀j w,j≠tx∨¬b=C0->K0 (p.V2 tx J0 b C0).2.U1.G0 j=some w->K0 p.U1.G0 j=some w:=by grind[d4.V2,E1.I1,Y0]
theorem Ua.run(hs:Ua P me (some p) d)(g:Ze P.F k)(E:¬me=k.D0.A0)(C0:Int)(s:∀tx,P.NV me tx->P.C me tx∨∃w,K0 (PW.run ⟨p,k,d⟩ C0).2.E0.U1.G0 tx=some w∧¬w.B4=3):
 Ua P me (some (PW.run ⟨p,k,d⟩ C0).2.E0) (PW.run ⟨p,k,d⟩ C0).2.M6∧Wn P.A P.F k me (PW.run ⟨p,k,d⟩ C0).2:=by
 have q:=hs.pi k;have b:p.me=me:=hs.2.1;have n:∀m,P.F ⟨p.me,0⟩ m->m.W0=4->m.H8=1->P.Q ⟨4,m.tx,0#16,Y3,X0,X0⟩:=λm c i a=>zf.D4 (c.2.2.2 i a);have a:=PI.run (F:=λe m=>e.dir=1∨P.F e m) (V:=λ_ _=>True) (C0:=C0) P.hQ q (λy j=>⟨λm b=> .inr ((g y j).1 m b),λm b=> .inr ((g y j).2 m b)⟩) Zb6 (λm c i a=>n m Zb7 i a) (λ_ _ _ _ _ _=> .inl O) (λ_ _ _=>trivial);have o:=PI.run (F:=P.F) (V:=λtx H8=>P.NV me tx->¬(H8=1∨H8=2)) (C0:=C0) P.hQ q g Zb6 n (λW0 tx H8 x u c=>⟨c,x,λ_ D l=>u D Zb7,λhk4=>?_⟩) (λtx r f l=>?_)
 ·refine⟨PI.adf o.1 ?_,?_⟩
  ·rw[o.2.me];exact b
  simp_all
 ·
  simp_all[End.ra,P9.up,End.up]
 ·rcases s tx l with v|⟨w,t,z⟩
  ·have:=(a.1.pb tx v).B0 r f;omega
  ·have:=a.1.DI.Y4 tx r f (a.1.DI.Y9 tx w r t z f);omega
theorem JX(t:L3)(tx:Int)(k:w4)(a:Bool)(C0:Int):(t.ask tx k a C0).1=0∨(t.ask tx k a C0).1=11∨(t.ask tx k a C0).1=17∨(t.ask tx k a C0).1=13:=by unfold L3.ask<;>grind
theorem adw(hs:Ua P me (some p) d){pl:R9}{op:Op}(a:(p.t7 pl op C0).1.Ge=18∨(p.t7 pl op C0).1.Ge=16∨((p.t7 pl op C0).1.Ge=0∧op.W0=4)):(∃w,K0 p.U1.G0 op.tx=some w∧¬w.B4=3)∧PB op.tx (p.t7 pl op C0).2:=by
 obtain⟨_,_,k,_⟩:=hs;unfold d4.t7 at a⊢;split at a
 ·simp_all
 rename_i t;rw[V0 t];split at a
 ·simp_all
 rename_i r j;simp only at a⊢;split at a
 ·simp_all
 rename_i o;rw[V0 o];have i:r.z7=false:=by
  cases i:r.z7 with
  |false=>rfl
  |true=>simp_all
 have ajb:∀q,K0 p.B0 op.tx=some q->q.Y4=0:=by
  intro q b;rw[j]at b;injection b with b
  rw[<-b];exact k.Y4 op.tx r j i
 have F:∀{s:E1},(∀w,K0 s.G0 op.tx=some w->w.B4=2)->PB op.tx {p with U1:=s}:=λc=>⟨c,ajb⟩;simp only at a⊢;unfold E1.t7 at a⊢;cases c:K0 p.U1.G0 op.tx with
 |none=>grind[wa]
 |some w=>
  rw[c]at a;simp only at a⊢;have K:=k.st op.tx w c;obtain⟨e,f⟩:∃e,wa (some w) op.W0=e:=⟨_,rfl⟩;rw[f]at a⊢;have aef:(e=16∨e=18∨e=0)->¬w.B4=3∧w.Ge=e:=by
   intro h;unfold wa at f;split at f
   ·omega
   simp only at f;split at f
   ·omega
   ·omega
  have anq:∀(s:E1)(x:I7)(z:Int),K0 s.G0 op.tx=some x->(x.B4=1∨x.B4=2)->¬z=0->∀v,K0 (s.qb op.tx z).2.G0 op.tx=some v->v.B4=2:=by
   intro s x z hx h12 G v hvv;unfold E1.qb at hvv;rw[hx]at hvv;simp only at hvv;split at hvv
   ·simp_all
   ·have hvv:K0 (R1 s.G0 op.tx ⟨2,z,x.I3⟩) op.tx=some v:=hvv;grind[G1]
  by_cases A:e=0
  ·subst A;obtain⟨u,aob⟩:=aef (.inr (.inr rfl));have h12:w.B4=1∨w.B4=2:=m4
   simp only[not_true_eq_false,if_false]at a⊢;refine⟨⟨w,rfl,u⟩,?_⟩;split at a
   ·grind
   ·rename_i m;rw[V0 m];have amu:=JX p.U1.S3 op.tx op.key (decide (¬op.W0=1)) C0;generalize p.U1.S3.ask op.tx op.key (decide (¬op.W0=1)) C0=x at a amu⊢;split at a
    ·grind
    rename_i C;rw[V0 C];split at a
    ·simp_all
    rename_i D;rw[V0 D];obtain⟨v,i⟩:∃v:Ba,(if op.W0=2 then(⟨true,op.n⟩:Ba)else X0)=v:=⟨_,rfl⟩;rw[i]at a⊢;obtain⟨g,l⟩:∃g:E1,g={p.U1 with S3:=x.2}:=⟨_,rfl⟩;rw[<-l]at a⊢;have H:K0 g.G0 op.tx=some w:=by rw[l];exact c
    obtain⟨q,b⟩:∃q,g.Yg op.tx w op.key v=q:=⟨_,rfl⟩;rw[b]at a⊢;have J:q.1=18∨q.1=16∨(q.1=0∧op.W0=4):=a;have E:∃y,K0 q.2.G0 op.tx=some y∧(y.B4=1∨y.B4=2):=by
     rw[<-b];unfold E1.Yg;split
     ·simp[*]
     ·grind[G1]
    grind
  grind
end
end Go.Proofs.YtaaihojmcfaejaaGreatDoor
