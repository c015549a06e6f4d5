/- Lemmas for the tops: the walk of the house and its laws. No condition is added. -/
import Derived.Test.YtaaihojmcfaejaaGreatDoorQap
import Derived.Test.YtaaihojmcfaejaaGreatDoorQah
import Derived.Test.YtaaihojmcfaejaaGreatDoorQaf
import Derived.Test.YtaaihojmcfaejaaGreatDoorQan
import Derived.Test.YtaaihojmcfaejaaGreatDoorQag
set_option linter.all false
namespace Go.Proofs.YtaaihojmcfaejaaGreatDoor
open Go Go.RowKit Tryz
variable{r:A5}{d:C6}{s:E1}{t:L3}{S0 l:List A5}{N0:List E2}{L R:List HP}{E4 b cap i m n:Nat}{a a2:Option Addr}{c w:World}{x:ib}{k:w4}
theorem lp:∀(l:List A5)(r:A5),N5 (l++[r])=(match N5 l,P8 r with|some b,some x=>some (b++x)|_,_=>none)
 |[],r=>by simp only[List.nil_append,N5];cases P8 r<;>simp
 |q::l,r=>by simp only[List.cons_append,N5,lp l r];cases P8 q<;>cases N5 l<;>cases P8 r<;>simp
theorem Wz(a:r∈l)(h:P8 r=none):N5 l=none:=by
 induction l with
 |nil=>cases a
 |cons q l b=>
  unfold N5;rcases Vk.1 a with rfl|a
  ·rw[h]
  ·rw[b a];cases P8 q<;>rfl
theorem wy{b:List B}(h:P8 r=some b):b.length<=100:=by
 unfold P8 at h;have a:∀(u:BitVec 64)(n:Nat),(U5 u n).length<=n:=λu n=>by
  unfold U5;split
  ·rw[eh];exact V7 _
  ·exact ye _
 have hso:=Zd r.old;have c:=Zd r.new;split at h
 ·cases h
 simp only at h;split at h
 ·injection h with h;rw[<-h,j7];have:=a ((Kc [(3,r.W0-1),(21,r.tx)]).getD 0#64) 3;have:=a (W r.J0) 2;omega
 split at h
 ·injection h with h;rw[<-h];simp only[List.length_append,w4.bytes,List.length_cons,List.length_nil];have:=a ((Kc [(3,r.W0-1),(21,r.tx)]).getD 0#64) 3;omega
 ·injection h with h;rw[<-h];have:=a ((Kc [(3,r.W0-1),(21,r.tx)]).getD 0#64) 3;omega
theorem Uh:∀{l:List A5}{b:List B},N5 l=some b->b.length<=100*l.length
 |[],b,h=>by simp[N5]at h;simp[<-h]
 |r::l,b,h=>by
  unfold N5 at h;cases a:P8 r with
  |none=>rw[a]at h;cases h
  |some x=>
   cases c:N5 l with
   |none=>rw[a,c]at h;cases h
   |some y=>rw[a,c]at h;injection h with h;rw[<-h,j7,ze];have:=wy a;have:=Uh c;omega
section
theorem UL(hs:Sx za w a n cap l)(C:n<=10000):Cs 428 #[.slice a n cap] w (λe w'=>∃c g,e= .returned (.tuple #[.slice c ((N5 l).getD []).length g,.bool (N5 l).isSome])∧Hp w w' [so 5 eB c g ((N5 l).getD [])]):=by
 obtain rfl:=hs.len;have h:=Hp.start w;refine R2 func428 O ?_;replace h:=h.G4 5 eB;refine p5.A6 kn [4,9,10,11] (λm vs w'=>∃(i:Int)(c:Option Addr)(g:Nat)(b:List B),vs=[.slice c b.length g,.slice a l.length cap,I l.length,I i]∧(0<=i∧i+m=l.length∧N5 (l.take i.toNat)=some b)∧Hp w w' [so 5 eB c g b]) l.length ⟨0,none,0,[],rfl,⟨m4,m4,rfl⟩,h⟩ ?_;rintro m _ w1 F ⟨i,a1,H,b,rfl,y,h⟩;obtain⟨h0,D,j⟩:=y;refine BR.T5 (λp=>?_) λp=>?_
 ·have k:i.toNat<l.length:=m4
  have s:N5 (l.take (i+1).toNat)=_:=(V4 N5 (show l.take (i+1).toNat=l.take i.toNat++[l.getD i.toNat Xi] by rw[show(i+1).toNat=i.toNat+1 by omega,bV k];simp[k])).trans (lp _ _);have t:l.getD i.toNat Xi∈l:=by simp[k]
  have E:=Uh j;have K:(l.take i.toNat).length<=l.length:=by rw[Ga];omega
  refine Lz hs λb1 A J=>Oa.ro h hs Zb9 (K5 (d:=Xi) m4) ?_;obtain⟨r,f⟩:∃r,l.getD i.toNat Xi=r:=⟨_,rfl⟩;rw[f]at s t⊢;refine I2 h O λb2 w h=>J3 h 0 O O O λw h=>O4 h 0 O O (xb (SY h) ?_);cases o:P8 r with
  |none=>rintro _ w ⟨a3,u,rfl,h⟩;have v:=Wz t o;rw[v];refine Q5 ?_;simp[p]at f;subst f;replace h:=h.G4 (5) eB;exact⟨_,_,rfl,h.q 4 [0] O⟩
  |some x=>
   rw[j,o]at s;have G:=wy o;rintro _ w ⟨a3,u,rfl,h⟩;refine m5 (A4.Pk (Ca.of (w9:=1) kn O O O O O O) h 2 O O O (h.Ew 0 O) Zb5 (λ_ _=>rfl) λa2 E4 w h=>i5 ?_);simp[p]at f;subst f;refine⟨(m-1),?_,_,_,_,_,rfl,?_,h.q 3 [2] O⟩
   ·omega
   ·grind[]
 ·have z:l.take i.toNat=l:=sd m4;rw[z]at j;rw[j];exact⟨_,_,rfl,h⟩
end
theorem aci{P Q:Prop}(q:Q)(f:Q->P:=by intro q;exact BR.not (Q5 (RD.Vh (m:=k) kn O O O (Uy m4) m4 (N1 (RY (xs:=Up) (h.Z4 0 O) (jh.up h)) λw h'=>q w h')))):P:=f q
theorem Tk.QL(t:Tk)(n:Nat):(t.take n).2.V5.length<=t.V5.length:=by unfold Tk.take<;>grind
theorem Tk.acF(t:Tk)(a b:Int):(t.val a b).2.V5.length<=t.V5.length:=by
 unfold Tk.val;split
 ·simp
 ·exact Tk.QL _ _
theorem Tk.nP(t:Tk):t.tf.2.V5.length<=t.V5.length:=by grind[Tk.tf,Tk.QL,Tk.acF]
section
theorem ahn{xs:List B}(hs:Sx eB w a n cap xs)(x:n<=1000000000):Cs 204 #[.slice a n cap] w (Zb w (.tuple #[(rb xs).1.v,I ((rb xs).2:Nat)]) []):=by
 obtain rfl:=hs.len;have h:=Hp.start w;have j:=Tk.nP ⟨xs,false⟩;obtain⟨g,d⟩:∃g,Tk.tf ⟨xs,false⟩=g:=⟨_,rfl⟩;rw[d]at j;simp only at j;have s:=hs.cap;obtain⟨k,p⟩:∃k:Nat,xs.length-g.2.V5.length=k:=⟨_,rfl⟩;have jh:=hs.take (m:=k) m4;obtain⟨q,b⟩:∃q,rb xs=q:=⟨_,rfl⟩;rw[b];unfold rb at b;simp only[d,p]at b;refine R2 func204 O (I2 h O λb1 w h=>I2 h O λb2 w h=>xb (agY (t:=⟨xs,false⟩) hs h) ?_);rw[d];rintro _ w ⟨a2,u,E4,rfl,r,h⟩;obtain rfl:=r.len;refine I2 h O λy w h=>J3 h 0 O O O λw h=>U0 h 1 O O (WR.vp (i64 Zb1) (U0 h 1 O O (BR.O' (λi=>?_) λi=>?_)))
 ·rw[S1 i]at b;subst b;exact J3 h 2 O O O λw h=>O4 h 2 O O ⟨rfl,h.q 3 [] O⟩
 ·rw[V0 Zb1]at b;refine O4 h 0 O O (xb (SY h) ?_);cases e:P8 g.1 with
  |none=>rw[e]at b;simp only at b;subst b;rintro _ w ⟨a3,l,rfl,h⟩;exact Q5 (Q5 (J3 h 3 O O O λw h=>O4 h 3 O O ⟨rfl,h.q 4 [] O⟩))
  |some Up=>
   rw[e]at b;simp only at b;rintro _ w ⟨a3,l,rfl,h⟩;by_cases c:Up=xs.take k
   ·rw[S1 c]at b;subst b;refine aci λw h'=>?_;replace h:=h.H6 h';refine BR.not (BR.Mv c ?_);have o:((xs.length:Int)-g.2.V5.length)=(k:Int):=m4
    refine O4 h 1 O O (J3 h 3 O O O λw h=>O4 h 3 O O ⟨wJ O ?_,h.q 4 [] O⟩);exact V4 (λz=>[g.1.v,I z]) o
   ·rw[V0 c]at b;subst b;refine aci λw h'=>?_;replace h:=h.H6 h';exact BR.not (BR.YD c (J3 h 3 O O O λw h=>O4 h 3 O O ⟨rfl,h.q 4 [] O⟩))
end
theorem VB(b:List B):(rb b).2<=b.length:=by unfold rb<;>grind
theorem sq:∀f,s8 f []=([],[])
 |0=>rfl
 |f+1=>by simp[s8,Gy]
theorem Mn:∀(n:Nat)(ys:List B)(f:Nat),ys.length<=n->ys.length<=f->s8 f ys=s8 ys.length ys
 |0,ys,f,h,_=>by simp_all[sq]
 |n+1,ys,f,h,a=>by
  cases ys with
  |nil=>simp[sq]
  |cons y l=>
   cases f with
   |zero=>simp at a
   |succ f=>
    rw[ze]at h a⊢;unfold s8;simp only;split
    ·rfl
    ·rename_i h0;have b:((y::l).drop (rb (y::l)).2).length<=l.length:=by rw[Ve,ze];omega
     rw[Mn n _ f m4 m4,Mn n _ l.length m4 b]
theorem DH{ys:List B}(h:¬(rb ys).2=0):s8 ys.length ys=((rb ys).1::(s8 (ys.drop (rb ys).2).length (ys.drop (rb ys).2)).1,(s8 (ys.drop (rb ys).2).length (ys.drop (rb ys).2)).2):=by
 have b:=VB ys;cases ys with
 |nil=>simp_all
 |cons y l=>
  have a:((y::l).drop (rb (y::l)).2).length<=l.length:=by rw[Ve,ze];omega
  rw[ze]
  conv=>lhs;unfold s8
  simp only;rw[V0 h,Mn l.length _ l.length a a]
theorem BH{ys:List B}(h:(rb ys).2=0):s8 ys.length ys=([],ys):=by
 cases ys with
 |nil=>exact sq _
 |cons y l=>simp_all[s8]
section
theorem ahH{xs:List B}(hs:Sx eB w a n cap xs)(C:n<=1000000):Cs 151 #[.slice a n cap] w (λe w'=>∃k o,e= .returned (.tuple #[.slice k (s8 xs.length xs).1.length o,I ((xs.length:Int)-(s8 xs.length xs).2.length)])∧Hp w w' [so 195 za k o (s8 xs.length xs).1]):=by
 obtain rfl:=hs.len;have h:=Hp.start w;obtain⟨D,j⟩:∃D,s8 xs.length xs=D:=⟨_,rfl⟩;rw[j];refine R2 func151 O ?_;replace h:=h.G4 195 za;refine p5.A6 kn [0,4,5] (λm vs w'=>∃(a1:Option Addr)(f:Nat)(b:List A5)(a2:Option Addr)(E4:Nat)(ys:List B),vs=[.slice a xs.length cap,.slice a1 b.length f,.slice a2 ys.length E4]∧(ys.length+1=m∧b.length+ys.length<=xs.length∧Sx eB w a2 ys.length E4 ys∧D=(b++(s8 ys.length ys).1,(s8 ys.length ys).2))∧Hp w w' [so 195 za a1 f b]) (xs.length+1) ⟨none,0,[],a,cap,xs,rfl,⟨rfl,Zb3,hs,by rw[j];rfl⟩,h⟩ ?_;rintro m _ w1 G ⟨a1,f,b,a2,E4,ys,rfl,v,h⟩;obtain⟨F,E,g,d⟩:=v;have z:=VB ys;have A:=g.cap;have r:= @DH ys;have i:= @BH ys;refine xb (ahn (g.up h) m4) ?_;obtain⟨q,t⟩:∃q,rb ys=q:=⟨_,rfl⟩;rw[t]at z r i⊢;rintro _ w ⟨rfl,x⟩;replace h:=h.H6 x;refine I2 h O λb2 w h=>J3 h 0 O O O λw h=>BR.eq (λy=>?_) λy=>?_
 ·have c:=i m4;rw[c,Jb]at d;subst d;exact i5 ⟨_,_,rfl,h.q 2 [1] O⟩
 ·have c:=r m4;have hs3:=g.drop (l:=q.2) m4;have p:(ys.drop q.2).length=ys.length-q.2:=Ve;rw[c]at d;refine O4 h 0 O O (I2 h O λb1 w h=>A4.Yb (u:=⟨_,_,_,⟨_,_,_,_⟩,⟨_,_⟩,⟨_,_⟩⟩) (Ca.of (w9:=56) kn O O O O O O) h 2 O O 0 O O O m4 (λ_ _=>rfl) λa3 s w h=>RD.cut (l:=q.2) kn O O (Uy O) O m4 ?_);rw[<-p]at hs3;refine⟨(ys.drop q.2).length+1,m4,a3,s,b++[q.1],_,_,ys.drop q.2,vs3 O O (V4 (λn=>Value.slice _ n _) p.symm),⟨rfl,?_,hs3,?_⟩,h.q 3 [2] O⟩
  ·grind
  simp[*]
end
theorem acu{P Q:Prop}(q:Q)(f:Q->P:=by intro q;exact mf (Y6 h [0,1,2,4,3,55,106] λh=>U3 0 O O (U0 h 4 O O ⟨h,A4.vZ BG (h.g [2] O) _ O O λw h=>q w h⟩))):P:=f q
theorem cz{P:Prop}(h:P:=by replace h:=Hp.Nb (h.g [1,2] O);exact⟨rfl,h.q 2 [0] O⟩):P:=h
def il(a:List (Int×ib))(tx:Int):ib×List (Int×ib):=match K0 a tx with
 |some w=>(w,a)
 |none=>(zg,R1 a tx zg)
def Ny(x:ib)(N0:List E2):ib×List E2:=if(x.J0.toNat:Int)=0∨x.T1=true then(x,N0)else({x with T1:=true,K2:=[]},gc (N0++Z2 x.K2))
section
theorem DX{xs ys:List E2}{a1:Option Addr}{c1 c2:Nat}(i:Sx F2 w a1 xs.length c1 xs)(g:Sx F2 w a2 ys.length c2 ys)(f:xs.length<=100000000)(d:ys.length<=100000000)(hs:Sx yX w (some ⟨b,0,none⟩) 2 2 [⟨a1,c1,xs⟩,⟨a2,c2,ys⟩]):
 Cs 206 #[.slice (some ⟨b,0,none⟩) 2 2] w (λe w'=>∃a c,e= .returned (.slice a (xs++ys).length c)∧Hp w w' [so 157 F2 a c (xs++ys)]):=by
 have e:Pm [⟨a1,c1,xs⟩,⟨a2,c2,ys⟩]=xs++ys:=by simp[Pm]
 rw[<-e];refine bZ (l:=[⟨a1,c1,xs⟩,⟨a2,c2,ys⟩]) hs (λs hs=>?_) Zb3 λs hs=>?_
 ·grind
 grind
theorem mZ{p:Z1}(h:Hp c w (Sg b p::R))(i:p.H9.length<=100000000):Cr 154 #[Pt b] w c (.tuple #[]) (Sg b p.bb::R):=by
 refine R2 func154 O (pN h.re λab cb m f j h=>U0 h 0 O O (BR.eq (λa=>?_) λa=>?_))
 ·have e:p.bb={p with N0:=gc p.H9,left:= -1,G0:=[]}:=by unfold Z1.bb;rw[S1 a]
  rw[e];refine U0 h 0 O O (ga (MF (h.Z4 3 O) m4) λa1 k w d=>?_);replace h:=h.H6 d;refine J3 h 1 O O O λw h=>J3 h 1 O O O λw h=>U0 h 1 O O (A4.alB (by exact Vi O O) (h.g [3] O) O λw h=>?_);replace h:=Hp.Nb (Gp:=[]) (h.g [2,1,0,4] O);exact⟨rfl,h.q 2 [0] O⟩
 ·have e:p.bb=p:=by unfold Z1.bb;rw[V0 a]
  rw[e];replace h:Hp _ _ (Sg _ (p)::_):=Hp.Nb h;exact⟨rfl,h⟩
theorem NF{ab i:Option Addr}{nb cb j k:Nat}{left tx:Int}{a:List (Int×ib)}(h:Hp c w (bk b [.slice ab nb cb,.map (some m),I left,.slice i j k] 249::mr I Hc m a::R)):Cs 155 #[Pt b,I tx] w (λe w'=>∃d,e= .returned (Pt d)∧Hp c w' (Hc d (il a tx).1::mh I Hc m (il a tx).2 tx d::bk b [.slice ab nb cb,.map (some m),I left,.slice i j k] 249::R)):=by
 refine R2 func155 O ?_;obtain⟨o,f⟩:∃o,K0 a tx=o:=⟨_,rfl⟩;cases o with
 |none=>
  have e:il a tx=(zg,R1 a tx zg):=by unfold il;rw[f]
  rw[e];refine U0 h 0 O O (RD.tn BG h 1 O _ Zb9 (Q5 (A4.Xp w4.v Ba.v h λb1 w h=>I2 h O λb2 w h=>U0 h 2 O O (A4.Wq zg BG (h.g [3] O) tx f O O O λw h=>?_))));replace h:Hp _ _ (Hc _ zg::_):=Hp.La (Oq:=0#16) (h.g [1,2] O);exact⟨_,rfl,h⟩
 |some x=>
  have e:il a tx=(x,a):=by unfold il;rw[f]
  rw[e];exact U0 h 0 O O (RD.Ed BG h 1 O _ Zb9 λl h=>m5 ⟨_,rfl,h⟩)
theorem ahF{d:Nat}{ab i:Option Addr}{cb j n:Nat}{left:Int}(h:Hp c w (Hc d x::bk b [.slice ab N0.length cb,.map (some m),I left,.slice i j n] 249::so 157 F2 ab cb N0::R))(p:x.K2.length<=100000000)(s:N0.length<=100000000):Cs 156 #[Pt b,Pt d] w (λe w'=>∃ab' cb',e= .returned (.tuple #[])∧Hp c w' (Hc d (Ny x N0).1::bk b [.slice ab' (Ny x N0).2.length cb',.map (some m),I left,.slice i j n] 249::so 157 F2 ab' cb' (Ny x N0).2::R)):=by
 refine R2 func156 O ?_;have l:(x.J0.toNat:Int)=0∨x.T1=true->Ny x N0=(x,N0):=λr=>by unfold Ny;rw[S1 r]
 by_cases k:(x.J0.toNat:Int)=0
 ·rw[l (.inl k)];refine K9 (h.Mb) (λo h=>U0 h 0 O O (mf (Q5 ?_)));replace h:Hp _ _ (Hc _ (x)::_):=Hp.La h;exact⟨_,_,rfl,h⟩
 by_cases a:x.T1=true
 ·rw[l (.inr a)];refine K9 (h.Mb) (λo h=>U0 h 0 O O (Wa (U0 h 0 O O (BR.s9 Zb9 ?_))));replace h:Hp _ _ (Hc _ (x)::_):=Hp.La h;exact⟨_,_,rfl,h⟩
 ·have e:Ny x N0=({x with T1:=true,K2:=[]},gc (N0++Z2 x.K2)):=by unfold Ny;rw[V0 (λh=>h.elim k a)]
  rw[e];have a:x.T1=false:=by simpa using a
  have u:(N0++Z2 x.K2).length<=1000000000:=by rw[j7,Db];omega
  refine K9 (h.Mb) (λo h=>U0 h 0 O O (Wa (U0 h 0 O O (BR.no Zb9 (Y6 h [0,1,2,3,5,4,56,107,108,109,10,11,112] λh=>U3 2 O O (ga (rZ h Zb9) λa1 t w h=>⟨h.q 5 [1,2,3,4] O,I2 h O λb1 w h=>ga (DX (h.Z4 5 O) (h.Z4 1 O) s (by rw[Db];exact p) (h.Ib (E:=yX) [⟨ab,cb,N0⟩,⟨a1,t,Z2 x.K2⟩] 0 O O O)) λa2 E4 w f=>?_⟩))))));replace h:=h.H6 f;refine ga (MF (h.Z4 0 O) Zb9) λa3 v w f=>?_;replace h:=h.H6 f;refine J3 h 6 O O O λw h=>J3 h 4 O O O λw h=>U0 h 4 O O (A4.adH (by exact Vi O O) h 5 O O O λw h=>?_);replace h:=Hp.La (OC:=[]) (h.g [4,5] O);exact⟨_,_,rfl,h.q 7 [0,5,1] O⟩
structure Z1.iF(p:Z1)(n:Nat):Prop where
 N0:p.N0.length<=n*n
 H9:p.H9.length<=n
 left: -1<=p.left∧p.left<=65536
 H':p.G0.length<=n
 G0:∀tx x,K0 p.G0 tx=some x->x.K2.length<=n
theorem GH(l:List E2):(gc l).length<=l.length:=by unfold gc;have d:=Rh (λ(p:E2)=>p.val.K3) (D6 (λa b=>decide (a.key=b.key)) (J7 aa l.reverse));have c:=Ig (eq:=λ(a b:E2)=>decide (a.key=b.key)) _ (J7 aa l.reverse) (V7 _);rw[(H5 _).length_eq,jL]at c;omega
theorem Z1.zZ{p:Z1}(h:r.W0=8):p.one r=Z1.bb {p with left:=(r.J0.toNat:Int),H9:=[]}:=by unfold Z1.one;rw[S1 h]
theorem Z1.AZ{p:Z1}(h:r.W0=7)(a:p.left>0):p.one r=Z1.bb {p with left:=p.left-1,H9:=p.H9++[⟨r.key,r.new⟩]}:=by simp_all[Z1.one]
theorem Z1.yS{p:Z1}(h:r.W0=7)(a:¬p.left>0):p.one r=p:=by simp_all[Z1.one,if_neg]
theorem QJ(p:Z1)(tx:Int):p.of tx=((il p.G0 tx).1,{p with G0:=(il p.G0 tx).2}):=by cases h:K0 p.G0 tx<;>simp[Z1.of,il,h]
theorem Z1.DZ{p:Z1}(h:r.W0=1):p.one r=(if((il p.G0 r.tx).1.J0.toNat:Int)=0 then⟨p.N0,R1 (il p.G0 r.tx).2 r.tx {(il p.G0 r.tx).1 with K2:=R1 (il p.G0 r.tx).1.K2 r.key r.new},-1,p.H9⟩else⟨p.N0,(il p.G0 r.tx).2,-1,p.H9⟩):=by simp_all[Z1.one,QJ]
theorem Z1.CZ{p:Z1}(h:r.W0=2):p.one r=(if((il p.G0 r.tx).1.J0.toNat:Int)=0 then⟨p.N0,R1 (il p.G0 r.tx).2 r.tx {(il p.G0 r.tx).1 with J0:=r.J0},-1,p.H9⟩else⟨p.N0,(il p.G0 r.tx).2,-1,p.H9⟩):=by simp_all[Z1.one,QJ]
theorem Uv(a:List (Int×ib))(tx:Int):K0 (il a tx).2 tx=some (il a tx).1:=by grind[il,G1]
theorem Z1.BZ{p:Z1}(h:r.W0=4):p.one r=⟨(Ny (il p.G0 r.tx).1 p.N0).2,R1 (il p.G0 r.tx).2 r.tx (Ny (il p.G0 r.tx).1 p.N0).1,-1,p.H9⟩:=by unfold Z1.one;rw[V0 m4,V0 m4];simp only;rw[V0 m4,V0 m4,S1 h,QJ];grind[Z1.Zf,Ny,E',Uv]
theorem Z1.zS{p:Z1}(h:r.W0=5∨r.W0=6):p.one r=⟨p.N0,U7 p.G0 r.tx,-1,p.H9⟩:=by unfold Z1.one<;>grind
theorem Z1.vG{p:Z1}(h:¬r.W0=8∧¬r.W0=7∧¬r.W0=1∧¬r.W0=2∧¬r.W0=4∧¬(r.W0=5∨r.W0=6)):p.one r=⟨p.N0,p.G0,-1,p.H9⟩:=by simp_all[Z1.one]
theorem aih{p:Z1}(h:Hp c w (Sg b p::R))(e:p.iF 10000):Cr 108 #[Pt b,r.v] w c (.tuple #[]) (Sg b (p.one r)::R):=by
 have hfb:=e.N0;have hft:=e.H9;have H:=e.left;have G:(il p.G0 r.tx).1.K2.length<=100000000:=by
  unfold il;cases E:K0 p.G0 r.tx with
  |none=>simp[zg]
  |some x=>have:=e.G0 r.tx x E;grind
 have A:=E' (Uv p.G0 r.tx);refine R2 func108 O (I2 h O λb1 w h=>U0 h 0 O O (BR.eq (λl=>?_) λl=>?_))
 ·rw[Z1.zZ l];refine U0 h 0 O O (i5 (pN ((h.g [1] O).re) λj y z t k h=>J3 h 0 O O O λw h=>J3 h 0 O O O λw h=>?_));replace h:=h.G4 (157) F2;replace h:=Hp.Nb (sw:=[]) (h.g [1,2,3] O);exact N1 (mZ h aol) λw h=>⟨rfl,h.q 3 [0] O⟩
 refine BR.eq (λi=>?_) λi=>?_
 ·by_cases C:p.left>0
  ·rw[Z1.AZ i C];refine pN ((h.g [1] O).re) λj y z t k h=>U0 h 0 O O (Zt (U0 h 0 O O (i5 (J3 h 0 O O O λw h=>Y6 h [0,1,2,3,5,7,4,6,58,9,60,111,12,13,114] λh=>U3 0 O O (xg 4 O O (O4 h 4 O O ⟨h,I2 h O λb2 w h=>?_⟩))))));refine⟨h.q 6 [1,2,3,4,5] O,A4.Yb (u:=⟨⟨_,_,_,_⟩,⟨_,_⟩⟩) (Ca.of (w9:=24) kn O O O O O O) h 4 O O 0 O O O m4 (λ_ _=>rfl) λa1 J w h=>J3 h 1 O O O λw h=>?_⟩;replace h:=Hp.Nb (h.g [1,2,3,4] O);exact N1 (mZ h aok) λw h=>⟨rfl,h.q 3 [0] O⟩
  ·rw[Z1.yS i C];refine pN ((h.g [1] O).re) λj y z t k h=>U0 h 0 O O (Te ?_);replace h:Hp _ _ (Sg _ (p)::_):=Hp.Nb h;exact⟨rfl,h.q 2 [0] O⟩
 refine pN ((h.g [1] O).re) λj y z t k h=>J3 h 0 O O O λw h=>U0 h 4 O O (BR.eq (λo=>?_) λo=>?_)
 ·rw[Z1.DZ o];by_cases a:((il p.G0 r.tx).1.J0.toNat:Int)=0
  ·rw[S1 a];refine U0 h 4 O O (He (NF (h.g [0,2] O)) λd w h=>K9 (h.Mb) (λs h=>U0 h 0 O O (mf (Y6 h [0,1,2,4,6,3,5,57,108] λh=>U3 0 O O (xg 6 O O (O4 h 6 O O ⟨h,A4.Eb oB h 1 O (r.key) _ O O O O λw h=>?_⟩))))));replace h:=Hp.La h;replace h:=h.V';exact cz
  ·rw[V0 a,<-A];refine U0 h 4 O O (He (NF (h.g [0,2] O)) λd w h=>K9 (h.Mb) (λs h=>U0 h 0 O O (Wa ?_)));replace h:Hp _ _ (Hc _ ((il p.G0 r.tx).fst)::_):=Hp.La h;replace h:=h.V';exact cz
 refine BR.eq (λn=>?_) λn=>?_
 ·rw[Z1.CZ n];by_cases a:((il p.G0 r.tx).1.J0.toNat:Int)=0
  ·rw[S1 a];refine U0 h 4 O O (He (NF (h.g [0,2] O)) λd w h=>K9 (h.Mb) (λs h=>U0 h 0 O O (mf (U0 h 6 O O (J3 h 0 O O O λw h=>?_)))));replace h:=Hp.La h;replace h:=h.V';exact cz
  ·rw[V0 a,<-A];refine U0 h 4 O O (He (NF (h.g [0,2] O)) λd w h=>K9 (h.Mb) (λs h=>U0 h 0 O O (Wa ?_)));replace h:Hp _ _ (Hc _ ((il p.G0 r.tx).fst)::_):=Hp.La h;replace h:=h.V';exact cz
 refine BR.eq (λm=>?_) λm=>?_
 ·rw[Z1.BZ m];refine U0 h 4 O O (He (NF (h.g [0,2] O)) λd w h=>ga (ahF (h.g [0,2,3] O) Zb9 Zb9) λab1 cb1 w h=>?_);replace h:=(h.g [0,3] O).V';exact cz
 by_cases D:r.W0=5∨r.W0=6
 ·rw[Z1.zS D];refine BR.eq (λF=>?_) λF=>?_
  ·refine acu λw h=>?_;exact cz
  ·refine acu λw h=>?_;exact cz
 ·rw[Z1.vG ⟨l,i,o,n,m,D⟩];refine Wa (Wa ?_);replace h:=Hp.Nb h;exact⟨rfl,h.q 2 [0] O⟩
theorem Z1.iF.bb{p:Z1}(h:p.iF n):p.bb.iF n:=by
 unfold Z1.bb;split
 ·have c:=GH p.H9;have b:=h.H9;refine⟨?_,b,⟨Zb3,Zb3⟩,Zb3,λtx x a=>by cases a⟩;show(gc p.H9).length<=n*n;have:n<=n*n:=Nat.le_mul_self n;omega
 ·exact h
theorem Z1.iF.up{p:Z1}(h:p.iF n)(a:n<=m):p.iF m:=by have e:=h.N0;have d:=h.H9;have c:=h.left;have:n*n<=m*m:=zq a a;exact⟨m4,m4,h.left,by have:=h.H';omega,λtx x b=>by have:=h.G0 tx x b;omega⟩
theorem pW(a:List (Int×ib))(tx:Int)(x:ib):(R1 (il a tx).2 tx x).length<=a.length+1:=by have b:=V4 List.length (Nk (xs:=(il a tx).2) (k:=tx) (v:=x) (by rw[Uv];rfl));grind[il,Gc]
theorem us{κ a:Type}[DecidableEq κ]:∀(l:List (κ×a))(k:κ),(U7 l k).length<=l.length
 |[],_=>by simp[U7]
 |z::l,k=>by unfold U7;have:=us l k;grind
theorem Z1.iF.set{p:Z1}(h:p.iF n){tx:Int}(f:x.K2.length<=n+1)(b:List E2)(e:b.length<=(n+1)*(n+1)):Z1.iF ⟨b,R1 (il p.G0 tx).2 tx x,-1,p.H9⟩ (n+1):=by
 refine⟨e,by have:=h.H9;grind,⟨Zb3,Zb3⟩,by have:=pW p.G0 tx x;have:=h.H';grind,λj y a=>?_⟩;have a:K0 (R1 (il p.G0 tx).2 tx x) j=some y:=a;by_cases d:j=tx
 ·simp_all[G1]
 ·rw[Y0 d]at a;unfold il at a;cases c:K0 p.G0 tx with
  |none=>rw[c]at a;have a:K0 (R1 p.G0 tx zg) j=some y:=a;rw[Y0 d]at a;have:=h.G0 j y a;omega
  |some z=>rw[c]at a;have:=h.G0 j y a;omega
theorem Z1.iF.one{p:Z1}(h:p.iF n)(m:Q8 p)(r:A5)(t:(r.J0.toNat:Int)<=65535):(p.one r).iF (n+1):=by
 have D:=h.N0;have C:=h.H9;have A:=h.left;have u:n*n+n<=(n+1)*(n+1):=by rw[iu,Nat.mul_add];omega
 have s:(il p.G0 r.tx).1.K2.length<=n:=by
  unfold il;cases j:K0 p.G0 r.tx with
  |none=>simp[zg]
  |some x=>exact h.G0 r.tx x j
 have w:=E' (Uv p.G0 r.tx);by_cases c:r.W0=8
 ·rw[Z1.zZ c];refine Z1.iF.bb ⟨?_,Zb3,?_,by have:=h.H';grind,λtx x a=>?_⟩
  ·grind
  ·grind
  ·have:=h.G0 tx x a;omega
 by_cases d:r.W0=7
 ·by_cases o:p.left>0
  ·rw[Z1.AZ d o];refine Z1.iF.bb ⟨?_,?_,?_,by have:=h.H';grind,λtx x a=>?_⟩
   ·grind
   ·simp[*]
   ·grind
   ·have:=h.G0 tx x a;omega
  grind[Z1.yS,up]
 by_cases i:r.W0=1
 ·rw[Z1.DZ i];split
  ·refine h.set ?_ _ m4;show(R1 _ _ _).length<=_;have:∀(l:List (w4×Ba))(k:w4)(v:Ba),(R1 l k v).length<=l.length+1:=by
    intro l k v;induction l with
    |nil=>simp[R1]
    |cons z l q=>grind[R1]
   grind
  grind[set]
 by_cases g:r.W0=2
 ·rw[Z1.CZ g];split
  ·exact h.set (x:={(il p.G0 r.tx).1 with J0:=r.J0}) Zb1 _ m4
  grind[set]
 by_cases f:r.W0=4
 ·rw[Z1.BZ f];unfold Ny;split
  ·exact h.set Zb1 _ Zb1
  ·refine h.set Zb3 _ ?_;have y:=GH (p.N0++Z2 (il p.G0 r.tx).1.K2);grind[Db]
 by_cases e:r.W0=5∨r.W0=6
 ·rw[Z1.zS e];refine⟨Zb1,Zb1,⟨Zb3,Zb3⟩,by have:=h.H';have:=us p.G0 r.tx;grind,λtx x a=>?_⟩;have a:K0 (U7 p.G0 r.tx) tx=some x:=a;by_cases b:tx=r.tx
  ·rw[b,V8 m]at a;cases a
  ·rw[C9 b]at a;have:=h.G0 tx x a;omega
 ·rw[Z1.vG ⟨c,d,i,g,f,e⟩];refine⟨Zb1,Zb1,⟨Zb3,Zb3⟩,by have:=h.H';grind,λtx x a=>?_⟩;have:=h.G0 tx x a;omega
end
section
variable{κ σ:Type}[DecidableEq κ]{K:κ->Value}{Rr:Nat->σ->HP}
theorem wM{q:List (κ×Nat×σ)}{g:List (κ×Nat)}(i:kp q=g){k:κ}{p:Nat}(a:K0 g k=some p):∃d r c,q=d++(k,p,r)::c∧K0 (ks q) k=some r∧∀r',ks (d++(k,p,r')::c)=R1 (ks q) k r'∧kp (d++(k,p,r')::c)=g:=by
 subst i;induction q with
 |nil=>cases a
 |cons x q h=>
  obtain⟨b,f,r0⟩:=x;by_cases e:k=b
  ·subst e;have a:(if k=k then some f else K0 (kp q) k)=some p:=a;rw[S1 O]at a;injection a with a;subst a;refine⟨[],r0,q,rfl,?_,λr'=>⟨?_,rfl⟩⟩
   ·simp[K0]
   simp[R1]
  ·have a:(if k=b then some f else K0 (kp q) k)=some p:=a;rw[V0 e]at a;obtain⟨d,r,c,j,m,l⟩:=h a;refine⟨(b,f,r0)::d,r,c,by rw[j];rfl,?_,λr'=>⟨?_,?_⟩⟩
   ·show(if k=b then some r0 else K0 (ks q) k)=some r;grind
   ·show(b,r0)::ks (d++(k,p,r')::c)=(if k=b then _ else(b,r0)::R1 (ks q) k r');grind
   simp[*]
omit [DecidableEq κ]in
theorem sy:∀(l:List (Nat×Nat)),(∀x∈l,x.1=x.2)->∀m:Sub,C5 (l.map λx=>d6 (x.1=x.2)) m
 |[],_,_=>trivial
 |x::l,h,m=>⟨emp,m,h x (Ka ..),sy l (λy a=>h y (Ta _ a)) m,Li _,rfl⟩
omit [DecidableEq κ]in
theorem QB:∀{l:List (Nat×Nat)}{m:Sub},C5 (l.map λx=>d6 (x.1=x.2)) m->∀x∈l,x.1=x.2
 |[],_,_,x,c=>by cases c
 |y::l,m,⟨a,b,e,d,_,_⟩,x,c=>by
  rcases Vk.1 c with rfl|c
  ·exact e
  ·exact QB d x c
abbrev AJ(p s:Nat):HP:=d6 (p=s)
omit [DecidableEq κ]in
theorem Hp.adG{a:List (κ×Nat)}(h:Hp c w (mo K Pt b a::L)):Hp c w (mr K AJ b a::L):=by
 have e:Hp c w (ea AJ (a.map (·.2)|>.map λp=>(p,p))::mo K Pt b a::L):=h.map λm i=>⟨emp,m,by
  have:=sy ((a.map (·.2)).map λp=>(p,p)) (by intro x f;obtain⟨p,_,rfl⟩:=Un.1 f;rfl) emp
  simpa [ea] using this,i,Li _,rfl⟩
 have n:a=ks (a.map λx=>(x.1,x.2,x.2)):=by unfold ks;rw[Ph];exact(lE a).symm
 have l:a=kp (a.map λx=>(x.1,x.2,x.2)):=by unfold kp;rw[Ph];exact(lE a).symm
 have k:(a.map (·.2)|>.map λp=>(p,p))=ps (a.map λx=>(x.1,x.2,x.2)):=by simp[ps,Function.comp_def]
 rw[k]at e
 have j:Hp c w (mo K Pt b (kp (a.map λx=>(x.1,x.2,x.2)))::ea AJ (ps (a.map λx=>(x.1,x.2,x.2)))::L):=by rw[<-l];exact e.g [1] O
 have d:=j.Bd
 rw[<-n]at d
 exact d
omit [DecidableEq κ]in
theorem Hp.adF{d:List (κ×Nat)}(h:Hp c w (mr K AJ b d::L)):Hp c w (mo K Pt b d::L):=by
 obtain⟨q,e,l⟩:=h.Xc;have k:Hp c w (ea AJ (ps q)::mo K Pt b (kp q)::L):=l.g [1] O;have j:∀x∈ps q,x.1=x.2:=by obtain⟨_,_,_,_,a,n,_,⟨x,y,i,_⟩,_⟩:=k;exact QB i
 have m:kp q=d:=by rw[e];refine Az λx i=>?_;have:=j x.2 (oz (f:=λx:κ×Nat×Nat=>x.2) i);rw[this]
 grind[drop]
end
section
variable{α:Type}{f:α->HP}{l:List α}
def rl(f:α->HP)(l:List α):HP:=C5 (l.map f)
theorem RA:∀(l:List α)(i:Nat)(y:α),ep l i y=l.set i y
 |[],_,_=>rfl
 |_::_,0,_=>rfl
 |x::l,i+1,y=>by show x::ep l i y=x::l.set i y;rw[RA l i y]
theorem Hp.rf{x:α}(h:Hp c w (rl f l::L))(a:i3 l i=some x):Hp c w (f x::rl f (i6 l i)::L):=by have e:Hp c w (l.map f++L):=h.R6;have d:Hp c w ((x::i6 l i).map f++L):=e.Od (((Ac a).map f).append_right L);have b:Hp c w ((i6 l i).map f++(f x::L)):=d.Od (by rw[Kb,PE];exact List.perm_middle.symm);exact b.C3.Od (List.Perm.swap _ _ _)
theorem Hp.Wj{x y:α}(h:Hp c w (f y::rl f (i6 l i)::L))(a:i3 l i=some x):Hp c w (rl f (l.set i y)::L):=by have b:Hp c w ((i6 l i).map f++(f y::L)):=(h.Od (List.Perm.swap _ _ _)).R6;refine Hp.C3 (A:=(l.set i y).map f) (b.Od ?_);rw[<-RA];exact List.perm_middle.trans (((Rj a).map f).symm.append_right L)
theorem Hp.ij{x:α}(h:Hp c w (f x::rl f (i6 l i)::L))(a:i3 l i=some x):Hp c w (rl f l::L):=by
 have b:=h.Wj a
 have e:l.set i x=l:=by
  rw[Z0]at a
  obtain⟨g,d⟩:=Cp.1 a
  rw[<-d,List.set_getElem_self]
 rw[e]at b
 exact b
theorem Hp.eS(h:Hp c w L):Hp c w (rl f []::L):=Hp.C3 (A:=[]) h
theorem Hp.sM{x:α}(h:Hp c w (f x::rl f l::L)):Hp c w (rl f (l++[x])::L):=by have a:Hp c w (l.map f++(f x::L)):=(h.Od (List.Perm.swap _ _ _)).R6;refine Hp.C3 (A:=(l++[x]).map f) ?_;simp[*]
end
section
theorem adO{σ:Type}{Rr:Nat->σ->HP}{B0:List (Int×σ)}(k:List Int->HP):
 Nv prog 441 [Pt b] (λ(n:Int)=>[I n]) c (λl=>l.Perm (B0.map (·.1))) (λl=>l.length<=B0.length) k (bk b [.map (some m)] 160::mr I Rr m B0::R) (bk b [.map (some m)] 160::mr I Rr m B0::R):=by
 intro l X v W r h;refine R2 func441 O (U0 h 2 O O (A4.dt (by exact Vi O O) (h.g [3] O) O λj w t h=>p5.A6 kn [0,1,5] (λn vs w'=>∃(done left:List Int),vs=[.func (.yield l) #[] #[],Pt b,Pt j]∧(left.length=n∧(done++left).Perm (B0.map (·.1)))∧Hp c w' (PO I Rr m j B0 left::k done::X::bk b [.map (some m)] 160::R)) (B0.map (·.1)).length ⟨[],_,rfl,⟨rfl,tj _⟩,h⟩ ?_));rintro n _ w1 u ⟨done,left,rfl,⟨f,a⟩,h⟩;refine A4.mG h O (λe h0=>?_) λl1 e l2 p s w' d hs h=>?_
 ·subst e;rw[Jb]at a;exact m5 ⟨⟨_,rfl⟩,.inl ⟨_,a,h0.g [1,2,3] O⟩⟩
 ·have o:(done++[e]).length<=B0.length:=by
   have:=a.length_eq;rw[d]at this;simp at this⊢;omega
  have q:((done++[e])++(l1++l2)).Perm (B0.map (·.1)):=by refine List.Perm.trans ?_ a;rw[d,N',jz];exact wC _ List.perm_middle.symm
  have i:(l1++l2).length=n-1∧n-1<n:=by rw[d]at f;simp at f⊢;omega
  refine Q5 (A4.Zw (h.g [1] O) O (qV.at (r done e _ _ o (h.g [2,3] O)) ?_));rintro _ w (⟨rfl,h⟩|⟨rfl,h⟩)
  ·refine⟨_,rfl,?_⟩;have h:=(h.g [2,3] O).Wp;rw[E' hs]at h;exact m5 ⟨n-1,i.2,_,_,rfl,⟨i.1,q⟩,h⟩
  ·refine⟨_,rfl,?_⟩;have h:=(h.g [1,2] O).Wp;rw[E' hs]at h;exact Q5 ⟨⟨_,rfl⟩,.inr (h.xx.g [1,2] O)⟩
end
theorem aaV{P:Prop}(h:P:=by replace h:Hp _ _ (Pb _ (x)::_):=Hp.z8 h;replace h:=Hp.F6 ‹_› h;replace h:Hp _ _ (W7 _ (t)::_):=Hp.V6 (h.g [1] O);refine⟨Ya O ?_,h.q 2 [0] O⟩;grind[]):P:=h
def S4(B0:List (w4×R5))(k:w4):R5×List (w4×R5):=match K0 B0 k with
 |some r=>(r,B0)
 |none=>(ya,R1 B0 k ya)
theorem Me(t:L3)(k:w4):t.row k=((S4 t.B0 k).1,{t with B0:=(S4 t.B0 k).2}):=by unfold L3.row S4;cases K0 t.B0 k<;>rfl
theorem fG(B0:List (w4×R5))(k:w4):K0 (S4 B0 k).2 k=some (S4 B0 k).1:=by grind[S4,G1]
theorem QG(p q:w4):sg ([(p.a.toNat:Int)==q.a.toNat]++([(p.b.toNat:Int)==q.b.toNat]++([(p.x.toNat:Int)==q.x.toNat]++([(p.y.toNat:Int)==q.y.toNat]++[]))))=decide (p=q):=by obtain⟨j,i,h,g⟩:=p;obtain⟨f,e,d,c⟩:=q;rw[WK];simp[sg,Int.ofNat_inj,BitVec.toNat_inj]
theorem RD.eqk{C:World->Prop}{K:Value->Prop}{x y:Operand}{p q:w4}(k:K (.bool (decide (p=q)))):RD prog C (do eqGuard .eql 35 x y p.v q.v;Go.binOp .eql 35 p.v q.v) K:=by rw[<-QG]at k;exact RD.eqa (xs:= #[B8 p.a,B8 p.b,B8 p.x,B8 p.y]) (ys:= #[B8 q.a,B8 q.b,B8 q.x,B8 q.y]) Zb2 Zb2 O O k
def R5.sz(r:R5):Nat:=r.N4.length+r.R3.length
def Kf(B0:List (w4×R5)):Nat:=(B0.map λx=>x.2.sz).sum
theorem bS{B0:List (w4×R5)}{x:w4×R5}(h:x∈B0):x.2.sz<=Kf B0:=by
 induction B0 with
 |nil=>cases h
 |cons y l a=>
  unfold Kf;rw[Kb,List.sum_cons];rcases Vk.1 h with rfl|h
  ·omega
  grind[Kf]
structure TB(n:Nat)(t:L3):Prop where
 mem:∀x∈t.B0,∀y∈x.2.R3,0<=y.ec∧y.ec<=1099511627776
 sum:Kf t.B0<=n
 H':t.B0.length<=n
 S5:1<=t.S5∧t.S5<=1000
theorem TB.B0(h:TB n t)(k:w4)(r:R5)(a:K0 t.B0 k=some r):r.N4.length+r.R3.length<=n:=j9 (bS (Q7 a)) h.sum
theorem TB.ec(h:TB n t)(k:w4)(r:R5)(a:K0 t.B0 k=some r):∀x∈r.R3,0<=x.ec∧x.ec<=1099511627776:=h.mem _ (Q7 a)
theorem TB.row(h:TB n t)(k:w4):(S4 t.B0 k).1.N4.length+(S4 t.B0 k).1.R3.length<=n:=by
 unfold S4;cases a:K0 t.B0 k with
 |none=>exact ye _
 |some r=>exact h.B0 k r a
theorem TB.Ag(h:TB n t)(k:w4):∀x∈(S4 t.B0 k).1.R3,0<=x.ec∧x.ec<=1099511627776:=by
 unfold S4;cases b:K0 t.B0 k with
 |none=>intro x a;cases a
 |some r=>exact h.ec k r b
section
variable{aq:Option Addr}{cq:Nat}
theorem Cw{f:Nat}{Hv:Int}{B0:List (w4×R5)}(h:Hp c w (bk b [I Hv,.map (some m),.map (some f)] 432::mr w4.v Pb m B0::R)):Cs 280 #[Pt b,k.v] w (λe w'=>∃a,e= .returned (Pt a)∧Hp c w' (Pb a (S4 B0 k).1::mh w4.v Pb m (S4 B0 k).2 k a::bk b [I Hv,.map (some m),.map (some f)] 432::R)):=by
 refine R2 func280 O ?_;obtain⟨o,d⟩:∃o,K0 B0 k=o:=⟨_,rfl⟩;cases o with
 |none=>
  have e:S4 B0 k=(ya,R1 B0 k ya):=by unfold S4;rw[d]
  rw[e];refine I2 h O λb1 w h=>sv [0,1,2,3,4,5,6,7,8,9,10] ?_;replace h:=h.drew;refine U0 h 1 O O (O4 h 0 O O (RD.tn nB h 2 O (k) Zb9 (Q5 (I2 h O λb2 w h=>Y6 h [0,1,2,5,3,54,106] λh=>U3 2 O O (O4 h 1 O O ⟨h,A4.Wq ya nB (h.g [3] O) k d O O O λw h=>?_⟩)))));replace h:=h.G4 (448) J4;replace h:=h.G4 (448) J4;replace h:=Hp.z8 (SC:=[]) (PC:=[]) (h.g [3] O);exact⟨_,rfl,h.q 4 [0,1,3] O⟩
 |some x=>
  have e:S4 B0 k=(x,B0):=by unfold S4;rw[d]
  rw[e];refine I2 h O λb1 w h=>sv [0,1,2,3,4,5,6,7,8,9,10] ?_;replace h:=h.drew;exact U0 h 1 O O (O4 h 0 O O (RD.Ed nB h 2 O (k) Zb9 λi h=>m5 ⟨_,rfl,h.q 4 [0,1,3] O⟩))
theorem Calls.ite{P:Program}{f:FuncId}{args:Array Value}{b a:Ending->World->Prop}{p:Prop}[Decidable p](d:p->Calls P f args w b)(c:¬p->Calls P f args w a):Calls P f args w (λe w'=>if p then b e w' else a e w'):=by by_cases g:p<;>simp_all
theorem ER{n:Int}(h:Hp c w R):Cs 214 #[I n] w (λe w'=>if n<1∨n>1000 then e= .returned (.tuple #[.pointer none,I 11])∧Hp c w' R else∃p,e= .returned (.tuple #[Pt p,I 0])∧Hp c w' (W7 p ⟨n,[],[]⟩::R)):=by
 refine Calls.ite (λg=>?_) λg=>?_
 ·refine R2 func214 O (BR.T5 (λa=>?_) λa=>?_)
  ·exact Q5 ⟨rfl,h⟩
  ·exact Zt ⟨rfl,h⟩
 ·refine R2 func214 O (Te (Te (A4.Xp w4.v Pt h λb1 w h=>A4.Xp I w4.v h λb2 w h=>I2 h O λb w h=>?_)));replace h:=(h.g [2] O).yn (R:=Pb);replace h:=Hp.V6 (Oj:=[]) (VI:=[]) (h.g [1] O);exact⟨_,rfl,h⟩
theorem fM{tx:Int}(h:Hp c w (W7 b t::R))(f:TB n t)(C:n<=80000000):Cr 279 #[Pt b,I tx,k.v] w c (I (t.N4 tx k)) (W7 b t::R):=by
 refine R2 func279 O ?_;obtain⟨o,a⟩:∃o,K0 t.B0 k=o:=⟨_,rfl⟩;cases o with
 |none=>
  have e:t.N4 tx k=0:=by unfold L3.N4;rw[a]
  rw[e];refine I2 h O λb1 w h=>wg ((h.g [1] O).W6) λm p h=>sv [0,1,2,3,4,5,6,7,8,9,10] ?_;replace h:=h.drew;refine U0 h 0 O O (O4 h 3 O O (RD.tn nB h 1 O (k) Zb9 (Q5 ?_)));replace h:Hp _ _ (W7 _ (t)::_):=Hp.V6 h;exact⟨rfl,h.q 2 [0] O⟩
 |some x=>
  have e:t.N4 tx k=(if Ii x.N4 tx<0 then 0 else if(x.N4.getD (Ii x.N4 tx).toNat ⟨0,false,0,false⟩).T8 then 2 else 1):=by unfold L3.N4;rw[a];rfl
  rw[e];have A:=f.B0 k x a;have s:Ii x.N4 tx>=-1∧Ii x.N4 tx<x.N4.length:=vk _;refine I2 h O λb1 w h=>wg ((h.g [1] O).W6) λm p h=>sv [0,1,2,3,4,5,6,7,8,9,10] ?_;replace h:=h.drew;refine U0 h 0 O O (O4 h 3 O O (RD.Ed nB h 1 O (k) Zb9 λu h=>m5 (pg h.Va λz r D E h=>N1 (nR h m4) λw h=>BR.T5 (λj=>?_) λj=>?_)))
  ·replace h:Hp _ _ (Pb _ (x)::_):=Hp.z8 h;replace h:=Hp.F6 Zb9 h;replace h:Hp _ _ (W7 _ (t)::_):=Hp.V6 (h.g [1] O);refine⟨Ya O ?_,h.q 2 [0] O⟩;omega
  ·refine U0 h 0 O O (jd h 1 O λb2 y l=>LD.sl (k:=1) h 1 O l (K5 (d:=(⟨0,false,0,false⟩:W5)) m4) O (BR.O' (λi=>?_) λi=>?_))
   ·exact aaV
   ·exact aaV
end
theorem RU{P Q:Prop}(q:Q)(f:Q->P:=by intro q;exact Q5 (O4 h 3 O O (ga (cM (x:=⟨_,_,_,t.N4 tx k==1⟩) h aok) λa1 V1 w h=>q a1 V1 w h))):P:=f q
theorem QU{P Q:Prop}(q:Q)(f:Q->P:=by intro q;exact m5 (O4 h 3 O O (ga (MY (x:=⟨_,_,_,t.N4 tx k==1⟩) (h.g [0,2] O) aok) λa1 V1 w h=>Y6 h [0,1,2,4,3,55,106] λh=>U3 5 O O (O4 h 8 O O ⟨h,A4.Eb Lh h 7 O _ _ O O O O λw h=>q a1 V1 w h⟩)))):P:=f q
theorem bz{P:Prop}(h:P:=by
 replace h:=(h.g [0,2] O).V';replace h:=Hp.V6 (h.g [2,0,4] O);refine⟨Ya O ?_,Hp.subst (h.q 4 [0] O) ?_⟩
 ·grind[]
 ·grind[]):P:=h
theorem rN{P:Prop}(h:P:=by
 replace h:Hp _ _ (W7 _ (t)::_):=Hp.V6 (h.g [1,2,3] O);refine⟨Ya O ?_,Hp.subst (h.q 3 [0] O) ?_⟩
 ·grind[]
 ·grind[]):P:=h
theorem aaU{P:Prop}(h:P:=by replace h:=Hp.z8 h;replace h:=(h.g [0,2] O).V';replace h:=Hp.V6 (h.g [2,0,4] O);refine⟨rfl,Hp.subst (h.q 4 [0] O) ?_⟩;grind[]):P:=h
theorem aaT{P:Prop}(h:P:=by replace h:Hp _ _ (W7 _ (t)::_):=Hp.V6 (h.g [1,2,3] O);refine⟨Ya O ?_,h.q 3 [0] O⟩;grind[]):P:=h
section
variable{aq:Option Addr}{cq:Nat}
theorem FD(r:R5)(x:W5):r.Um x=Gv r.N4 x:=rfl
theorem LF{tx C0:Int}{d:Bool}(h:Hp c w (W7 b t::R))(F:TB n t)(N:n<=80000000):Cr 222 #[Pt b,I tx,k.v,.bool d,I C0] w c (I (t.ask tx k d C0).1) (W7 b (t.ask tx k d C0).2::R):=by
 obtain⟨s,u⟩:∃s,t.N4 tx k=s:=⟨_,rfl⟩;have S:=λ(w:World)(R:List HP)(h:Hp c w (W7 b t::R))=>fM (tx:=tx) (k:=k) h F N;rw[u]at S;by_cases g:tx<1∨tx>1048576∨C0<0∨C0>1099511627776
 ·have e:t.ask tx k d C0=(11,t):=by unfold L3.ask;rw[S1 g]
  rw[e];refine R2 func222 O (I2 h O λb1 w h=>BR.T5 (λl=>?_) λl=>?_)
  ·exact Q5 (Q5 (Q5 ⟨rfl,h.q 2 [1] O⟩))
  ·refine BR.T5 (λp=>?_) λp=>?_
   ·exact Q5 (Q5 ⟨rfl,h.q 2 [1] O⟩)
   ·refine BR.T5 (λa=>?_) λa=>?_
    ·exact Q5 ⟨rfl,h.q 2 [1] O⟩
    ·exact Zt ⟨rfl,h.q 2 [1] O⟩
 by_cases p:s=2∨(s=1∧d=false)
 ·have e:t.ask tx k d C0=(0,t):=by unfold L3.ask;rw[V0 g];simp only[u];rw[S1 p]
  rw[e];refine R2 func222 O (I2 h O λb1 w h=>Te (Te (Te (Te (O4 h 0 O O (N1 (fM (h.g [1] O) Zb9 Zb9) λw h=>BR.eq (λl=>?_) λl=>?_))))))
  ·exact Q5 ⟨rfl,h.q 2 [0] O⟩
  ·refine mf (BR.not (BR.O' (λa=>?_) λa=>?_))
   ·refine wg h.W6 λy z h=>U0 h 0 O O (RD.xK Lh h 2 O _ (λj=>?_) λX j=>?_)
    ·refine I2 h O λb2 w h=>J3 h 0 O O O λw h=>m5 (O4 h 4 O O (He (Cw (h.g [1,2] O)) λA w h=>I2 h O λH w h=>J3 h 0 O O O λw h=>O4 h 0 O O (pg ((h.g [1] O).Va) λD C G J h=>N1 (dM (x:=⟨_,_,_,t.N4 tx k==1⟩) h aok) λw h=>BR.O' (λm=>?_) λm=>?_)))
     ·refine U0 h 0 O O (BR.eq (λT=>?_) λT=>?_)
      ·refine RU λa1 V1 w h=>?_;exact aaU
      ·refine U0 h 3 O O (mf (O4 h 3 O O (ga (cM (x:=⟨_,_,_,t.N4 tx k==1⟩) h aok) λa1 V1 w h=>?_)));exact aaU
     ·refine QU λa1 V1 w h=>?_;replace h:=Hp.z8 (h.g [0,2] O);exact bz
    ·refine I2 h O λb2 w h=>J3 h 0 O O O λw h=>Q5 (O4 h 0 O O (O4 h 4 O O (RD.eqk (BR.T5 (λm=>?_) λm=>?_))))
     ·exact aaT
     ·exact aaT
   ·exact⟨rfl,h.q 2 [0] O⟩
 obtain⟨o,E⟩:∃o,K0 t.B5 tx=o:=⟨_,rfl⟩;cases o with
 |some V=>
  have e:t.ask tx k d C0=(if V=k then(17,t)else(13,t)):=by unfold L3.ask;rw[V0 g];simp only[u];rw[V0 p,E]
  rw[e];refine R2 func222 O (I2 h O λb1 w h=>Te (Te (Te (Te (O4 h 0 O O (N1 (fM (h.g [1] O) Zb9 Zb9) λw h=>Wa (BR.eq (λl=>?_) λl=>?_)))))))
  ·refine BR.not (BR.O' (λa=>?_) λa=>?_)
   ·refine wg h.W6 λy z h=>U0 h 0 O O (RD.lH Lh h 2 O _ Zb9 (I2 h O λb2 w h=>J3 h 0 O O O λw h=>Q5 (O4 h 0 O O (O4 h 4 O O (RD.eqk (BR.T5 (λj=>?_) λj=>?_))))))
    ·exact rN
    ·exact rN
   ·refine⟨Ya O ?_,Hp.subst (h.q 2 [0] O) ?_⟩
    ·grind[]
    ·grind[]
  ·refine m5 (wg h.W6 λy z h=>U0 h 0 O O (RD.lH Lh h 2 O _ Zb9 (I2 h O λb2 w h=>J3 h 0 O O O λw h=>Q5 (O4 h 0 O O (O4 h 4 O O (RD.eqk (BR.T5 (λa=>?_) λa=>?_)))))))
   ·exact rN
   ·exact rN
 |none=>
  have L:=F.row k;obtain⟨r,i⟩:∃r,(S4 t.B0 k).1=r:=⟨_,rfl⟩;obtain⟨x,K⟩:∃x:W5,⟨tx,d,C0,decide (s=1)⟩=x:=⟨_,rfl⟩;have e:t.ask tx k d C0=(if Gv r.N4 x=true∧(r.R3.length=0∨x.Oe=true)then(0,{t with B0:=R1 (S4 t.B0 k).2 k ⟨Zc r.N4 x,r.R3⟩})else(17,{t with B0:=R1 (S4 t.B0 k).2 k ⟨r.N4,Lq r.R3 x⟩,B5:=R1 t.B5 tx k})):=by unfold L3.ask;rw[V0 g];simp only[u];rw[V0 p,E];simp only[Me,i,FD,Hn,MC];subst K;rfl
  rw[e];rw[i]at L;obtain⟨q,M⟩:∃q,Gv r.N4 x=q:=⟨_,rfl⟩;rw[M];refine R2 func222 O (I2 h O λb1 w h=>Te (Te (Te (Te (O4 h 0 O O (N1 (fM (h.g [1] O) Zb9 Zb9) λw h=>Wa (BR.eq (λl=>?_) λl=>?_)))))))
  ·refine BR.not (BR.O' (λa=>?_) λa=>?_)
   ·refine wg h.W6 λy z h=>U0 h 0 O O (RD.wK Lh h 2 O _ Zb9 (I2 h O λb2 w h=>J3 h 0 O O O λw h=>m5 (O4 h 4 O O (He (Cw (h.g [1,2] O)) λA w h=>I2 h O λH w h=>J3 h 0 O O O λw h=>O4 h 0 O O (pg ((h.g [1] O).Va) λD C G J h=>?_)))));refine N1 (dM (x:=⟨_,_,_,t.N4 tx k==1⟩) h aok) λw h=>BR.O' (λj=>?_) λj=>?_
    ·refine U0 h 0 O O (BR.eq (λm=>?_) λm=>?_)
     ·refine RU λa1 V1 w h=>?_;subst i;replace h:=Hp.z8 h;exact bz
     ·refine U0 h 3 O O (mf (O4 h 3 O O (ga (cM (x:=⟨_,_,_,t.N4 tx k==1⟩) h aok) λa1 V1 w h=>?_)));subst i;replace h:=Hp.z8 h;exact bz
    ·refine QU λa1 V1 w h=>?_;subst i;replace h:=Hp.z8 (h.g [0,2] O);exact bz
   ·grind[]
  ·refine m5 (wg h.W6 λy z h=>U0 h 0 O O (RD.wK Lh h 2 O _ Zb9 (I2 h O λb2 w h=>J3 h 0 O O O λw h=>m5 (O4 h 4 O O (He (Cw (h.g [1,2] O)) λA w h=>I2 h O λH w h=>J3 h 0 O O O λw h=>O4 h 0 O O ?_)))));refine pg ((h.g [1] O).Va) λD C G J h=>N1 (dM (x:=⟨_,_,_,t.N4 tx k==1⟩) h aok) λw h=>BR.O' (λa=>?_) λa=>?_
   ·refine U0 h 0 O O (BR.eq (λj=>?_) λj=>?_)
    ·refine RU λa1 V1 w h=>?_;subst i;replace h:=Hp.z8 h;exact bz
    ·refine U0 h 3 O O (Wa (O4 h 3 O O (ga (MY (x:=⟨_,_,_,t.N4 tx k==1⟩) (h.g [0,2] O) aok) λa1 V1 w h=>Y6 h [0,1,2,4,3,55,106] λh=>U3 5 O O (O4 h 8 O O ⟨h,A4.Eb Lh h 7 O _ _ O O O O λw h=>?_⟩))));subst i;replace h:=Hp.z8 (h.g [0,2] O);exact bz
   ·refine QU λa1 V1 w h=>?_;subst i;replace h:=Hp.z8 (h.g [0,2] O);exact bz
end
def Sf(s:E1)(tx:Int):Option C6:=match K0 s.G0 tx with
 |some w=>if w.B4=3 then some w.I3 else none
 |none=>none
theorem eo{tx:Int}(h:K0 s.G0 tx=none):Sf s tx=none:=by unfold Sf;rw[h]
theorem yi{tx:Int}{w:I7}(h:K0 s.G0 tx=some w)(a:¬w.B4=3):Sf s tx=none:=by simp_all[Sf]
theorem Jl{tx:Int}{w:I7}(h:K0 s.G0 tx=some w)(a:w.B4=3):Sf s tx=some w.I3:=by simp_all[Sf]
theorem Cg{a:E1}{tx:Int}(h:K0 a.G0 tx=K0 s.G0 tx):Sf a tx=Sf s tx:=by unfold Sf;rw[h]
theorem Bg{tx:Int}(h:Sf s tx=some d):∃w,K0 s.G0 tx=some w∧w.B4=3∧w.I3=d:=by unfold Sf at h<;>grind
def Tg(d:C6):Prop:=Jj d∧∀y∈d,M7 y.2.n∧y.2.right=true
theorem Tg.nil:Tg []:=⟨eu,λy a=>(by cases a)⟩
structure Qo(s:E1):Prop where
 G0:(s.G0.map (·.1)).Nodup
 I3:∀tx w,K0 s.G0 tx=some w->Tg w.I3
def Calm(s a:E1):Prop:=Qo s->Qo a∧a.N0=s.N0∧∀tx,Sf a tx=Sf s tx
theorem Calm.refl(s:E1):Calm s s:=λh=>⟨h,rfl,λ_=>rfl⟩
theorem Calm.trans{a b c:E1}(h:Calm a b)(k:Calm b c):Calm a c:=λf=>
 have e:=h f;have d:=k e.1
 ⟨d.1,d.2.1.trans e.2.1,λtx=>(d.2.2 tx).trans (e.2.2 tx)⟩
theorem Calm.S3(s:E1)(l:L3):Calm s {s with S3:=l}:=λh=>⟨⟨h.G0,h.I3⟩,rfl,λ_=>rfl⟩
theorem Calm.set{tx:Int}{w':I7}{l:L3}(b:Sf s tx=none)(e:¬w'.B4=3)(d:Qo s->Tg w'.I3):Calm s {s with G0:=R1 s.G0 tx w',S3:=l}:=by
 intro h;refine⟨⟨u9 h.G0,?_⟩,rfl,?_⟩
 ·intro j w a;by_cases c:j=tx
  ·simp_all[G1]
  ·have a:K0 (R1 s.G0 tx w') j=some w:=a;grind[Y0,Qo.I3]
 grind[yi,G1,Cg,Y0]
theorem Calm.K7{tx:Int}(c:Sf s tx=none):Calm s (s.K7 tx):=by
 intro h;refine⟨⟨Kg h.G0,?_⟩,rfl,?_⟩
 ·intro j w a;have a:K0 (U7 s.G0 tx) j=some w:=a;grind[V8,Qo.G0,C9,Qo.I3]
 ·intro j;by_cases b:j=tx
  ·subst b;rw[c];exact eo (V8 h.G0)
  ·exact Cg (C9 b)
theorem Calm.I1(s:E1)(tx:Int):Calm s (s.I1 tx).2:=by
 unfold E1.I1;simp only;split
 ·rename_i h0;have a:K0 s.G0 tx=none:=by
   unfold E1.Um at h0;split at h0
   ·simp at h0
   split at h0
   ·simp at h0
   ·simp_all
  simp_all[Calm.set,eo,Tg.nil]
 ·exact Calm.refl s
theorem Calm.qb(s:E1)(tx e:Int):Calm s (s.qb tx e).2:=by
 unfold E1.qb;split
 ·exact Calm.refl s
 ·rename_i w a;split
  ·exact Calm.refl s
  ·rename_i c;have d:w.B4=1:=Hs λb=>c (.inl b);exact Calm.set (yi a m4) Zb3 (λh=>h.I3 tx w a)
theorem Calm.Q9(s:E1)(C0:Int):Calm s (s.Q9 C0).2:=by
 unfold E1.Q9;simp only;generalize s.S3.Q9 C0=l;induction l generalizing s with
 |nil=>exact Calm.refl s
 |cons x l a=>grind[Calm.qb,trans]
theorem uP{v:Ba}(h:Tg d)(b:M7 v.n):Tg (C6.put d k v).2:=by
 unfold C6.put;split
 ·exact h
 rename_i c;split
 ·exact h
 ·refine⟨u9 h.1,λy a=>?_⟩;rcases Sa a with e|a
  ·simp[*]
  ·exact h.2 y a
theorem Calm.Yg{tx:Int}{w:I7}(a:K0 s.G0 tx=some w)(b:¬w.B4=3)(k:w4){v:Ba}(c:M7 v.n):Calm s (s.Yg tx w k v).2:=by
 unfold E1.Yg;split
 ·exact Calm.refl s
 ·exact Calm.set (l:=s.S3) (yi a b) b (λh=>uP (h.I3 tx w a) c)
theorem Fu{w:I7}{W0:Int}(h:wa (some w) W0=0):¬w.B4=3:=by intro a;unfold wa at h<;>grind
theorem M7.zero:M7 0:=⟨Zb4,Zb4⟩
theorem Calm.t7(s:E1){op:Op}(c:M7 op.n)(C0:Int):Calm s (s.t7 op C0).2:=by
 unfold E1.t7;cases b:K0 s.G0 op.tx with
 |none=>exact Calm.refl s
 |some w=>
  simp only;split
  ·exact Calm.refl s
  rename_i h0;have d:=Fu (Hs h0);split
  ·exact Calm.qb s _ _
  have a:=Calm.S3 s (s.S3.ask op.tx op.key (decide (¬op.W0=1)) C0).2;split
  ·exact a
  split
  ·exact a
  ·exact(a.trans (Calm.Yg (s:={s with S3:=(s.S3.ask op.tx op.key (decide (¬op.W0=1)) C0).2}) b d _ (by split;exact c;exact M7.zero))).trans (Calm.qb _ _ _)
theorem Ip(s:E1)(tx:Int)(J0:BitVec 16):(¬(s.Y4 tx J0).1=1∧Calm s (s.Y4 tx J0).2.2.2)∨∃w,K0 s.G0 tx=some w∧¬w.B4=3∧¬w.B4=2∧¬(J0.toNat:Int)=0∧s.Y4 tx J0=(1,Mi w.I3 tx s.N0++[⟨2,tx,J0,Y3,X0,X0⟩],0,{s with G0:=R1 s.G0 tx {w with B4:=3}}):=by
 unfold E1.Y4;cases d:K0 s.G0 tx with
 |none=>simp[Calm.refl]
 |some w=>
  simp only;by_cases b:w.B4=3
  ·simp_all[Calm.refl]
  rw[V0 b];by_cases a:(J0.toNat:Int)=0
  ·simp_all[Calm.refl]
  rw[V0 a];by_cases c:w.B4=2∨(K0 s.S3.B5 tx).isSome=true
  ·simp_all[Calm.K7,yi]
  rw[V0 c];by_cases e:w.I3.length=0
  ·simp_all[Calm.K7,yi]
  simp_all
structure TE(S0:List A5)(s:E1):Prop where
 N0:(Tb S0).N0=s.N0
 left:(Tb S0).left= -1
 Br:ia s.N0
 K3:∀p∈s.N0,p.val.K3=true
 Xz:∀p∈s.N0,M7 p.val.n
 ok:Qo s
 fr:∀tx,Sf s tx=none->K0 (Tb S0).G0 tx=none
 Ih:∀tx d,Sf s tx=some d->∃w,K0 (Tb S0).G0 tx=some w∧¬(w.J0.toNat:Int)=0∧w.T1=false∧Z2 w.K2=Z2 d
theorem TE.bI{c:E1}(h:TE S0 s)(f:Calm s c):TE S0 c:=by
 obtain⟨g,b,e⟩:=f h.ok
 refine⟨h.N0.trans b.symm,h.left,by rw[b];exact h.Br,by rw[b];exact h.K3,by rw[b];exact h.Xz,g,?_,?_⟩
 ·intro tx a
  rw[e]at a
  exact h.fr tx a
 ·intro tx d a
  rw[e]at a
  exact h.Ih tx d a
theorem Pp(S0:List A5):Q8 (Tb S0):=Tv S0 _ eu
theorem Gt{tx:Int}{w:I7}(a:K0 s.G0 tx=some w):s.xe tx false=(0,s.K7 tx):=by simp_all[E1.xe]
theorem bN{tx:Int}{w:I7}(a:K0 s.G0 tx=some w)(b:w.B4=3):s.xe tx true=(0,E1.K7 {s with N0:=Nn w.I3 s.N0} tx):=by simp_all[E1.xe]
theorem Qo.K7{tx:Int}(h:Qo s)(b:List E2):Qo (E1.K7 {s with N0:=b} tx):=by
 refine⟨Kg h.G0,?_⟩
 intro j w a
 have a:K0 (U7 s.G0 tx) j=some w:=a
 by_cases c:j=tx
 ·subst c
  rw[V8 h.G0]at a
  cases a
 ·rw[C9 c]at a
  exact h.I3 j w a
theorem mj{tx:Int}(h:Qo s)(b:List E2)(j:Int):Sf (E1.K7 {s with N0:=b} tx) j=if j=tx then none else Sf s j:=by
 by_cases a:j=tx
 ·subst a;rw[S1 O];exact eo (V8 h.G0)
 ·rw[V0 a];exact Cg (C9 a)
theorem pF{tx:Int}{w:I7}(d:K0 s.G0 tx=some w)(e:¬w.B4=3):Calm s (E1.xe {s with G0:=R1 s.G0 tx {w with B4:=3}} tx false).2:=by
 rw[Gt (w:={w with B4:=3}) G1];intro h;have c:((R1 s.G0 tx {w with B4:=3}).map (·.1)).Nodup:=u9 h.G0;refine⟨⟨Kg c,?_⟩,rfl,?_⟩
 ·intro j v b;have b:K0 (U7 (R1 s.G0 tx {w with B4:=3}) tx) j=some v:=b;grind[V8,C9,Y0,Qo.I3]
 ·intro j;by_cases a:j=tx
  ·subst a;rw[yi d e];exact eo (V8 c)
  ·exact Cg ((C9 a).trans (Y0 a))
theorem TE.z7(h:TE S0 s){tx:Int}{w:I7}{J0:BitVec 16}(f:K0 s.G0 tx=some w)(m:¬w.B4=3)(i:¬(J0.toNat:Int)=0)(g:∀r∈Mi w.I3 tx s.N0++[⟨2,tx,J0,Y3,X0,X0⟩],r.right=true):TE (S0++(Mi w.I3 tx s.N0++[⟨2,tx,J0,Y3,X0,X0⟩])) {s with G0:=R1 s.G0 tx {w with B4:=3}}:=by
 have l:=h.ok.I3 tx w f;have k:=Og l.1;have a:=Vw (old:=λp=>if(Hb s.N0 p.key).right then Hb s.N0 p.key else X0) (ps:=Z2 w.I3) g h.left (h.fr tx (yi f m)) k;rw[<-Zj]at a;have a:At (Tb S0) (Tb (S0++(Mi w.I3 tx s.N0++[⟨2,tx,J0,Y3,X0,X0⟩]))) tx (some ⟨J0,false,(Z2 w.I3).map λx=>(x.key,x.val)⟩):=a;refine⟨a.N0.trans h.N0,a.left,h.Br,h.K3,h.Xz,⟨u9 h.ok.G0,?_⟩,?_,?_⟩
 ·intro j v c;have c:K0 (R1 s.G0 tx {w with B4:=3}) j=some v:=c;by_cases b:j=tx
  ·grind[G1]
  ·rw[Y0 b]at c;exact h.ok.I3 j v c
 ·intro j b;by_cases e:j=tx
  ·simp_all[Jl,G1]
  ·rw[a.zp j e];grind[fr,Cg,Y0]
 ·intro j d b;by_cases e:j=tx
  ·subst e;rw[Jl (w:={w with B4:=3}) G1 O]at b;injection b with b;refine⟨_,a.nK,i,rfl,?_⟩;simp_all[Tp]
  ·rw[a.zp j e];refine h.Ih j d ?_;grind[Cg,Y0]
theorem TE.akv(h:TE S0 s){tx:Int}(c:(⟨5,tx,0#16,Y3,X0,X0⟩:A5).right=true):TE (S0++[⟨5,tx,0#16,Y3,X0,X0⟩]) (s.K7 tx):=by
 have a:=step_end (p:=Tb S0) (r:=⟨5,tx,0#16,Y3,X0,X0⟩) c (.inl O) h.left (Pp S0);have e:step (Tb S0) ⟨5,tx,0#16,Y3,X0,X0⟩=Tb (S0++[⟨5,tx,0#16,Y3,X0,X0⟩]):=by rw[Zj];rfl
 rw[e]at a;have a:At (Tb S0) (Tb (S0++[⟨5,tx,0#16,Y3,X0,X0⟩])) tx none:=a;refine⟨a.N0.trans h.N0,a.left,h.Br,h.K3,h.Xz,h.ok.K7 s.N0,?_,?_⟩
 ·intro j f;by_cases b:j=tx
  ·grind[At.nK]
  ·rw[a.zp j b];refine h.fr j ?_;have:=mj (tx:=tx) h.ok s.N0 j;simp_all
 ·intro j d f;have:=mj (tx:=tx) h.ok s.N0 j;by_cases b:j=tx
  ·simp_all
  ·rw[a.zp j b];rw[V0 b]at this;refine h.Ih j d ?_;simp_all
theorem FO(c:Tg d)(f:∀p∈N0,M7 p.val.n){p:E2}(b:p∈Nn d N0):M7 p.val.n:=by
 rcases List.mem_append.mp (zP b)with h|h
 ·exact f p h
 ·obtain⟨y,a,e⟩:=List.mem_map.mp ((be d).mem_iff.mp h);rw[<-e];exact(c.2 y a).1
theorem TE.Zf(h:TE S0 s){tx:Int}{w:I7}(c:K0 s.G0 tx=some w)(i:w.B4=3)(hr4:(⟨4,tx,0#16,Y3,X0,X0⟩:A5).right=true)(hr6:(⟨6,tx,0#16,Y3,X0,X0⟩:A5).right=true):TE (S0++[⟨4,tx,0#16,Y3,X0,X0⟩,⟨6,tx,0#16,Y3,X0,X0⟩]) (E1.K7 {s with N0:=Nn w.I3 s.N0} tx):=by
 obtain⟨rw_,n,m,l,k⟩:=h.Ih tx w.I3 (Jl c i);obtain⟨c1,c2,c3⟩:=DF (p:=Tb S0) (r:=⟨4,tx,0#16,Y3,X0,X0⟩) hr4 rfl h.left n m l;have a:=step_end (p:=step (Tb S0) ⟨4,tx,0#16,Y3,X0,X0⟩) (r:=⟨6,tx,0#16,Y3,X0,X0⟩) hr6 (.inr O) c2 (by have:=Tv [⟨4,tx,0#16,Y3,X0,X0⟩] _ (Pp S0);exact this);have e:step (step (Tb S0) ⟨4,tx,0#16,Y3,X0,X0⟩) ⟨6,tx,0#16,Y3,X0,X0⟩=Tb (S0++[⟨4,tx,0#16,Y3,X0,X0⟩,⟨6,tx,0#16,Y3,X0,X0⟩]):=by rw[Zj];rfl
 rw[e]at a;have a:At (step (Tb S0) ⟨4,tx,0#16,Y3,X0,X0⟩) (Tb (S0++[⟨4,tx,0#16,Y3,X0,X0⟩,⟨6,tx,0#16,Y3,X0,X0⟩])) tx none:=a;refine⟨?_,a.left,dv _,FH _,λp f=>FO (h.ok.I3 tx w c) h.Xz f,h.ok.K7 _,?_,?_⟩
 ·rw[a.N0,c1,k,h.N0];rfl
 ·intro j g;by_cases b:j=tx
  ·subst b;exact a.nK
  ·rw[a.zp j b,c3 j b];refine h.fr j ?_;have:=mj (tx:=tx) h.ok (Nn w.I3 s.N0) j;simp_all
 ·intro j d g;have:=mj (tx:=tx) h.ok (Nn w.I3 s.N0) j;by_cases b:j=tx
  ·simp_all
  ·rw[a.zp j b,c3 j b];rw[V0 b]at this;refine h.Ih j d ?_;simp_all
def Rg(x:E2):A5:=⟨7,0,0#16,x.key,X0,x.val⟩
theorem jO{p:Z1}{x:E2}(a:(Rg x).right=true)(b:p.left>0):step p (Rg x)=Z1.bb ⟨p.N0,p.G0,p.left-1,p.H9++[x]⟩:=by simp_all[step,Z1.one,Rg]
theorem bB:∀(l:List E2)(p:Z1),¬l=[]->p.left=l.length->(∀x∈l,(Rg x).right=true)->(l.map Rg).foldl step p=⟨gc (p.H9++l),[],-1,p.H9++l⟩
 |[],_,h,_,_=>absurd O h
 |x::l,p,_,c,a=>by
  rw[Kb,Ti,jO (a x (Ka ..)) (by rw[c];simp)];unfold Z1.bb;simp only;by_cases h0:l=[]
  ·simp[*]
  ·have:0<l.length:=List.length_pos_iff.mpr h0;rw[V0 Zb6];rw[bB l _ h0 Zb6 (λy b=>a y (Ta _ b))];simp
theorem DJ(c:N0.length<=64)(b:(⟨8,0,BitVec.ofNat 16 N0.length,Y3,X0,X0⟩:A5).right=true)(d:∀x∈N0,(Rg x).right=true):Tb ([(⟨8,0,BitVec.ofNat 16 N0.length,Y3,X0,X0⟩:A5)]++N0.map Rg)=⟨gc N0,[],-1,N0⟩:=by
 unfold Tb;rw[Qh,Ti,List.foldl_nil];have e:step nc ⟨8,0,BitVec.ofNat 16 N0.length,Y3,X0,X0⟩=Z1.bb ⟨[],[],(N0.length:Int),[]⟩:=by
  have a:((BitVec.ofNat 16 N0.length).toNat:Int)=N0.length:=by rw[vE,Sk m4]
  unfold step;rw[S1 b];unfold Z1.one;rw[S1 O];simp only[a];rfl
 rw[e];unfold Z1.bb;simp only;by_cases h0:N0=[]
 ·grind
 simp_all[bB]
theorem xf.lD{x:xf}(a:x.T1=false)(N0:List E2):x.S0 N0=xi x.n (λp=>Hb N0 p.key) x.K2++[(⟨2,x.n,x.J0,Y3,X0,X0⟩:A5)]:=by unfold xf.S0;rw[a];simp only[Bool.false_eq_true,if_false,List.append_nil];rfl
theorem nG{N0:List E2}:∀(xs:List xf)(p:Z1),p.left= -1->(∀x∈xs,x.T1=false∧ia x.K2∧K0 p.G0 x.n=none∧∀r∈x.S0 N0,r.right=true)->xs.Pairwise (λa b=>a.n<b.n)->((xs.flatMap λx=>x.S0 N0).foldl step p).N0=p.N0∧((xs.flatMap λx=>x.S0 N0).foldl step p).left= -1∧(∀x∈xs,K0 ((xs.flatMap λx=>x.S0 N0).foldl step p).G0 x.n=some ⟨x.J0,false,x.K2.map λ(y:E2)=>(y.key,y.val)⟩)∧∀j,(∀x∈xs,¬x.n=j)->K0 ((xs.flatMap λx=>x.S0 N0).foldl step p).G0 j=K0 p.G0 j
 |[],p,g,_,_=>⟨rfl,g,λx f=>(by cases f),λ_ _=>rfl⟩
 |x::xs,p,g,f,t=>by
  obtain⟨D,l⟩:=List.pairwise_cons.mp t;obtain⟨k,v,u,i⟩:=f x (Ka ..);rw[xf.lD k]at i;have c:=Vw i g u v;rw[<-xf.lD k]at c;rw[EC,Qh];obtain⟨C,A,F,w⟩:=nG xs _ c.left (λy d=>by obtain⟨s,q,o,m⟩:=f y (Ta _ d);refine⟨s,q,?_,m⟩;rw[c.zp y.n Zb1];exact o) l;refine⟨C.trans c.N0,A,?_,?_⟩
  ·intro y d;rcases List.mem_cons.mp d with e|d
   ·rw[e,w x.n (λz E=>Zb1)];exact c.nK
   grind
  grind[At.zp]
theorem zA:∀(xs:List xf)(ba:Int),Ie ba xs=true->(∀x∈xs,x.n>ba∧¬(x.J0.toNat:Int)=0∧J8 x.K2=true)∧xs.Pairwise (λa b=>a.n<b.n)
 |[],_,_=>⟨λx e=>(by cases e),List.Pairwise.nil⟩
 |x::xs,ba,h=>by unfold Ie at h;rw[Cd]at h;obtain⟨c,f⟩:=h;obtain⟨i,g⟩:=zA xs x.n f;unfold xf.right at c;simp only[Bool.and_eq_true,decide_eq_true_eq]at c;obtain⟨⟨⟨⟨⟨l,_⟩,k⟩,_⟩,j⟩,_⟩:=c;refine⟨?_,List.pairwise_cons.mpr ⟨λy d=>(i y d).1,g⟩⟩;grind
theorem TE.fa{g:List A5}(h:TE S0 s){st:x8}(b:st.S0=some g)(w:st.N0=s.N0)(l:∀x∈st.L5,x.T1=false∧∃d,Sf s x.n=some d∧x.K2=Z2 d)(y:∀tx d,Sf s tx=some d->∃x∈st.L5,x.n=tx)(p:∀r∈g,r.right=true):TE g s:=by
 unfold x8.S0 at b;by_cases c:st.right=false
 ·simp_all
 rw[V0 c]at b;injection b with b;have c:st.right=true:=by simpa using c
 unfold x8.right at c;rw[Cd]at c;obtain⟨v,u⟩:=c;have t:st.N0.length<=64:=by simp only[Bool.not_eq_true',Bool.or_eq_false_iff,decide_eq_false_iff_not]at v;omega
 obtain⟨j,q⟩:=zA st.L5 0 u;have e:g=([(⟨8,0,BitVec.ofNat 16 st.N0.length,Y3,X0,X0⟩:A5)]++st.N0.map Rg)++st.L5.flatMap λx=>x.S0 st.N0:=b.symm;rw[e]at p⊢;have o:∀r∈([(⟨8,0,BitVec.ofNat 16 st.N0.length,Y3,X0,X0⟩:A5)]++st.N0.map Rg),r.right=true:=λr b=>p r (lL _ b);have i:=DJ t (o _ (lL _ (List.mem_singleton.mpr O))) (λx a=>o _ (pL _ (List.mem_map.mpr ⟨x,a,rfl⟩)));obtain⟨C,m,A,z⟩:=nG (N0:=st.N0) st.L5 (Tb ([(⟨8,0,BitVec.ofNat 16 st.N0.length,Y3,X0,X0⟩:A5)]++st.N0.map Rg)) (by rw[i]) (λx a=>by refine⟨(l x a).1,Aj (j x a).2.2,by rw[i];rfl,λr b=>?_⟩;grind) q;rw[<-Zj]at C m;have hs:gc st.N0=s.N0:=by rw[w];exact JH h.Br h.K3
 refine⟨?_,m,h.Br,h.K3,h.Xz,h.ok,?_,?_⟩
 ·simp_all
 ·intro tx E;have:=z tx (λx a e=>Zb1);rw[Zj,this,i];rfl
 ·intro tx d k;obtain⟨x,a,e⟩:=y tx d k;obtain⟨F,G,f,D⟩:=l x a;have:=A x a;rw[e]at this f;rw[k]at f;injection f with f
  subst f;refine⟨_,by rw[Zj];exact this,(j x a).2.1,rfl,?_⟩;grind[Tp,Aj]
structure FL(S0:List A5):Prop where
 left:(Tb S0).left= -1
 Br:ia (Tb S0).N0
 K3:∀p∈(Tb S0).N0,p.val.K3=true
 Xz:∀p∈(Tb S0).N0,M7 p.val.n
 G0:∀tx w,K0 (Tb S0).G0 tx=some w->¬(w.J0.toNat:Int)=0∧w.T1=false∧∀p∈Z2 w.K2,M7 p.val.n
theorem FL.nil:FL []:=⟨rfl,List.Pairwise.nil,λp a=>(by cases a),λp a=>(by cases a),λtx w b=>(by cases b)⟩
theorem TE.Gd(h:TE S0 s):FL S0:=by
 refine⟨h.left,by rw[h.N0];exact h.Br,by rw[h.N0];exact h.K3,by rw[h.N0];exact h.Xz,?_⟩
 intro tx w b
 cases c:Sf s tx with
 |none=>
  rw[h.fr tx c]at b
  cases b
 |some d=>
  obtain⟨w',a,n,m,l⟩:=h.Ih tx d c
  rw[b]at a
  injection a with a
  subst a
  refine⟨n,m,λp f=>?_⟩
  rw[l]at f
  obtain⟨y,k,e⟩:=List.mem_map.mp ((be d).mem_iff.mp f)
  obtain⟨g,j,_,i⟩:=Bg c
  have:=(h.ok.I3 tx g j).2
  rw[i]at this
  rw[<-e]
  exact(this y k).1
def OG(ba:Option w4)(k:w4):Bool:=match ba with
 |some q=>decide (q.cmp k>=0)
 |none=>false
theorem Dy:∀(l:List E2)(d:C6)(ba:Option w4)(b:C6),i' l d ba=some b->ia l∧(∀p∈l,p.val.right=true)∧(∀k,ba=some k->∀p∈l,kN k<kN p.key)∧b=l.foldl (λ(d:List (w4×Ba))(p:E2)=>R1 d p.key p.val) d
 |[],d,ba,b,h=>by unfold i' at h;injection h with h;exact⟨List.Pairwise.nil,λp a=>(by cases a),λ_ _ p a=>(by cases a),h.symm⟩
 |x::l,d,ba,b,h=>by
  unfold i' at h;simp only at h;have h:(if¬(C6.put d x.key x.val).1=0∨OG ba x.key=true then none else i' l (C6.put d x.key x.val).2 (some x.key))=some b:=h;by_cases f:¬(C6.put d x.key x.val).1=0∨OG ba x.key=true
  ·simp_all
  rw[V0 f]at h;have h0:(C6.put d x.key x.val).1=0:=Hs λc=>f (.inl c);have e:(C6.put d x.key x.val).2=R1 d x.key x.val:=by
   unfold C6.put at h0⊢;split
   ·simp_all
   ·grind
  rw[e]at h;obtain⟨n,r,m,j⟩:=Dy l _ _ b h;refine⟨List.pairwise_cons.mpr ⟨λp a=>m x.key O p a,n⟩,λp a=>?_,?_,j⟩
  ·rcases List.mem_cons.mp a with e|a
   ·rw[e];cases q:x.val.right with
    |true=>rfl
    |false=>simp_all[C6.put]
   grind
  intro k i p a;have o:kN k<kN x.key:=by
   have g:¬decide (k.cmp x.key>=0)=true:=by intro c;apply f;right;rw[i];exact c
   simp only[decide_eq_true_eq]at g;rw[<-im];omega
  grind
theorem xJ{tx:Int}{l:List E2}(h:(s.i7 tx l).1=0)(o:∀p∈l,M7 p.val.n):K0 s.G0 tx=none∧∃d t,Z2 d=l∧Tg d∧(s.i7 tx l).2={s with G0:=R1 s.G0 tx ⟨3,0,d⟩,S3:=t}:=by
 unfold E1.i7 at h⊢;simp only at h⊢;by_cases c:s.Um tx=0
 ·rw[V0 (λk=>k c)]at h⊢;have j:K0 s.G0 tx=none:=by
   unfold E1.Um at c;split at c
   ·simp at c
   split at c
   ·simp at c
   ·simp_all
  refine⟨j,?_⟩;cases f:(if l=[]then none else i' l [] none)with
  |none=>simp_all
  |some d=>
   rw[f]at h;simp only at h⊢;split at h
   ·simp at h
   rename_i c1;split at h
   ·simp at h
   rename_i c2;rw[V0 c1,V0 c2];split at f
   ·cases f
   obtain⟨i,m,_,g⟩:=Dy l [] none d f;rw[Wy l [] i (λ_ _=>rfl),Bp]at g;refine⟨d,_,by grind[Tp],⟨?_,?_⟩,rfl⟩
   ·unfold Jj;rw[g,Ph];show(l.map λp=>p.key).Nodup;exact List.pairwise_map.mpr (Cq (λ{a b}hab e=>Zb7) i)
   simp_all
 simp_all
structure FC(me:Int)(l:N7)(N0:List E2)(ys:List xf)(p:d4):Prop where
 me:p.me=me
 X9:p.X9=l
 N0:p.U1.N0=N0
 ok:Qo p.U1
 G0:∀tx w,K0 p.U1.G0 tx=some w->w.B4=3∧(∃x∈ys,x.n=tx∧Z2 w.I3=x.K2)∧∃r,K0 p.B0 tx=some r
 all:∀x∈ys,x.T1=false->∃w,K0 p.U1.G0 x.n=some w
 B0:∀tx r,K0 p.B0 tx=some r->r.Y4=1∧r.z7=true∧∃w,K0 p.U1.G0 tx=some w
def Da(o:Option d4)(x:xf):Option d4:=match o with
 |none=>none
 |some p=>if x.T1 then some p else
  let r:=p.U1.i7 x.n x.K2
  if¬r.1=0 then none else some {p with U1:=r.2,B0:=R1 p.B0 x.n ⟨x.J0,0,1,0,true,false,false⟩}
theorem gj:∀xs:List xf,xs.foldl Da none=none
 |[]=>rfl
 |x::xs=>by rw[Ti];exact gj xs
theorem FC.p9{me:Int}{l:N7}{N0:List E2}:∀(xs ys:List xf)(p g:d4),(∀x∈xs,∀y∈x.K2,M7 y.val.n)->FC me l N0 ys p->xs.foldl Da (some p)=some g->FC me l N0 (ys++xs) g
 |[],ys,p,g,_,h,e=>Zb7
 |x::xs,ys,p,g,m,h,e=>by
  rw[Ti]at e;have u:ys++x::xs=(ys++[x])++xs:=Zb3
  rw[u];cases a:Da (some p) x with
  |none=>simp_all[gj]
  |some q=>
   rw[a]at e;refine FC.p9 xs (ys++[x]) q g (λy i=>m y (Ta _ i)) ?_ e;unfold Da at a;simp only at a;by_cases k:x.T1=true
   ·rw[S1 k]at a;injection a with a;subst a;refine⟨h.me,h.X9,h.N0,h.ok,?_,?_,h.B0⟩
    ·grind[G0]
    grind[all]
   ·rw[V0 k]at a;by_cases j:(p.U1.i7 x.n x.K2).1=0
    ·rw[V0 (λs=>s j)]at a;injection a with a;subst a;obtain⟨A,d,t,z,v,o⟩:=xJ j (m x (Ka ..));rw[o];refine⟨h.me,h.X9,h.N0,⟨u9 h.ok.G0,?_⟩,?_,?_,?_⟩
     ·intro tx w b;have b:K0 (R1 p.U1.G0 x.n ⟨3,0,d⟩) tx=some w:=b;by_cases f:tx=x.n
      ·grind[G1]
      ·rw[Y0 f]at b;exact h.ok.I3 tx w b
     ·intro tx w b;have b:K0 (R1 p.U1.G0 x.n ⟨3,0,d⟩) tx=some w:=b;show _∧_∧∃r,K0 (R1 p.B0 x.n ⟨x.J0,0,1,0,true,false,false⟩) tx=some r;by_cases f:tx=x.n
      ·subst f;rw[G1]at b;injection b with b;rw[<-b];simp_all[G1]
      grind[Y0,G0]
     ·intro y i hyc;show∃w,K0 (R1 p.U1.G0 x.n ⟨3,0,d⟩) y.n=some w;by_cases f:y.n=x.n
      ·simp_all[G1]
      grind[Y0,all]
     ·intro tx r c;have c:K0 (R1 p.B0 x.n ⟨x.J0,0,1,0,true,false,false⟩) tx=some r:=c;show _∧_∧∃w,K0 (R1 p.U1.G0 x.n ⟨3,0,d⟩) tx=some w;by_cases f:tx=x.n
      ·subst f;rw[G1]at c;injection c with c;rw[<-c];simp[G1]
      grind[Y0,B0]
    simp_all
theorem i4{a:Type}(m:List (Int×a)):(T3 m).Perm (m.map (·.1)):=H5 _
def jn(p:Z1)(n:Int):Option xf:=match K0 p.G0 n with
 |none=>none
 |some w=>if(w.J0.toNat:Int)=0 then none else some ⟨n,w.J0,w.T1,Z2 w.K2⟩
theorem Md{x:xf}:x∈(P6 S0).L5↔∃w,K0 (Tb S0).G0 x.n=some w∧¬(w.J0.toNat:Int)=0∧x=⟨x.n,w.J0,w.T1,Z2 w.K2⟩:=by
 show x∈(T3 (Tb S0).G0).filterMap (jn (Tb S0))↔_;rw[List.mem_filterMap];constructor
 ·rintro⟨n,b,e⟩;unfold jn at e<;>grind
 ·rintro⟨w,a,c,e⟩;refine⟨x.n,(i4 _).mem_iff.mpr (Hj a),?_⟩;unfold jn<;>grind
theorem rG{d:U2}{l:N7}(v:I' d=some (l,S0))(c:FL S0){me R0:Int}{p:d4}(f:d4.new me R0 d=some p):TE S0 p.U1∧p.me=me∧p.X9=l∧(∀tx w,K0 p.U1.G0 tx=some w->w.B4=3∧∃r,K0 p.B0 tx=some r)∧∀tx r,K0 p.B0 tx=some r->r.Y4=1∧r.z7=true∧∃w,K0 p.U1.G0 tx=some w:=by
 unfold d4.new at f;rw[v]at f;simp only at f;cases hs:E1.new R0 (P6 S0).N0 with
 |none=>simp_all
 |some s=>
  rw[hs]at f;simp only at f;have e:s.N0=(Tb S0).N0∧s.G0=[]:=by
   unfold E1.new at hs;split at hs
   ·cases hs
   simp only at hs;split at hs
   ·cases hs
   ·injection hs with hs;rw[<-hs];exact⟨JH c.Br c.K3,rfl⟩
  have f:(P6 S0).L5.foldl Da (some ⟨me,l,s,[]⟩)=some p:=f;have h0:FC me l (Tb S0).N0 [] ⟨me,l,s,[]⟩:=by
   refine⟨rfl,rfl,e.1,⟨Zb6,?_⟩,?_,λx g=>(by cases g),λtx r u=>(by cases u)⟩
   ·intro tx w b;rw[show(⟨me,l,s,[]⟩:d4).U1=s from rfl,e.2]at b;cases b
   ·intro tx w b;rw[show(⟨me,l,s,[]⟩:d4).U1=s from rfl,e.2]at b;cases b
  have a:=FC.p9 _ _ _ _ (λx g y o=>by obtain⟨w,j,m,i⟩:=Md.mp g;rw[i]at o;exact(c.G0 x.n w j).2.2 y o) h0 f;rw[Bp]at a;refine⟨⟨a.N0.symm,c.left,by rw[a.N0];exact c.Br,by rw[a.N0];exact c.K3,by rw[a.N0];exact c.Xz,a.ok,?_,?_⟩,a.me,a.X9,λtx w b=>⟨(a.G0 tx w b).1,(a.G0 tx w b).2.2⟩,a.B0⟩
  ·intro tx q;cases b:K0 (Tb S0).G0 tx with
   |none=>rfl
   |some w=>obtain⟨j,m,_⟩:=c.G0 tx w b;obtain⟨C,i⟩:=a.all ⟨tx,w.J0,w.T1,Z2 w.K2⟩ (Md.mpr ⟨w,b,j,rfl⟩) m;rw[Jl i (a.G0 _ _ i).1]at q;cases q
  ·intro tx F t;obtain⟨w,j,m,i⟩:=Bg t;obtain⟨_,⟨x,g,A,E⟩,_⟩:=a.G0 tx w j;obtain⟨rw_,k,z,D⟩:=Md.mp g;rw[A]at k;refine⟨rw_,k,z,(c.G0 tx rw_ k).2.1,?_⟩;grind
structure Dd where
 n:Int
 J0:BitVec 16
 T1:Bool
 a:Option Addr
 cap:Nat
 K2:List E2
def Dd.f(x:Dd):List Value:=[I x.n,gb x.J0,.bool x.T1,.slice x.a x.K2.length x.cap]
def Hq:Qb Dd:=⟨Dd.f,4,λ_=>rfl,λ_=>rfl⟩
def Dd.tx(x:Dd):xf:=⟨x.n,x.J0,x.T1,x.K2⟩
def Dd.mem(x:Dd):HP:=so 157 F2 x.a x.cap x.K2
def wr(l:List Dd):HP:=C5 (l.map Dd.mem)
section
theorem Hp.SI(h:Hp c w L):Hp c w (wr []::L):=Hp.C3 (A:=[]) h
theorem Hp.JC{l:List Dd}{x:Dd}(h:Hp c w (so 157 F2 x.a x.cap x.K2::wr l::L)):Hp c w (wr (l++[x])::L):=by have b:Hp c w (wr l::x.mem::L):=h.Od (List.Perm.swap _ _ _);have d:=b.R6;refine Hp.C3 (A:=(l++[x]).map Dd.mem) ?_;simp[*]
theorem Hp.WX{l:List Dd}{j:Nat}{x:Dd}(h:Hp c w L)(d:i3 L j=some (wr l))(b:i3 l i=some x):Sx F2 w x.a x.K2.length x.cap x.K2:=by have f:=(h.Od (Ac d)).R6;refine f.Z4 (e:=157) i ?_;rw[Z0]at b⊢;rw[Hm Zb1,We,b];rfl
def zi(p:Z1)(l:List A5):Z1:=l.foldl step p
theorem Ww{p:Z1}(h:i<l.length):zi p (l.take (i+1))=(if(l.getD i Xi).right then(zi p (l.take i)).one (l.getD i Xi)else zi p (l.take i)):=by grind[zi,List.take_succ_eq_append_getElem,step]
theorem Hr(l:List A5):∀i,i<=l.length->(zi nc (l.take i)).iF i∧Q8 (zi nc (l.take i))
 |0,_=>⟨⟨by simp[zi,nc],by simp[zi,nc],⟨by simp[zi,nc],by simp[zi,nc]⟩,by simp[zi,nc],λtx x b=>by simp[zi,nc,K0]at b⟩,by simp[zi,nc,Q8]⟩
 |i+1,h=>by
  obtain⟨c,a⟩:=Hr l i m4;rw[Ww m4];split
  ·have:=BitVec.isLt (l.getD i Xi).J0;exact⟨c.one a _ m4,a.one _⟩
  grind[Z1.iF.up]
theorem ZN{p:Z1}{n:Int}(h:K0 p.G0 n=some x)(a:¬(x.J0.toNat:Int)=0):jn p n=some ⟨n,x.J0,x.T1,Z2 x.K2⟩:=by simp_all[jn]
theorem aO{p:Z1}{n:Int}(h:K0 p.G0 n=some x)(a:(x.J0.toNat:Int)=0):jn p n=none:=by simp_all[jn]
theorem tX{l:List Int}{f:Int->Option xf}(h:i<l.length):(l.take (i+1)).filterMap f=(l.take i).filterMap f++(match f (l.getD i 0)with|some x=>[x]|none=>[]):=by grind[List.take_succ_eq_append_getElem]
theorem acT{P0:List A5}(hs:Sx za w a P0.length cap P0)(hl:P0.length<=10000):Cs 74 #[.slice a P0.length cap] w (λe w'=>∃(ab:Option Addr)(cb:Nat)(j:Option Addr)(t:Nat)(L5:List Dd),e= .returned (.agg #[.slice ab (P6 P0).N0.length cb,.slice j L5.length t])∧L5.map Dd.tx=(P6 P0).L5∧Hp w w' [so 157 F2 ab cb (P6 P0).N0,so 260 Hq j t L5,wr L5]):=by
 have h:=Hp.start w;refine R2 func74 O (I2 h O λb1 w h=>A4.Xp I Pt h λm w h=>I2 h O λb2 w h=>?_);replace h:=(h.g [1] O).yn (R:=Hc);replace h:=h.G4 157 F2;replace h:=h.G4 157 F2;replace h:Hp _ _ (Sg _ nc::_):=Hp.Nb (su:=[]) (sw:=[]) (h.g [3,0,2] O);refine p5.A6 kn [0,2,3,13,14,15] (λk vs w'=>∃(i:Int),vs=[.slice a P0.length cap,Pt b1,Pt b2,.slice a P0.length cap,I P0.length,I i]∧(0<=i∧i+k=P0.length)∧Hp _ w' [Sg b2 (zi nc (P0.take i.toNat)),bk b1 [.slice none 0 0,.slice none 0 0] 192]) P0.length ⟨0,rfl,m4,h⟩ ?_;rintro k _ w1 e0 ⟨i,rfl,hm,h⟩;obtain⟨o,aja⟩:=Hr P0 i.toNat m4;refine BR.T5 (λD=>?_) λD=>?_
 ·have b:=Ww (l:=P0) (p:=nc) (i:=i.toNat) m4;have E:(i+1).toNat=i.toNat+1:=m4
  rw[<-E]at b;obtain⟨r,c⟩:∃r,P0.getD i.toNat Xi=r:=⟨_,rfl⟩;have hnr:i3 P0 i.toNat=some r:=by rw[<-c];exact K5 m4
  rw[c]at b;have nY:=o.up (m:=10000) m4;refine Lz hs λF Z H=>Oa.ro h hs H hnr (I2 h O λb4 w h=>J3 h 0 O O O λw h=>O4 h 0 O O (N1 (QF h) λw h=>BR.O' (λs=>?_) λs=>?_))
  ·refine O4 h 0 O O (N1 (aih (h.g [1] O) Zb9) λw h=>i5 ?_);simp[D,s]at c;subst c;refine⟨(k-1),?_,_,rfl,?_,Hp.subst (h.q 3 [0,2] O) ?_⟩
   ·omega
   ·omega
   ·grind[]
  ·refine i5 ?_;simp[D,s]at c;subst c;refine⟨(k-1),?_,_,rfl,?_,Hp.subst (h.q 3 [1,2] O) ?_⟩
   ·omega
   ·omega
   ·grind[]
 ·have e:P0.take i.toNat=P0:=sd m4;rw[e]at h o aja;obtain⟨p,C⟩:∃p,zi nc P0=p:=⟨_,rfl⟩;have Am:(P6 P0).N0=p.N0:=by rw[<-C];rfl
  have bK:(P6 P0).L5=(T3 p.G0).filterMap (jn p):=by rw[<-C];rfl
  rw[Am,bK];rw[C]at h o aja;refine pN h.re λv z Y X J h=>U0 h 0 O O (I2 h O λF w h=>J3 h 0 O O O λw h=>U0 h 1 O O (He (aif h) λb4 w h=>?_));have hwc:=o.H';refine ga (JR (gf:=159) (ks:=p.G0.map (·.1)) (N:=p.G0.length) O (λI_=>aiT I_) Zb3 m4 (h.g [0,4] O)) λak T w h=>?_;have hK2:∀x∈T3 p.G0,∃y,K0 p.G0 x=some y:=λx hx=>ca ((i4 _).mem_iff.mp hx);have aQ:(T3 p.G0).length<=10000:=by rw[(i4 _).length_eq,H7];omega
  obtain⟨K,M⟩:∃K,T3 p.G0=K:=⟨_,rfl⟩;have hK3:J7 Pe (p.G0.map (·.1))=K:=M;rw[hK3]at h⊢;rw[M]at hK2 aQ⊢;replace h:=(h.G4 260 Hq).SI;refine p5.A6 kn [2,3,6,35,36,37] (λk vs w'=>∃(i:Int)(j:Option Addr)(t:Nat)(L5:List Dd),vs=[Pt b1,Pt b2,Pt F,.slice ak K.length T,I K.length,I i]∧(0<=i∧i+k=K.length)∧L5.map Dd.tx=(K.take i.toNat).filterMap (jn p)∧Hp _ w' [so 3 O5 ak T K,mr I Hc Y p.G0,bk F [.slice v p.N0.length z,.slice j L5.length t] 192,bk b2 [.slice v p.N0.length z,.map (some Y),I p.left,.slice X p.H9.length J] 249,so 157 F2 v z p.N0,so 157 F2 X J p.H9,bk b1 [.slice none 0 0,.slice none 0 0] 192,so 260 Hq j t L5,wr L5]) K.length ⟨0,none,0,[],rfl,m4,rfl,h.q 10 [2,4,5,6,7,8,9,1,0] O⟩ ?_;rintro k _ w1 e1 ⟨i,S,V,L5,rfl,hm,A,h⟩;have Tu:L5.length<=i.toNat:=by have h1:=V4 List.length A;rw[H7]at h1;have h2:=Ez (jn p) (K.take i.toNat);rw[Ga]at h2;omega
  refine BR.T5 (λs=>?_) λs=>?_
  ·have b:=tX (l:=K) (f:=jn p) (i:=i.toNat) m4;have E:(i+1).toNat=i.toNat+1:=m4
   rw[<-E,<-A]at b;obtain⟨n,L⟩:∃n,K.getD i.toNat 0=n:=⟨_,rfl⟩;have hnn:i3 K i.toNat=some n:=by rw[<-L];exact K5 m4
   rw[L]at b;obtain⟨y,d⟩:=hK2 n (by grind[Z0]);have hyl:=o.G0 n y d;refine jd h 0 O λb5 Z H=>LD.qf h 0 O H hnn O (U0 h 3 O O (RD.Ed BG h 1 O n d λp1 h=>?_));by_cases Q:(y.J0.toNat:Int)=0
   ·rw[aO d Q,Jb]at b;refine K9 (h.Mb) (λbh h=>U0 h 0 O O (Mj (i5 ?_)));replace h:=Hp.La h;replace h:=Hp.F6 d h;exact⟨k-1,m4,i+1,S,V,L5,rfl,m4,b.symm,h.g [1] O⟩
   ·rw[ZN d Q]at b;refine K9 (h.Mb) (λbh h=>U0 h 0 O O (xq (Y6 h [0,2,3,4,5,7,8,9,11,1,6,10,62,13,64,115,16,117] λh=>U3 4 O O (U3 0 O O (U3 0 O O (ga (rZ h m4) λa1 G w h=>⟨h.q 12 [1,2,3,4,5,6,7,8,9,10,11] O,I2 h O λb6 w h=>⟨h.q 13 [2,3,4,5,6,7,8,9,10,11,12] O,A4.Yb (u:=(⟨n,y.J0,y.T1,a1,G,Z2 y.K2⟩:Dd)) (Ca.of (w9:=40) kn O O O O O O) h 11 O O 0 O O O m4 (λ_ _=>rfl) λa2 E4 w h=>?_⟩⟩))))));refine J3 h 6 O O O λw h=>i5 ?_;replace h:=Hp.La (h.g [2,3,1,4,5,6,7,8,9,10,11,12] O);replace h:=Hp.F6 d (h.g [0,2] O);replace h:=Hp.JC (x:=⟨n,y.J0,y.T1,a1,G,Z2 y.K2⟩) (h.q 11 [1,9,0,2,3,4,5,6,7,8] O);refine⟨k-1,m4,i+1,a2,E4,L5++[⟨n,y.J0,y.T1,a1,G,Z2 y.K2⟩],rfl,m4,?_,h.g [2,1,3,4,5,6,7,8] O⟩;rw[ic];exact b.symm
  ·have e:K.take i.toNat=K:=sd m4;rw[e]at A;exact O4 h 2 O O (J3 h 6 O O O λw h=>O4 h 6 O O ⟨v,z,S,V,L5,rfl,A,h.q 9 [4,7,8] O⟩)
end
end Go.Proofs.YtaaihojmcfaejaaGreatDoor
