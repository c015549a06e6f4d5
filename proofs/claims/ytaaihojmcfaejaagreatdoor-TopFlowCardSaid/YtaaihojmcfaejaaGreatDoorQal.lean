/- Lemmas for the tops: the walk of the house and its laws. No condition is added. -/
import Derived.Laws.BytesArg
import Derived.Lib.BytesEntry
import Derived.Laws.Externs
import Derived.Test.YtaaihojmcfaejaaGreatDoorQak
import Derived.Test.YtaaihojmcfaejaaGreatDoorQah
import Derived.Test.YtaaihojmcfaejaaGreatDoorQaf
set_option linter.all false
namespace Go.Proofs.YtaaihojmcfaejaaGreatDoor
open Go Go.RowKit Tryz
variable{xs ys:List B}{cap i m n:Nat}{a:Option Addr}{w:World}
def strOf(xs:List B):ByteArray:=strOfNums (xs.map λb=>(b.toNat:Int))
theorem gO:strOf xs=strOf ys↔xs=ys:=by
 constructor
 ·intro h;have c:=V4 (λ(b:ByteArray)=>b.data.toList) h;unfold strOf at c;simp only[strOfNums_data,List.map_map]at c;have inj:∀(a b:List B),a.map ((λn:Int=>UInt8.ofNat n.toNat)∘λb:B=>(b.toNat:Int))=b.map ((λn:Int=>UInt8.ofNat n.toNat)∘λb:B=>(b.toNat:Int))->a=b:=by
   intro a;induction a with
   |nil=>simp
   |cons x l e=>
    intro b d;cases b with
    |nil=>cases d
    |cons y m=>simp only[List.map_cons,List.cons.injEq]at d;obtain⟨f,c⟩:=d;rw[e m c];simp_all
  grind
 grind
theorem A4.str{P:Program}{dst:Option Nat}{ty t c e:TypeId}{r:String}{s:Array Edge}{g:Option (Nat×Bool)}{x:Operand}{d:Operand->Value}{K:Value->World->Prop}{y:Y5}
 (j:P.underlying t=some (.slice e))(l:P.underlying e=some (.int .u8))(m:P.underlying c=some .string)(h:d x= .slice a n cap)(hs:Sx eB w a n cap xs)(k:K (.string (strOf xs)) w):A4 P ⟨dst,.convert t c x,ty,r,s,g⟩ d w K y:=by
 refine A4.val (w':=w) ?_ k;rcases hs.sl.A6 with⟨rfl,rfl,rfl,h0⟩|⟨b,o,rfl,z,q⟩
 ·have u:xs=[]:=Dp (by rw[hs.len]);subst u;simp only[execOp,h];rw[Sem.run_bind,run_convert_bytes_nil (P:=P) w t e j l 0 0 c m];rfl
 ·have v:∀i,i<n->w.cell? ⟨b,o+i,none⟩=some (.int .u8 ((xs.map λb=>(b.toNat:Int)).getD i 0)):=by
   intro i p;have f:i<xs.length:=by rw[hs.len];exact p
   refine q i _ ?_;have:=eB.nj xs i 0 xs[i] (B8 xs[i]) (Eh f) O;rw[show i*eB.sz+0=i from by show i*1+0=i;omega]at this;rw[this];simp[f]
  have hcv:=run_convert_bytes_arg (P:=P) w t e j l b o n cap (xs.map λb=>(b.toNat:Int)) (by rw[H7,hs.len]) v c m;simp only[execOp,h];rw[Sem.run_bind,hcv];rfl
theorem RD.str{C:World->Prop}{a b:ByteArray}{K:Value->Prop}(k:K (.bool (a==b))):RD prog C (do eqGuard .eql 9 (.tmp 0) (.tmp 0) (.string a) (.string b);binOp .eql 9 (.string a) (.string b)) K:=by
 refine⟨_,λw _=>?_,k⟩
 simp[eqGuard,binOp,Op.stringOp]
 exact(beq_toListBytes a b).symm
section
variable{c:World}{R:List HP}{a2:Option Addr}{E4:Nat}
theorem RY(hs:Sx eB w a n cap xs)(b:Sx eB w a2 m E4 ys):Cs 253 #[.slice a n cap,.slice a2 m E4] w (Zb w (.bool (decide (xs=ys))) []):=by
 have h:=Hp.start w;refine R2 func253 O (A4.str (by exact Vi O O) Zb3 Zb3 O hs (A4.str (by exact Vi O O) Zb3 Zb3 O b (RD.str ?_)));have c:(strOf xs==strOf ys)=decide (xs=ys):=by
  show((strOf xs).data==(strOf ys).data)=_;by_cases h:xs=ys
  ·simp[*]
  ·rw[Em h,AE];exact λe=>h (gO.1 (by cases d:strOf xs<;>simp_all))
 rw[c];exact⟨rfl,h⟩
theorem agz(hs:Sx eB w a n cap xs)(f:xs.length<=1000000000):Cs 331 #[.slice a n cap] w (λe w'=>∃c d,e= .returned (.slice c xs.length d)∧Hp w w' [so 5 eB c d xs]):=by
 obtain rfl:=hs.len;have h:=Hp.start w;refine R2 func331 O (tg.EI O (BR.O' (λb=>?_) λb=>?_))
 ·cases a with
  |none=>obtain⟨_,rfl,rfl⟩:=hs.yD;exact⟨none,0,rfl,h.G4 _ _⟩
  |some a=>cases b
 ·refine I2 h O λb1 w h=>?_;replace h:=Hp.vg (E:=eB) [] h O Zb4;exact A4.Pk (Ca.of (w9:=1) kn O O O O O O) h 0 O O O (hs.up h).sl Zb5 (λ_ _=>rfl) λa1 g w h=>⟨_,_,rfl,h⟩
theorem agu{n:Int}(h:Hp c w R)(g:0<=n∧n<=100000):Cs 339 #[.slice none 0 0,I n] w (λe w'=>∃a b,e= .returned (.slice a 0 b)∧Hp c w' (so 5 eB a b []::R)):=by
 refine R2 func339 O (Te (i5 (i5 (BR.T5 (λd=>?_) λd=>?_))))
 ·exact RD.Vh kn O O O O m4 (A4.akt (E:=eB) (Ca.of (w9:=1) kn O O O O O O) Zb3 h O O m4 Zb4 λb1 i w f h=>RD.Vh kn O O O O m4 ⟨_,_,rfl,h⟩)
 ·replace h:=h.G4 (5) eB;exact⟨_,_,rfl,h⟩
structure Rm where
 a:Option Addr
 cap:Nat
 xs:List B
def Rm.f(s:Rm):List Value:=[.slice s.a s.xs.length s.cap]
def Nm:Qb Rm:=⟨Rm.f,1,λ_=>rfl,λ_=>rfl⟩
def RR:Rm:=⟨none,0,[]⟩
def Sy(l:List Rm):List B:=l.flatMap (·.xs)
theorem ZH{l:List Rm}(h:i<l.length):Sy (l.take (i+1))=Sy (l.take i)++(l.getD i RR).xs:=by grind[List.take_succ_eq_append_getElem,Sy]
theorem dw{l:List Rm}(b:∀s∈l,s.xs.length<=1000)(i:Nat):(Sy (l.take i)).length<=1000*i:=by
 induction l generalizing i with
 |nil=>simp[Sy]
 |cons x l a=>
  cases i with
  |zero=>simp[Sy]
  |succ i=>grind[Sy]
theorem HY{l:List Rm}(hs:Sx Nm w a l.length cap l)(t:∀s∈l,Sx eB w s.a s.xs.length s.cap s.xs)(y:l.length<=10)(f:∀s∈l,s.xs.length<=1000):
 Cs 312 #[.slice a l.length cap] w (λe w'=>∃g j,e= .returned (.slice g (Sy l).length j)∧Hp w w' [so 5 eB g j (Sy l)]):=by
 have h:=Hp.start w;refine R2 func312 O (p5.A6 kn [0,3,9,10,11] (λm vs w'=>∃(i:Int),vs=[.slice a l.length cap,I (Sy (l.take i.toNat)).length,.slice a l.length cap,I l.length,I i]∧(0<=i∧i+m=l.length)∧Hp w w' []) l.length ⟨0,rfl,m4,h⟩ ?_);rintro m _ w1 u ⟨i,rfl,r,h⟩;have p:=dw f i.toNat;refine BR.T5 (λk=>?_) λk=>?_
 ·have c:=ZH (l:=l) (i:=i.toNat) m4;have b:(i+1).toNat=i.toNat+1:=m4
  rw[<-b]at c;have aer:=dw f (i+1).toNat;have z:(Sy (l.take (i+1).toNat)).length=(Sy (l.take i.toNat)).length+(l.getD i.toNat RR).xs.length:=by rw[c,j7]
  refine Lz hs λb1 q v=>LD.rM h hs Zb9 (K5 (d:=RR) m4) O (i5 (m5 (i5 ⟨(m-1),?_,_,vs5 O (V4 I ?_) O O O,?_,h⟩)))
  ·omega
  ·omega
  ·omega
 ·have b:l.take i.toNat=l:=sd m4;rw[b]at p⊢;refine ga (agu h m4) λa1 n w h=>p5.A6 kn [6,25,26,27] (λm vs w'=>∃(i:Int)(g:Option Addr)(j:Nat),vs=[.slice g (Sy (l.take i.toNat)).length j,.slice a l.length cap,I l.length,I i]∧(0<=i∧i+m=l.length)∧Hp _ w' [so 5 eB g j (Sy (l.take i.toNat))]) l.length ⟨0,a1,n,rfl,m4,h⟩ ?_;rintro m _ w1 u ⟨i,a1,n,rfl,r,h⟩;have p:=dw f i.toNat;refine BR.T5 (λk=>?_) λk=>?_
  ·have c:=ZH (l:=l) (i:=i.toNat) m4;have b:(i+1).toNat=i.toNat+1:=m4
   rw[<-b]at c;have aer:=dw f (i+1).toNat;have o:l.getD i.toNat RR∈l:=by
    have:i.toNat<l.length:=m4
    simp[this]
   have x:=t _ o;have A:=f _ o;refine Lz hs λb1 q v=>LD.rM h hs Zb9 (K5 (d:=RR) m4) O (A4.Pk (Ca.of (w9:=1) kn O O O O O O) h 0 O O O (x.up h).sl m4 (λ_ _=>rfl) λa2 E4 w h=>?_);rw[<-c]at h⊢;refine i5 ⟨(m-1),?_,_,_,_,rfl,?_,h⟩
   ·omega
   ·omega
  ·have b:l.take i.toNat=l:=sd m4;rw[b]at h⊢;exact⟨_,_,rfl,h⟩
end
theorem LU{P:Prop}(h:P:=by replace h:=h.H6 h';exact⟨rfl,h.q 2 [] O⟩):P:=h
section
variable{c:World}{R:List HP}{a2:Option Addr}{E4:Nat}
def CP(xs ys:List B):Int:=Extern.BytealgCompare.cmp (strOf xs) (strOf ys)
theorem kv{P:Program}(hs:Sx eB w a n cap xs):(Extern.Bytes.bytesOf (.slice a n cap)).run P w= .ok (strOf xs) w:=by
 rcases hs.sl.A6 with⟨rfl,rfl,rfl,h0⟩|⟨b,o,rfl,i,f⟩
 ·have g:xs=[]:=Dp (by rw[hs.len]);subst g;rfl
 ·have d:=Go.Lib.run_loadBytesX (P:=P) (w:=w) (xs.map λb=>(b.toNat:Int)) ⟨b,o,none⟩ .empty (λj x c=>by
   rw[We]at c;cases hxj:xs[j]? with
   |none=>simp_all
   |some y=>rw[hxj]at c;injection c with c;subst c;obtain⟨h,e⟩:=List.getElem?_eq_some_iff.mp hxj;have:=f j (B8 y) (by have:=eB.nj xs j 0 y (B8 y) (by rw[Z0];exact hxj) O;rw[show j*eB.sz+0=j from by show j*1+0=j;omega]at this;exact this);simp_all[i9])
  rw[H7,hs.len]at d;simp_all[Extern.Bytes.bytesOf,strOf,strOfNums,Lib.bytesOf]
theorem dW{P:Program}(c:Sx eB w a n cap xs)(b:Sx eB w a2 m E4 ys):(Extern.BytealgCompare.compare #[.slice a n cap,.slice a2 m E4]).run P w= .ok (I (CP xs ys)) w:=by show Sem.run P (do let x<-Extern.Bytes.bytesOf (.slice a n cap);let y<-Extern.Bytes.bytesOf (.slice a2 m E4);pure (goInt (Extern.BytealgCompare.cmp x y))) w=_;rw[Sem.run_bind,kv c];show Sem.run P (do let y<-Extern.Bytes.bytesOf (.slice a2 m E4);pure (goInt (Extern.BytealgCompare.cmp (strOf xs) y))) w=_;rw[Sem.run_bind,kv b];rfl
theorem Hp.Nt{a:Type}{E:Qb a}{e:TypeId}{L:List HP}{b:Nat}{l V5:List Value}(xs:List a)(h:Hp c w L)(j:Nat)(f:i3 L j=some (bk b l e))(g:l=E.P3 xs++V5)(d:m=xs.length):Sx E w (some ⟨b,0,none⟩) m m xs:=by subst d;refine⟨.row (E.p8 xs) λi v k=>?_,rfl,V7 _⟩;rw[rz];refine(h.Qm f).cell ?_;grind[Z0]
theorem A4.cmp{dst:Option Nat}{ty:TypeId}{tys:Array TypeId}{l:String}{o:Array Edge}{g:Option (Nat×Bool)}{x y:Operand}{b:Operand->Value}{K:Value->World->Prop}{p:Y5}(j:b (.func 194)= .func (.func 194) #[] #[])(c:b x= .slice a n cap)(q:b y= .slice a2 m E4)(i:Sx eB w a n cap xs)(d:Sx eB w a2 m E4 ys)(k:K (I (CP xs ys)) w):A4 prog ⟨dst,.call ⟨.value (.func 194),#[x,y],tys⟩,ty,l,o,g⟩ b w K p:=by refine A4.val (v:=I (CP xs ys)) (w':=w) ?_ k;simp[execOp,resolve,invoke,Deferred.ofValue,j,c,q,run_callFunc_extern (f:=194) (P:=prog) func194 O O Zb2 (e:=Extern.BytealgCompare.compare) Zb2,dW i d]
theorem Qr(x y:w4):CP x.bytes y.bytes=x.cmp y:=by
 obtain⟨c,f,x2,k⟩:=x;obtain⟨a,d,g,j⟩:=y;have o:∀b:B,UInt8.ofNat ((b.toNat:Int)).toNat=⟨b⟩:=by intro b;apply UInt8.toBitVec_inj.mp;apply Sh;have:=b.isLt;simp
 unfold CP Extern.BytealgCompare.cmp strOf strOfNums w4.bytes;simp only[List.map_cons,List.map_nil,o];have m:∀p:Nat->Bool,(List.range 4).find? p=if p 0=true then some 0 else if p 1=true then some 1 else if p 2=true then some 2 else if p 3=true then some 3 else none:=by intro p;show List.find? p [0,1,2,3]=_;simp only[List.find?_cons,List.find?_nil];cases p 0<;>cases p 1<;>cases p 2<;>cases p 3<;>rfl
 have q:∀u v:B,((⟨u⟩:UInt8) !=⟨v⟩)=true↔¬u=v:=by intro u v;rw[bne_iff_ne,Ne,UInt8.ofBitVec.injEq]
 have r:∀u v:B,(⟨u⟩:UInt8)<⟨v⟩↔u.toNat<v.toNat:=λu v=>Iff.rfl;show(match(List.range 4).find? (λi=>(⟨#[⟨c⟩,⟨f⟩,⟨x2⟩,⟨k⟩]⟩:ByteArray)[i]! !=(⟨#[⟨a⟩,⟨d⟩,⟨g⟩,⟨j⟩]⟩:ByteArray)[i]!)with
  |some i=>if(⟨#[⟨c⟩,⟨f⟩,⟨x2⟩,⟨k⟩]⟩:ByteArray)[i]!<(⟨#[⟨a⟩,⟨d⟩,⟨g⟩,⟨j⟩]⟩:ByteArray)[i]! then(-1:Int)else 1
  |none=>if 4<4 then -1 else if 4>4 then 1 else 0)=_
 unfold w4.cmp;simp only;have n:∀u v:B,(if(⟨u⟩:UInt8)<⟨v⟩then(-1:Int)else 1)=if u.toNat<v.toNat then -1 else 1:=by
  intro u v;by_cases h:u.toNat<v.toNat
  ·simp[*]
  ·simp[*]
 by_cases l:c=a
 rotate_left
 ·have e:(List.range 4).find? (λi=>(⟨#[⟨c⟩,⟨f⟩,⟨x2⟩,⟨k⟩]⟩:ByteArray)[i]! !=(⟨#[⟨a⟩,⟨d⟩,⟨g⟩,⟨j⟩]⟩:ByteArray)[i]!)=some 0:=by rw[m,S1 (by show((⟨c⟩:UInt8) !=⟨a⟩)=true;grind)]
  rw[e];simp only[l,not_false_eq_true,not_true_eq_false,if_true,if_false];exact n c a
 by_cases c1:f=d
 rotate_left
 ·have e:(List.range 4).find? (λi=>(⟨#[⟨c⟩,⟨f⟩,⟨x2⟩,⟨k⟩]⟩:ByteArray)[i]! !=(⟨#[⟨a⟩,⟨d⟩,⟨g⟩,⟨j⟩]⟩:ByteArray)[i]!)=some 1:=by rw[m,V0 (by show¬((⟨c⟩:UInt8) !=⟨a⟩)=true;simp[*]),S1 (by show((⟨f⟩:UInt8) !=⟨d⟩)=true;grind)]
  rw[e];simp only[l,c1,not_false_eq_true,not_true_eq_false,if_true,if_false];exact n f d
 by_cases c2:x2=g
 rotate_left
 ·have e:(List.range 4).find? (λi=>(⟨#[⟨c⟩,⟨f⟩,⟨x2⟩,⟨k⟩]⟩:ByteArray)[i]! !=(⟨#[⟨a⟩,⟨d⟩,⟨g⟩,⟨j⟩]⟩:ByteArray)[i]!)=some 2:=by rw[m,V0 (by show¬((⟨c⟩:UInt8) !=⟨a⟩)=true;simp[*]),V0 (by show¬((⟨f⟩:UInt8) !=⟨d⟩)=true;simp[*]),S1 (by show((⟨x2⟩:UInt8) !=⟨g⟩)=true;grind)]
  rw[e];simp only[l,c1,c2,not_false_eq_true,not_true_eq_false,if_true,if_false];exact n x2 g
 by_cases c3:k=j
 rotate_left
 ·have e:(List.range 4).find? (λi=>(⟨#[⟨c⟩,⟨f⟩,⟨x2⟩,⟨k⟩]⟩:ByteArray)[i]! !=(⟨#[⟨a⟩,⟨d⟩,⟨g⟩,⟨j⟩]⟩:ByteArray)[i]!)=some 3:=by rw[m,V0 (by show¬((⟨c⟩:UInt8) !=⟨a⟩)=true;simp[*]),V0 (by show¬((⟨f⟩:UInt8) !=⟨d⟩)=true;simp[*]),V0 (by show¬((⟨x2⟩:UInt8) !=⟨g⟩)=true;simp[*]),S1 (by show((⟨k⟩:UInt8) !=⟨j⟩)=true;grind)]
  rw[e];simp only[l,c1,c2,c3,not_false_eq_true,not_true_eq_false,if_true,if_false];exact n k j
 simp[*]
theorem iM(c:Sx eB w a n cap xs)(b:Sx eB w a2 m E4 ys):Cs 141 #[.slice a n cap,.slice a2 m E4] w (Zb w (I (CP xs ys)) []):=by have h:=Hp.start w;exact R2 func141 O (od.zJ O (A4.cmp O O O c b ⟨rfl,h⟩))
theorem afl{x y:E2}(h:Hp c w R):Cr 91 #[x.v,y.v] w c (I (x.key.cmp y.key)) R:=by rw[<-Qr];refine R2 func91 O (I2 h O λb1 w h=>I2 h O λb2 w h=>ja.D0 kn o8 (λ_=>True) (qs [0,1,2,3] (vs [4] (qs [5] .done))) Zb2 trivial ?_);replace h:=h.drew;refine RD.ll kn O O (RD.ll kn O O (N1 (iM (h.Nt (E:=eB) (V5:=[_,_]) [_,_,_,_] 1 O O O) (h.Nt (E:=eB) (V5:=[_,_]) [_,_,_,_] 0 O O O)) λw h'=>?_));exact LU
theorem agr{x y:w4}(h:Hp c w R):Cr 343 #[x.v,y.v] w c (I (x.cmp y)) R:=by rw[<-Qr];refine R2 func343 O (I2 h O λb1 w h=>I2 h O λb2 w h=>ja.D0 kn o8 (λ_=>True) (qs [0,1] (vs [2] (qs [3] .done))) Zb2 trivial ?_);replace h:=h.drew;refine RD.ll kn O O (RD.ll kn O O (N1 (iM (h.Ib [_,_,_,_] 1 O O O) (h.Ib [_,_,_,_] 0 O O O)) λw h'=>?_));exact LU
theorem PY{x:B}(h:Hp c w R):Cr 270 #[B8 x] w c (.bool false) R:=by refine R2 func270 O ⟨A8 O ?_,h⟩;grind[]
theorem ahl{x y:B}(h:Hp c w R):Cr 209 #[B8 x,B8 y] w c (I (if x.toNat<y.toNat then -1 else if y.toNat<x.toNat then 1 else 0)) R:=by
 refine R2 func209 O (N1 (PY h) λw h=>N1 (PY h) λw h=>m5 (m5 (BR.T5 (λb=>?_) λb=>?_)))
 ·refine⟨Ya O ?_,h⟩;omega
 ·refine BR.T5 (λa=>?_) λa=>?_
  ·refine⟨Ya O ?_,h⟩;omega
  ·refine⟨Ya O ?_,h⟩;omega
theorem UO(x y:w4)(n:i<4)(h:x.bytes.take i=y.bytes.take i)(a:¬x.bytes.getD i 0#8=y.bytes.getD i 0#8):x.cmp y=if(x.bytes.getD i 0#8).toNat<(y.bytes.getD i 0#8).toNat then -1 else 1:=by
 obtain⟨c,f,x2,l⟩:=x;obtain⟨b,d,j,k⟩:=y;have e:i=0∨i=1∨i=2∨i=3:=m4
 unfold w4.cmp;rcases e with rfl|rfl|rfl|rfl
 ·have a:¬c=b:=a;simp only[a,not_false_eq_true,if_true];rfl
 ·have h:[c]=[b]:=h;injection h with h0 _;have a:¬f=d:=a;simp only[h0,a,not_true_eq_false,not_false_eq_true,if_true,if_false];rfl
 ·have h:[c,f]=[b,d]:=h;injection h with h0 h;injection h with g _;have a:¬x2=j:=a;simp only[h0,g,a,not_true_eq_false,not_false_eq_true,if_true,if_false];rfl
 ·have h:[c,f,x2]=[b,d,j]:=h;injection h with h0 h;injection h with g h;injection h with m _;have a:¬l=k:=a;simp only[h0,g,m,a,not_true_eq_false,not_false_eq_true,if_true,if_false];rfl
theorem XS(x y:w4)(c:i<4)(h:x.bytes.take i=y.bytes.take i)(d:x.bytes.getD i 0#8=y.bytes.getD i 0#8):x.bytes.take (i+1)=y.bytes.take (i+1):=by have b:x.bytes.length=4:=rfl;have a:y.bytes.length=4:=rfl;grind[w4.bytes]
theorem DW(x y:w4)(l:4<=i)(h:x.bytes.take i=y.bytes.take i):x.cmp y=0:=by have k:x.bytes.length=4:=rfl;have j:y.bytes.length=4:=rfl;rw[sd m4,sd m4]at h;obtain⟨g,f,x2,e⟩:=x;obtain⟨d,c,b,a⟩:=y;have h:[g,f,x2,e]=[d,c,b,a]:=h;simp_all[w4.cmp]
theorem kZ{x y:w4}(c:Sx eB w a 4 cap x.bytes)(b:Sx eB w a2 4 E4 y.bytes):Cs 161 #[.slice a 4 cap,.slice a2 4 E4] w (Zb w (I (x.cmp y)) []):=by
 have h:=Hp.start w;refine R2 func161 O (p5.A6 kn [0,1,9,10,11] (λm vs w'=>∃(i:Nat),vs=[.slice a 4 cap,.slice a2 4 E4,.slice a 4 cap,I 4,I i]∧(x.bytes.take i=y.bytes.take i∧i+m=4)∧Hp w w' []) 4 ⟨0,rfl,⟨rfl,rfl⟩,h⟩ ?_);rintro m _ w1 o ⟨i,rfl,⟨heq,him⟩,h⟩;refine BR.T5 (λj=>?_) λj=>?_
 ·obtain⟨u,e⟩:∃u,x.bytes.getD i 0#8=u:=⟨_,rfl⟩;obtain⟨v,d⟩:∃v,y.bytes.getD i 0#8=v:=⟨_,rfl⟩;have q:i3 x.bytes i=some u:=by rw[<-e];exact K5 (by show i<4;omega)
  have p:i3 y.bytes i=some v:=by rw[<-d];exact K5 (by show i<4;omega)
  have aep:=UO x y (i:=i) m4 heq;have f:=XS x y (i:=i) m4 heq;rw[e,d]at aep f;refine Jc.ro c m4 λb1 l r=>LD.rM h c Zb9 Zb9 O (Te (Jc.ro b m4 λb2 k s=>LD.rM h b Zb9 Zb9 O (N1 (ahl h) λw h=>BR.ne (λg=>?_) λg=>?_)))
  ·refine⟨Ya O ?_,h⟩;grind[]
  ·refine i5 ?_;have huv:u=v:=Sh m4;exact⟨(m-1),m4,i+1,rfl,⟨f huv,m4⟩,h⟩
 ·have n:=DW x y (i:=i) m4 heq;refine m5 ⟨Ya O ?_,h⟩;omega
theorem ahD{x y:E2}(h:Hp c w R):Cr 160 #[x.v,y.v] w c (I (x.key.cmp y.key)) R:=by refine R2 func160 O (I2 h O λb1 w h=>I2 h O λb2 w h=>ja.D0 kn o8 (λ_=>True) (qs [0,1,2,3] (vs [4] (qs [5] .done))) Zb2 trivial ?_);replace h:=h.drew;refine RD.ll kn O O (RD.ll kn O O (N1 (kZ (x:=x.key) (y:=y.key) (h.Nt (E:=eB) (V5:=[_,_]) [_,_,_,_] 1 O O O) (h.Nt (E:=eB) (V5:=[_,_]) [_,_,_,_] 0 O O O)) λw h'=>?_));exact LU
end
end Go.Proofs.YtaaihojmcfaejaaGreatDoor
