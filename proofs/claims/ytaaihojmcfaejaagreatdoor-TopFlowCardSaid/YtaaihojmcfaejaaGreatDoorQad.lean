/- Lemmas for the tops: the walk of the house and its laws. No condition is added. -/
import Derived.MapKept
import Derived.DeepKeys
import Derived.Laws.StructEq
import Derived.Test.YtaaihojmcfaejaaGreatDoorQab
import Derived.Test.YtaaihojmcfaejaaGreatDoorQac
set_option linter.all false
namespace Go.Proofs.YtaaihojmcfaejaaGreatDoor
open Go Go.RowKit Tryz
variable{af:Array Edge}{ok:Bool}{d p wd x y:Int}{cs l:List Value}{b i k n o size sz w9:Nat}{X:Nat->Bool}{o':Obj}{ρ:Operand->Value}{dst:Option Nat}{A G φ:Prop}{db:String}{α β γ κ:Type}{e et kt mt t:TypeId}{j:TypeInfo}{z:Value}{K:Value->Prop}{T:Wm}{c w w':World}{C:World->Prop}{PQ:Y5}{xs:List (κ×β)}
theorem jE{P:Prop}(h:P:=by exact⟨(V4 (λz=>K (.int _ z)) e).mpr k⟩):P:=h
abbrev I(n:Int):Value:= .int .i64 n
abbrev U(s:BitVec 64):Value:= .int .u64 s.toNat
abbrev gb(n:BitVec 16):Value:= .int .u16 n.toNat
abbrev U8(n:Nat):Value:= .int .u8 n
abbrev B8(b:BitVec 8):Value:= .int .u8 b.toNat
abbrev Pt(b:Nat):Value:= .pointer (some ⟨b,0,none⟩)
theorem rt(n:Nat):BitVec.ofInt 64 (n:Int)=BitVec.ofNat 64 n:=Zb3
theorem kj(s:BitVec 64):BitVec.ofInt 64 (s.toNat:Int)=s:=Zb3
theorem Xm(s:BitVec 64):IntKind.u64.wrap (s.toNat:Int)=s.toNat:=by have:=s.isLt;simp[IntKind.wrap,IntKind.bits,IntKind.signed];omega
theorem qy(m p:Nat):(m:Int).fdiv (2^p)=((m/2^p:Nat):Int):=Zb1
theorem aeF(s:BitVec 64)(p:Nat)(c:p<64):
 (IntKind.u64.wrap ((BitVec.ofInt 64 ((s.toNat:Int).fdiv (2^(min p 64)))&&&BitVec.ofInt 64 1).toNat:Int)==1)=s.getLsbD p:=by
 rw[Ue m4,qy,rt,Xm];have e:(BitVec.ofNat 64 (s.toNat/2^p)&&&BitVec.ofInt 64 1).toNat=s.toNat/2^p%2:=by
  have b:(BitVec.ofInt 64 1)=(1#64):=by rfl
  have a:s.toNat/2^p<2^64:=Nat.lt_of_le_of_lt (Nat.div_le_self _ _) s.isLt;rw[b,rE,vE,Sk a];exact Nat.and_one_is_mod _
 grind[BitVec.getLsbD]
theorem fC(a b:BitVec 64):IntKind.u64.wrap ((BitVec.ofInt 64 (a.toNat:Int)&&& ~~~BitVec.ofInt 64 (b.toNat:Int)).toNat:Int)=((a&&& ~~~b).toNat:Int):=by rw[kj,kj,Xm]
theorem or_of(a b:BitVec 64):IntKind.u64.wrap ((BitVec.ofInt 64 (a.toNat:Int)|||BitVec.ofInt 64 (b.toNat:Int)).toNat:Int)=((a|||b).toNat:Int):=by rw[kj,kj,Xm]
theorem and_of(a b:BitVec 64):IntKind.u64.wrap ((BitVec.ofInt 64 (a.toNat:Int)&&&BitVec.ofInt 64 (b.toNat:Int)).toNat:Int)=((a&&&b).toNat:Int):=by rw[kj,kj,Xm]
theorem LV(a:BitVec 64):((a.toNat:Int)==0)=decide (a=0#64):=by
 rw[WK];simp only[beq_iff_eq,decide_eq_true_eq];constructor
 ·intro h;apply Sh;simp;omega
 simp_all
theorem io(m:BitVec 16):BitVec.ofInt 16 (m.toNat:Int)=m:=Zb3
theorem kw(m:BitVec 16):IntKind.u16.wrap (m.toNat:Int)=m.toNat:=by have:=m.isLt;simp[IntKind.wrap,IntKind.bits,IntKind.signed];omega
theorem or16(a b:BitVec 16):IntKind.u16.wrap ((BitVec.ofInt IntKind.u16.bits (a.toNat:Int)|||BitVec.ofInt IntKind.u16.bits (b.toNat:Int)).toNat:Int)=((a|||b).toNat:Int):=by show IntKind.u16.wrap ((BitVec.ofInt 16 (a.toNat:Int)|||BitVec.ofInt 16 (b.toNat:Int)).toNat:Int)=_;rw[io,io,kw]
theorem andNot16(a b:BitVec 16):IntKind.u16.wrap ((BitVec.ofInt IntKind.u16.bits (a.toNat:Int)&&& ~~~BitVec.ofInt IntKind.u16.bits (b.toNat:Int)).toNat:Int)=((a&&& ~~~b).toNat:Int):=by show IntKind.u16.wrap ((BitVec.ofInt 16 (a.toNat:Int)&&& ~~~BitVec.ofInt 16 (b.toNat:Int)).toNat:Int)=_;rw[io,io,kw]
def W(m:BitVec 16):BitVec 64:=m.setWidth 64
theorem anj(m:BitVec 16):IntKind.u64.wrap (m.toNat:Int)=((W m).toNat:Int):=by simp[W,IntKind.wrap,IntKind.bits,IntKind.signed]
theorem WR.W{m:BitVec 16}(a:K (U (W m))):WR .u64 (m.toNat:Int) K:=⟨by rw[anj];exact a⟩
theorem i64{z:Int}(h: -9223372036854775808<=z∧z<=9223372036854775807):IntKind.i64.wrap z=z:=Ug h
theorem So{a b:Value}(h:a=b):Ending.returned a=Ending.returned b:=by rw[h]
theorem Bv.u64{x:BitVec 64}(k:K (U (x>>>n))):Bv .u64 (x.toNat:Int) n K:=by
 refine⟨?_⟩;have e:(x.toNat:Int).fdiv (2^(min n IntKind.u64.bits))=((x>>>n).toNat:Int):=by
  rw[qy,mz,pz];by_cases h:n<=64
  ·rw[Ue (show n<=IntKind.u64.bits from h)]
  ·have a:=x.isLt;have c:x.toNat/2^n=0:=gu (iz a (Fs m4 m4));have b:x.toNat/2^(min n IntKind.u64.bits)=0:=by rw[Nat.min_eq_right (show IntKind.u64.bits<=n from by show 64<=n;omega)];exact gu a
   rw[c,b]
 grind
theorem WR.WF{x:BitVec 64}{a:Int}(b:a=(x.toNat:Int))(k:K (U (x<<<n))):WR .u64 (a*2^(min n IntKind.u64.bits)) K:=by
 subst b;refine⟨?_⟩;have e:IntKind.u64.wrap ((x.toNat:Int)*2^(min n IntKind.u64.bits))=((x<<<n).toNat:Int):=by
  have d:(x.toNat:Int)*2^(min n IntKind.u64.bits)=((x.toNat*2^(min n 64):Nat):Int):=by simp[IntKind.bits]
  rw[d];have c:IntKind.u64.wrap ((x.toNat*2^(min n 64):Nat):Int)=((x.toNat*2^(min n 64)%2^64:Nat):Int):=by simp[IntKind.wrap,IntKind.bits,IntKind.signed]
  rw[c,yC,Ds];by_cases h:n<=64
  ·simp[*]
  ·have:min n 64=64:=m4
   rw[this];have g:x.toNat*2^64%2^64=0:=Nat.mul_mod_left _ _;have f:x.toNat*2^n%2^64=0:=by
    have:n=64+(n-64):=m4
    rw[this,oE,<-Nat.mul_assoc,Nat.mul_right_comm];exact Nat.mul_mod_left _ _
   rw[g,f]
 grind
theorem bf.pv{x y:BitVec 64}{b:Int}(a:b=(y.toNat:Int))(k:K (U (x&&&y))):bf .and .u64 (x.toNat:Int) b K:=by subst a;have e:=Go.Proofs.YtaaihojmcfaejaaGreatDoor.and_of x y;exact jE
theorem bf.JO{x y:BitVec 64}{b:Int}(a:b=(y.toNat:Int))(k:K (U (x|||y))):bf .or .u64 (x.toNat:Int) b K:=by subst a;have e:=Go.Proofs.YtaaihojmcfaejaaGreatDoor.or_of x y;exact jE
theorem bf.or16{x y:BitVec 16}{b:Int}(a:b=(y.toNat:Int))(k:K (gb (x|||y))):bf .or .u16 (x.toNat:Int) b K:=by subst a;have e:=Go.Proofs.YtaaihojmcfaejaaGreatDoor.or16 x y;exact jE
theorem bf.yG{x y:BitVec 16}{b:Int}(a:b=(y.toNat:Int))(k:K (gb (x&&& ~~~y))):bf .andNot .u16 (x.toNat:Int) b K:=by subst a;have e:=Go.Proofs.YtaaihojmcfaejaaGreatDoor.andNot16 x y;exact jE
theorem A8{v:Value}{x y:Bool}(h:v= .bool x)(k:x=y):Ending.returned v=Ending.returned (.bool y):=by rw[h,k]
theorem Ya{v:Value}{i:IntKind}(h:v= .int i x)(k:x=y):Ending.returned v=Ending.returned (.int i y):=by rw[h,k]
theorem wJ{v:Value}{m:List Value}(h:v= .tuple l.toArray)(k:l=m):Ending.returned v=Ending.returned (.tuple m.toArray):=by rw[h,k]
theorem alw{v:Value}{m:List Value}(h:v= .agg l.toArray)(k:l=m):Ending.returned v=Ending.returned (.agg m.toArray):=by rw[h,k]
abbrev Sub:=Nat->Option Obj
abbrev HP:=Sub->Prop
def Do(a b:Sub):Sub:=λk=>match a k with
 |some o=>some o
 |none=>b k
def Vo(a b:Sub):Prop:=∀k,a k=none∨b k=none
def C5:List HP->HP
 |[]=>λ_=>True
 |P::L=>λh=>∃b a,P b∧C5 L a∧Vo b a∧h=Do b a
def le(a b:Sub):Prop:=∀k o,a k=some o->b k=some o
theorem Vo.symm{a b:Sub}(h:Vo a b):Vo b a:=λk=>(h k).symm
theorem Nr{a b:Sub}(h:Vo a b):Do a b=Do b a:=by funext k;unfold Do;rcases h k with h|h<;>rw[h]<;>cases a k<;>cases b k<;>simp_all
theorem Co(a b c:Sub):Do (Do a b) c=Do a (Do b c):=by grind[Do]
theorem Yf{a b c:Sub}:Vo a (Do b c)↔Vo a b∧Vo a c:=by
 constructor
 ·intro h;refine⟨λk=>?_,λk=>?_⟩<;>rcases h k with h|h
  ·exact .inl h
  ·grind[Do]
  ·exact .inl h
  grind[Do]
 ·rintro⟨d,e⟩ k;rcases d k with d|d
  ·exact .inl d
  ·rcases e k with e|e<;>grind[Do]
theorem MH{a b c:Sub}:Vo (Do a b) c↔Vo a c∧Vo b c:=
 ⟨λh=>⟨(Yf.1 h.symm).1.symm,(Yf.1 h.symm).2.symm⟩,λh=>(Yf.2 ⟨h.1.symm,h.2.symm⟩).symm⟩
theorem GD(a b:Sub):le a (Do a b):=λk o h=>by unfold Do;rw[h]
theorem RS{a b:Sub}(c:Vo a b):le b (Do a b):=by grind[Nr,GD]
theorem le.trans{a b c:Sub}(h:le a b)(k:le b c):le a c:=λx o e=>k x o (h x o e)
def emp:Sub:=λ_=>none
theorem Li(a:Sub):Vo emp a:=λ_=> .inl O
theorem bG:∀(L:List HP)(c d h:Sub),C5 L d->Vo c d->h=Do c d->C5 L h
 |[],_,_,_,_,_,_=>trivial
 |P::L,c,d,h,k,f,e=>by obtain⟨a,b,g,i,j,l⟩:=k;subst l e;obtain⟨n,m⟩:=Yf.1 f;refine⟨a,Do c b,g,bG L c b _ i m O,Yf.2 ⟨n.symm,j⟩,?_⟩;grind[Co,Nr]
theorem Qf:∀(A L:List HP)(h:Sub),C5 (A++L) h↔∃d c,C5 A d∧C5 L c∧Vo d c∧h=Do d c
 |[],L,h=>⟨λk=>⟨emp,h,trivial,k,Li _,rfl⟩,λ⟨d,c,_,k,f,e⟩=>bG L d c h k f e⟩
 |P::A,L,h=>by
  constructor
  ·rintro⟨a,b,g,o,f,rfl⟩;obtain⟨d,c,j,i,l,rfl⟩:=(Qf A L b).1 o;obtain⟨n,m⟩:=Yf.1 f;exact⟨Do a d,c,⟨a,d,g,j,n,rfl⟩,i,MH.2 ⟨m,l⟩,(Co _ _ _).symm⟩
  ·rintro⟨d,c,⟨a,b,g,j,f,rfl⟩,i,l,rfl⟩;obtain⟨n,m⟩:=MH.1 l;exact⟨a,Do b c,g,(Qf A L _).2 ⟨b,c,j,i,m,rfl⟩,Yf.2 ⟨f,n⟩,Co _ _ _⟩
theorem aG{P Q:HP}{L:List HP}{h:Sub}(k:C5 (P::Q::L) h):C5 (Q::P::L) h:=by obtain⟨a,b,e,⟨x,y,d,f,g,rfl⟩,c,rfl⟩:=k;obtain⟨j,i⟩:=Yf.1 c;refine⟨x,Do a y,d,⟨a,y,e,f,i,rfl⟩,Yf.2 ⟨j.symm,g⟩,?_⟩;grind[Co,Nr]
theorem Xg{L L':List HP}(p:L.Perm L'):∀{h:Sub},C5 L h->C5 L' h:=by
 induction p with
 |nil=>simp
 |cons x _ c=>rintro h ⟨a,b,f,e,d,rfl⟩;exact⟨a,b,f,c e,d,rfl⟩
 |swap x y l=>exact λk=>aG k
 |trans _ _ g i=>simp_all
theorem XR{P:HP}{L:List HP}{h:Sub}(k:C5 (P::L) h):C5 L h:=by obtain⟨a,b,_,d,c,rfl⟩:=k;exact(Qf [] L _).2 ⟨a,b,trivial,d,c,rfl⟩
theorem Bb:∀{L:List HP}{i:Nat}{P:HP}{h:Sub},C5 L h->i3 L i=some P->∃d,P d∧le d h
 |[],i,P,h,_,c=>by cases i<;>cases c
 |Q::L,0,P,h,k,c=>by unfold i3 at c;injection c with c;subst c;obtain⟨a,b,e,_,_,rfl⟩:=k;grind[GD]
 |Q::L,i+1,P,h,k,c=>by obtain⟨a,b,_,f,j,rfl⟩:=k;obtain⟨d,e,g⟩:=Bb f c;grind[le.trans,RS]
def i6{α:Type}:List α->Nat->List α
 |[],_=>[]
 |_::l,0=>l
 |x::l,i+1=>x::i6 l i
def ep{α:Type}:List α->Nat->α->List α
 |[],_,_=>[]
 |_::l,0,y=>y::l
 |x::l,i+1,y=>x::ep l i y
theorem Ac{α:Type}:∀{L:List α}{i:Nat}{x:α},i3 L i=some x->L.Perm (x::i6 L i)
 |[],i,x,h=>by cases i<;>cases h
 |y::l,0,x,h=>by unfold i3 at h;injection h with h;subst h;exact tj _
 |y::l,i+1,x,h=>((Ac (L:=l) (i:=i) h).cons y).trans (List.Perm.swap _ _ _)
theorem Rj{α:Type}:∀{L:List α}{i:Nat}{x y:α},i3 L i=some x->(ep L i y).Perm (y::i6 L i)
 |[],i,x,y,h=>by cases i<;>cases h
 |z::l,0,x,y,h=>tj _
 |z::l,i+1,x,y,h=>((Rj (x:=x) (L:=l) (i:=i) h).cons z).trans (List.Perm.swap _ _ _)
def pt(b:Nat)(o:Obj):HP:=λh=>h b=some o
abbrev bk(b:Nat)(l:List Value)(t:TypeId):HP:=pt b (.cells l.toArray t)
def sf(f:α->HP):HP:=λh=>∃x,f x h
def d6(p:Prop):HP:=λ_=>p
def Up(w:World):Sub:=λk=>w.heap[k]?
def Zy(c:World):HP:=λh=>h=Up c
structure Hp(c w:World)(L:List HP):Prop where
 os:w.os=c.os
 tape:w.tape=c.tape
 output:w.output=c.output
 drawn:c.drawn<=w.drawn
 A0:C5 (Zy c::L) (Up w)
section
variable{L L':List HP}{P Q:HP}
theorem Hp.start(w:World):Hp w w []:=⟨rfl,rfl,rfl,V7 _,Up w,emp,rfl,trivial,(Li _).symm,by rw[Nr (Li _).symm];rfl⟩
theorem Hp.map(h:Hp c w L)(k:∀m,C5 L m->C5 L' m):Hp c w L':=by obtain⟨n,l,j,i,a,b,g,f,d,e⟩:=h;exact⟨n,l,j,i,a,b,g,k b f,d,e⟩
theorem Hp.Od(h:Hp c w L)(p:L.Perm L'):Hp c w L':=h.map λ_ k=>Xg p k
theorem Hp.pick(h:Hp c w L)(i:Nat)(a:i3 L i=some P):Hp c w (P::i6 L i):=h.Od (Ac a)
theorem Hp.drop(h:Hp c w (P::L)):Hp c w L:=h.map λ_ k=>XR k
theorem Hp.ex{f:α->HP}(h:Hp c w (sf f::L)):∃x,Hp c w (f x::L):=by obtain⟨n,m,l,k,a,b,j,⟨x,y,⟨z,d⟩,g,o,p⟩,i,e⟩:=h;exact⟨z,n,m,l,k,a,b,j,⟨x,y,d,g,o,p⟩,i,e⟩
theorem Hp.R8{f:α->HP}(z:α)(h:Hp c w (f z::L)):Hp c w (sf f::L):=
 h.map λ_⟨x,y,a,b,d,e⟩=>⟨x,y,⟨z,a⟩,b,d,e⟩
theorem Hp.uf{p:Prop}(h:Hp c w (d6 p::L)):p∧Hp c w L:=by refine⟨?_,h.drop⟩;obtain⟨_,_,_,_,a,b,e,⟨x,y,d,_⟩,_⟩:=h;exact d
theorem Hp.T'{p:Prop}(a:p)(h:Hp c w L):Hp c w (d6 p::L):=
 h.map λm k=>⟨emp,m,a,k,Li _,rfl⟩
theorem Hp.R6{A:List HP}(h:Hp c w (C5 A::L)):Hp c w (A++L):=h.map λ_⟨x,y,d,a,b,e⟩=>(Qf A L _).2 ⟨x,y,d,a,b,e⟩
theorem Hp.C3{A:List HP}(h:Hp c w (A++L)):Hp c w (C5 A::L):=h.map λm k=>by obtain⟨x,y,d,a,b,e⟩:=(Qf A L m).1 k;exact⟨x,y,d,a,b,e⟩
theorem Hp.imp(h:Hp c w (P::L))(k:∀m,P m->Q m):Hp c w (Q::L):=h.map λ_⟨x,y,d,a,b,e⟩=>⟨x,y,k x d,a,b,e⟩
theorem Hp.t8{o:Obj}(h:Hp c w L)(d:i3 L i=some (pt b o)):w.heap[b]? =some o:=by obtain⟨f,e,a⟩:=Bb (i:=i+1) h.A0 d;exact a b o e
theorem Hp.Qm(h:Hp c w L)(a:i3 L i=some (bk b l t)):VE w b l t:=⟨h.t8 a⟩
theorem Hp.old{o:Obj}(h:Hp c w L)(d:c.heap[b]? =some o):w.heap[b]? =some o:=by obtain⟨f,e,a⟩:=Bb (i:=0) (P:=Zy c) h.A0 rfl;rw[e]at a;exact a b o d
theorem Hp.drew(h:Hp c w L):Hp c w.drew L:=⟨h.os,h.tape,h.output,Nat.le_succ_of_le h.drawn,h.A0⟩
def Fw(b:Nat)(o:Obj):Sub:=λk=>if k=b then some o else none
theorem DO(w:World)(o:Obj):Up (w.alloc o)=Do (Fw w.heap.size o) (Up w)∧Vo (Fw w.heap.size o) (Up w):=by
 constructor
 ·funext k;unfold Up Do Fw;by_cases a:k=w.heap.size
  ·subst a;rw[S1 O];exact Po w o
  ·rw[V0 a];unfold World.alloc<;>grind
 ·intro k;unfold Fw Up<;>grind
theorem Hp.alloc(h:Hp c w L)(o:Obj):Hp c (w.alloc o) (pt w.heap.size o::L):=by obtain⟨g,f,d,b,k⟩:=h;obtain⟨e,a⟩:=DO w o;refine⟨g,f,d,b,?_⟩;rw[e];exact aG ⟨_,_,by unfold pt Fw;simp,k,a,rfl⟩
def Rz(h:Sub)(b:Nat)(o:Obj):Sub:=λk=>if k=b then some o else h k
theorem nM{b:Nat}{o o':Obj}:∀{L:List HP}{i:Nat}{h:Sub},C5 L h->i3 L i=some (pt b o)->C5 (ep L i (pt b o')) (Rz h b o')∧h b=some o
 |[],i,h,_,a=>by cases i<;>cases a
 |Q::L,0,h,k,a=>by
  unfold i3 at a;injection a with a;subst a;obtain⟨x,y,f,g,c,rfl⟩:=k;have hP':x b=some o:=f;have m:y b=none:=by rcases c b with e|e;(rw[hP']at e;cases e);exact e
  refine⟨⟨Rz x b o',y,by unfold pt Rz;simp,g,λk=>?_,?_⟩,by unfold Do;rw[hP']⟩
  ·unfold Rz;by_cases d:k=b
   ·simp[*]
   ·rw[V0 d];exact c k
  grind[Rz,Do]
 |Q::L,i+1,h,k,a=>by
  obtain⟨x,y,f,g,c,rfl⟩:=k;obtain⟨j,l⟩:=nM (o':=o') g a;have n:x b=none:=by rcases c b with e|e;(exact e);rw[l]at e;cases e
  refine⟨⟨x,Rz y b o',f,j,λk=>?_,?_⟩,by simp_all[Do]⟩
  ·unfold Rz;by_cases d:k=b
   ·simp[*]
   ·rw[V0 d];exact c k
  grind[Rz,Do]
theorem Hp.put{o:Obj}(h:Hp c w L)(f:i3 L i=some (pt b o))(a:UE w b o' w'):Hp c w' (ep L i (pt b o')):=by
 obtain⟨e,d⟩:=nM (i:=i+1) (o':=o') h.A0 f;refine⟨a.os.trans h.os,a.tape.trans h.tape,a.output.trans h.output,by rw[a.drawn];exact h.drawn,?_⟩;have:Up w'=Rz (Up w) b o':=by
  funext k;have j:b<w.heap.size:=(vI.1 d).1;unfold Up Rz;rw[a.heap,Array.getElem?_setIfInBounds];by_cases g:k=b
  ·simp[*]
  ·grind
 rw[this];exact e
theorem Hp.ake(h:Hp c w L):Below c.heap.size c w:=by
 have d:∀b,b<c.heap.size->w.heap[b]? =c.heap[b]?:=λb a=>by have e:c.heap[b]? =some c.heap[b]:=uI a;grind[old]
 refine⟨h.os,h.tape,h.output,?_,d⟩;grind
end
def Ej:List Value->Option (List Value)
 |[]=>some []
 |v::l=>match Ej l with
  |none=>none
  |some r=>match v with
   | .int k i=>some (.int k i::r)
   | .bool b=>some (.bool b::r)
   | .pointer a=>some (.pointer a::r)
   | .slice a n m=>some (.slice a n m::r)
   | .map m=>some (.map m::r)
   | .func f a b=>some (.func f a b::r)
   | .iface t v=>some (.iface t v::r)
   | .string s=>some (.string s::r)
   |u=>some (u::r)
theorem wo:∀{l l':List Value},Ej l=some l'->l'=l
 |[],l',h=>by simp_all[Ej]
 |v::l,l',h=>by
  unfold Ej at h;cases a:Ej l with
  |none=>simp_all
  |some r=>rw[a]at h;have e:=wo a;grind
def G7{α:Type}:List α->Nat->α->Option (List α)
 |[],_,_=>none
 |_::l,0,y=>some (y::l)
 |x::l,i+1,y=>match G7 l i y with
  |some r=>some (x::r)
  |none=>none
theorem Qv{α:Type}:∀{L L':List α}{i:Nat}{y:α},G7 L i y=some L'->L'=ep L i y
 |[],_,_,_,h=>by cases h
 |x::l,L',0,y,h=>by unfold G7 at h;injection h with h;exact h.symm
 |x::l,L',i+1,y,h=>by
  unfold G7 at h;cases hs:G7 l i y with
  |none=>simp_all
  |some r=>rw[hs]at h;injection h with h;rw[<-h,Qv hs];rfl
def wH{α β:Type}:Nat->List α->(List α->Option β)->Option β
 |0,l,f=>f l
 |n+1,_::l,f=>wH n l f
 |_+1,[],_=>none
def qq{α:Type}(L tail:List α):List Nat->Option (List α)
 |[]=>some tail
 |i::is=>match i3 L i,qq L tail is with
  |some P,some r=>some (P::r)
  |_,_=>none
def LS(i:Nat):List Nat->Bool
 |[]=>false
 |j::l=>match Nat.beq i j with
  |true=>true
  |false=>LS i l
def wG(k:Nat):List Nat->Bool
 |[]=>true
 |i::is=>match Nat.blt i k,LS i is with
  |true,false=>wG k is
  |_,_=>false
theorem vH{α β:Type}:∀{k:Nat}{L:List α}{f:List α->Option β}{r:β},wH k L f=some r->k<=L.length∧f (L.drop k)=some r
 |0,L,f,r,h=>⟨ye _,by grind[wH]⟩
 |n+1,[],f,r,h=>by cases h
 |n+1,x::l,f,r,h=>by obtain⟨b,a⟩:=vH (k:=n) (L:=l) h<;>grind
theorem GB{α:Type}{L tail:List α}:∀{is:List Nat}{L':List α},qq L tail is=some L'->∃M,L'=M++tail∧is.map (i3 L)=M.map some
 |[],L',h=>by simp_all[qq]
 |i::is,L',h=>by
  unfold qq at h;cases b:i3 L i with
  |none=>simp_all
  |some P=>
   cases a:qq L tail is with
   |none=>simp_all
   |some r=>rw[b,a]at h;injection h with h;obtain⟨M,d,c⟩:=GB a<;>grind
theorem IG{i:Nat}:∀{l:List Nat},LS i l=false->i∉l
 |[],_=>Zb3
 |j::l,h=>by
  unfold LS at h;cases a:Nat.beq i j with
  |true=>simp_all
  |false=>
   rw[a]at h;have:i≠j:=λe=>Zb7
   simp only[List.mem_cons,not_or];exact⟨this,IG h⟩
theorem qx{k:Nat}:∀{is:List Nat},wG k is=true->is.Nodup∧∀i∈is,i<k
 |[],_=>⟨eu,λ_ h=>(by cases h)⟩
 |i::is,h=>by
  unfold wG at h;split at h
  ·rename_i d c;obtain⟨b,a⟩:=qx h;simp_all[IG]
  ·cases h
theorem Jw{α:Type}:∀{is:List Nat}{L M:List α},is.Nodup->is.map (i3 L)=M.map some->∃N,L.Perm (M++N)
 |[],L,M,_,h=>by
  cases M with
  |nil=>exact⟨L,tj _⟩
  |cons x M=>cases h
 |i::is,L,M,b,h=>by
  cases M with
  |nil=>cases h
  |cons P M=>
   simp only[List.map_cons,List.cons.injEq]at h;obtain⟨m,k⟩:=h;rw[Fm]at b;have f:=Ac m;have n:∀(L:List α)(i j:Nat),i≠j->i3 (i6 L i) (if j<i then j else j-1)=i3 L j:=by
    intro L;induction L with
    |nil=>simp[i6,i3]
    |cons x l d=>
     intro i j r;cases i with
     |zero=>
      cases j with
      |zero=>omega
      |succ j=>simp[i6,i3]
     |succ i=>
      cases j with
      |zero=>simp[i6,i3]
      |succ j=>
       have:=d i j m4;unfold i6;by_cases c:j<i
       ·rw[S1 (by omega:j+1<i+1)];rw[S1 c]at this;exact this
       ·rw[V0 (by omega:¬j+1<i+1)];rw[V0 c]at this;have e:j+1-1=(j-1)+1:=m4
        rw[e];exact this
   have g:(is.map λj=>if j<i then j else j-1).map (i3 (i6 L i))=M.map some:=by rw[<-k,Ph];apply Az;intro j o;exact n L i j (λe=>b.1 (e▸o))
   have q:(is.map λj=>if j<i then j else j-1).Nodup:=by
    have:=b.2;have hni:=b.1;clear k g m f;induction is with
    |nil=>simp
    |cons a is d=>rw[Fm]at this;simp only[List.map_cons,List.nodup_cons,List.mem_map,not_exists,not_and];grind
   obtain⟨N,p⟩:=Jw q g;exact⟨N,f.trans (p.cons P)⟩
section
variable{L L':List HP}{P Q:HP}
theorem Hp.subst(h:Hp c w L)(e:L=L'):Hp c w L':=e▸h
theorem Hp.get(h:Hp c w L)(k:Nat)(is:List Nat)(g:wG k is=true)(a:wH k L (λt=>qq L t is)=some L'):Hp c w L':=by
 obtain⟨z,a⟩:=vH a;obtain⟨M,rfl,f⟩:=GB a;obtain⟨u,s⟩:=qx g;have hm':is.map (i3 (L.take k))=M.map some:=by rw[<-f];apply Az;intro i j;rw[Z0,Z0,List.getElem?_take_of_lt (s i j)]
 obtain⟨N,n⟩:=Jw u hm';have r:Hp c w (L.take k++L.drop k):=h.subst (Vd k L).symm;have o:Hp c w ((M++N)++L.drop k):=r.Od (n.append_right _);refine o.map λm hs=>?_;rw[N']at hs;obtain⟨x,y,d,b,l,rfl⟩:=(Qf _ _ _).1 hs;obtain⟨p,q,_,e,v,rfl⟩:=(Qf _ _ _).1 b;refine(Qf _ _ _).2 ⟨x,Do p q,d,?_,l,rfl⟩;exact(Qf [] _ _).2 ⟨p,q,trivial,e,v,rfl⟩
theorem Hp.kG{o:Obj}(h:Hp c w L)(d:i3 L i=some (pt b o))(a:UE w b o' w')(hs:G7 L i (pt b o')=some L'):Hp c w' L':=by rw[Qv hs];exact h.put d a
theorem BR.T5[Decidable φ]{B:Prop}(b:φ->A)(a:¬φ->B):BR (decide φ) A B:=⟨λe=>b (Vn e),λe=>a (wE e)⟩
theorem BR.Mv[Decidable φ]{B:Prop}(h:φ)(k:A):BR (decide φ) A B:=BR.s9 (Si h) k
theorem BR.YD[Decidable φ]{B:Prop}(h:¬φ)(k:B):BR (decide φ) A B:=BR.no (Em h) k
theorem BR.eq{B:Prop}(b:x=y->A)(a:¬x=y->B):BR (x==y) A B:=⟨λe=>b (eq_of_beq e),λe=>a (λc=>Zb7)⟩
theorem BR.QT{B:Prop}(h:x=y)(k:A):BR (x==y) A B:=BR.s9 (aeL.2 h) k
theorem BR.eqN{B:Prop}(h:¬x=y)(k:B):BR (x==y) A B:=BR.no (AE.2 h) k
theorem BR.ne{B:Prop}(b:¬x=y->A)(a:x=y->B):BR (x !=y) A B:=⟨λe=>b (λc=>Zb7),λe=>a (by simpa using e)⟩
theorem BR.neY{B:Prop}(h:¬x=y)(k:A):BR (x !=y) A B:=BR.s9 (by simpa using h) k
theorem BR.neN{B:Prop}(h:x=y)(k:B):BR (x !=y) A B:=BR.no (by simpa using h) k
theorem BR.not{c:Bool}{B:Prop}(h:BR c B A):BR (!c) A B:=by cases c<;>exact⟨λe=>(by first|exact h.ex.1 rfl|exact h.ex.2 rfl|cases e),λe=>(by first|exact h.ex.1 rfl|simp_all|cases e)⟩
theorem PP.hp{a:Array Value}{K:Nat->World->Prop}(h:Hp c w L)(d:Ej a.toList=some l)(k:∀b w',Hp c w' (bk b l t::L)->K b w'):PP w (.cells a t) K:=by
 have e:a=l.toArray:=by rw[wo d]
 subst e;exact⟨k _ _ (h.alloc _)⟩
theorem LD.hp{v:Value}(h:Hp c w L)(i:Nat)(e:i3 L i=some (bk b l t))(a:i3 l k=some v)(d:K v):LD (λw'=>w'=w) ⟨b,k,none⟩ K:=
 LD.Qm (h.Qm e) a d
theorem Oa.hp(h:Hp c w L)(i:Nat)(e:i3 L i=some (bk b l t))(a:cut l k n=some cs)(d:K (.agg cs.toArray)):Oa (λw'=>w'=w) ⟨b,k,none⟩ n K:=
 Oa.Qm (h.Qm e) a d
theorem LD.cl{S:World->Prop}{v:Value}(g:∀w,S w->Hp c w L)(i:Nat)(f:i3 L i=some (bk b l t))(d:i3 l k=some v)(e:K v):LD S ⟨b,k,none⟩ K:=
 ⟨v,λw a=>((g w a).Qm f).cell d,e⟩
theorem Oa.cl{S:World->Prop}(g:∀w,S w->Hp c w L)(i:Nat)(f:i3 L i=some (bk b l t))(d:cut l k n=some cs)(e:K (.agg cs.toArray)):Oa S ⟨b,k,none⟩ n K:=by obtain⟨m,j⟩:=Mr l n k cs d;refine⟨cs,m,λw a i v o=>?_,e⟩;have h:=((g w a).Qm f).cell (j i v o);rw[i9];exact h
theorem LD.ady{v:Value}(h:Hp c w L)(a:c.cell? ⟨b,k,none⟩=some v)(f:K v):LD (λw'=>w'=w) ⟨b,k,none⟩ K:=by refine⟨v,λw' e=>?_,f⟩;subst e;have d:b<c.heap.size:=World.block_lt_of_cell? c ⟨b,k,none⟩ a;rw[<-a];have e:c.heap[b]?=some c.heap[b]:=uI d;exact World.cell?_of_block ((h.old e).trans e.symm)
theorem ST.hp{P:Program}{l':List Value}{v:Value}{K:World->Prop}(h:Hp c w L)(i:Nat)(a:i3 L i=some (bk b l t))(hs:v.cells.toList.length=size)(m:v.cells.toList.all (·.oneCell')=true)(g:Nat.ble (k+size) l.length=true)
 (f:Ej (m8 l k v.cells.toList)=some l')(j:G7 L i (bk b l' t)=some L')(d:∀w',Hp c w' L'->K w'):ST P w ⟨b,k,none⟩ v size K:=by
 have e:=wo f;subst e;exact ST.Qm (h.Qm a) hs m g λw' hp=>d w' (h.kG a hp j)
def SV:List Nat->Nat
 |[]=>0
 |i::l=>match Nat.blt i (SV l)with
  |true=>SV l
  |false=>i+1
def gS(is:List Nat):Nat->Nat->List Nat
 |0,_=>[]
 |n+1,k=>match LS k is with
  |true=>gS is n (k+1)
  |false=>k::gS is n (k+1)
def gq(L:List α)(k:Nat)(is:List Nat):Option (List α):=match wG k is with
 |true=>wH k L (λt=>qq L t is)
 |false=>none
def apN:List Nat->List Nat->List Nat
 |[],m=>m
 |i::l,m=>i::apN l m
def gx(L:List α)(is:List Nat):Option (List α):=gq L (SV is) (apN is (gS is (SV is) 0))
theorem Hp.q(h:Hp c w L)(k:Nat)(is:List Nat)(a:gq L k is=some L'):Hp c w L':=by grind[gq,get]
theorem Hp.g(h:Hp c w L)(is:List Nat)(a:gx L is=some L'):Hp c w L':=h.q _ _ a
theorem U0{v:Value}(h:Hp c w L)(i:Nat)(e:i3 L i=some (bk b l t))(a:i3 l k=some v)(d:K v):LD (λw'=>w'=w) ⟨b,k,none⟩ K:=LD.hp h i e a d
theorem O4(h:Hp c w L)(i:Nat)(e:i3 L i=some (bk b l t))(a:cut l k n=some cs)(d:K (.agg cs.toArray)):Oa (λw'=>w'=w) ⟨b,k,none⟩ n K:=Oa.hp h i e a d
theorem U3{v:Value}(i:Nat)(e:i3 L i=some (bk b l t))(a:i3 l k=some v)(d:K v):LD (λw=>Hp c w L) ⟨b,k,none⟩ K:=LD.cl (λ_ h=>h) i e a d
theorem xg(i:Nat)(e:i3 L i=some (bk b l t))(a:cut l k n=some cs)(d:K (.agg cs.toArray)):Oa (λw=>Hp c w L) ⟨b,k,none⟩ n K:=Oa.cl (λ_ h=>h) i e a d
def stF(l:List Value)(k:Nat)(v:Value)(size:Nat):Option (List Value):=match Nat.beq v.cells.toList.length size,v.cells.toList.all (·.oneCell'),Nat.ble (k+size) l.length with
 |true,true,true=>Ej (m8 l k v.cells.toList)
 |_,_,_=>none
theorem J3{P:Program}{l':List Value}{v:Value}{K:World->Prop}(h:Hp c w L)(i:Nat)(e:i3 L i=some (bk b l t))(d:stF l k v size=some l')(f:G7 L i (bk b l' t)=some L')(a:∀w',Hp c w' L'->K w'):ST P w ⟨b,k,none⟩ v size K:=by grind[stF,ST.hp,Nat.eq_of_beq_eq_true]
theorem I2{a:Array Value}{K:Nat->World->Prop}(h:Hp c w L)(d:Ej a.toList=some l)(k:∀b w',Hp c w' (bk b l t::L)->K b w'):PP w (.cells a t) K:=PP.hp h d k
theorem i5{z:Int}(a:K (.int .i64 z))(h: -9223372036854775808<=z∧z<=9223372036854775807:=by omega):WR .i64 z K:=WR.vp (Ug h) a
theorem Q5{q:Bool}{B:Prop}(k:A)(h:q=true:=by rfl):BR q A B:=BR.s9 h k
theorem m5{q:Bool}{B:Prop}(k:B)(h:q=false:=by rfl):BR q A B:=BR.no h k
theorem Wa{B:Prop}(k:B)(h:¬x=y:=by omega):BR (x==y) A B:=BR.eqN h k
theorem mf{B:Prop}(k:A)(h:x=y:=by omega):BR (x==y) A B:=BR.QT h k
theorem Te[Decidable φ]{B:Prop}(k:B)(h:¬φ:=by omega):BR (decide φ) A B:=BR.YD h k
theorem Zt[Decidable φ]{B:Prop}(k:A)(h:φ:=by omega):BR (decide φ) A B:=BR.Mv h k
theorem Mj{B:Prop}(k:B)(h:x=y:=by omega):BR (x !=y) A B:=BR.neN h k
theorem xq{B:Prop}(k:A)(h:¬x=y:=by omega):BR (x !=y) A B:=BR.neY h k
theorem km{K:Nat->Prop}(k:K y.toNat)(h:0<=y:=by omega):KN y K:=⟨h,k⟩
theorem wg{p:α->β->Prop}(h:∃a b,p a b)(k:∀a b,p a b->G):G:=h.elim λa h=>h.elim λb h=>k a b h
theorem Zx3{p:α->β->γ->Prop}(h:∃a b d,p a b d)(k:∀a b d,p a b d->G):G:=h.elim λa h=>wg h (k a)
theorem pg{c:Type}{p:α->β->γ->c->Prop}(h:∃a b d e,p a b d e)(k:∀a b d e,p a b d e->G):G:=h.elim λa h=>Zx3 h (k a)
theorem pN{g c:Type}{p:α->β->γ->g->c->Prop}(h:∃a b d e f,p a b d e f)(k:∀a b d e f,p a b d e f->G):G:=h.elim λa h=>pg h (k a)
end
structure Qb(α:Type) where
 f:α->List Value
 sz:Nat
 len:∀x,(f x).length=sz
 one:∀x,(f x).all (·.oneCell')=true
section
def Qb.P3(E:Qb α)(xs:List α):List Value:=xs.flatMap E.f
theorem Qb.Fr(E:Qb α):E.P3 []=[]:=rfl
theorem Qb.Dc(E:Qb α)(x:α)(xs:List α):E.P3 (x::xs)=E.f x++E.P3 xs:=rfl
theorem Qb.Z9(E:Qb α)(xs ys:List α):E.P3 (xs++ys)=E.P3 xs++E.P3 ys:=by unfold Qb.P3;simp
theorem Qb.p8(E:Qb α):∀xs:List α,(E.P3 xs).length=xs.length*E.sz
 |[]=>by simp[Qb.P3]
 |x::xs=>by rw[E.Dc,j7,E.len,E.p8 xs,ze,iu,bu,mE]
theorem Qb.Ji(E:Qb α):∀xs:List α,(E.P3 xs).all (·.oneCell')=true
 |[]=>rfl
 |x::xs=>by rw[E.Dc,List.all_append,E.one,E.Ji xs];rfl
theorem Qb.nj(E:Qb α):∀(xs:List α)(i j:Nat)(x:α)(v:Value),i3 xs i=some x->i3 (E.f x) j=some v->i3 (E.P3 xs) (i*E.sz+j)=some v
 |[],i,j,x,v,h,_=>by cases i<;>cases h
 |y::xs,0,j,x,v,h,a=>by unfold i3 at h;injection h with h;subst h;rw[E.Dc,Z0,Nat.zero_mul,rz];grind[Z0]
 |y::xs,i+1,j,x,v,h,a=>by have:=E.nj xs i j x v h a;rw[Z0]at this⊢;rw[E.Dc,Im (by rw[E.len,iu,bu];omega),E.len];grind
theorem dp{β:Type}:∀(l:List β)(i:Nat)(x y:β),i3 l i=some x->l.set i y=l.take i++y::l.drop (i+1)∧l=l.take i++x::l.drop (i+1)
 |[],i,x,y,h=>by cases i<;>cases h
 |z::l,0,x,y,h=>by simp_all[i3]
 |z::l,i+1,x,y,h=>by obtain⟨b,a⟩:=dp l i x y h<;>grind
theorem Qb.ET(E:Qb α)(xs:List α)(i:Nat)(x y:α)(h:i3 xs i=some x)(j:Nat)(vs:List Value)(m:j+vs.length<=E.sz)(b:E.f y=m8 (E.f x) j vs)(pre post:List Value):
 m8 (pre++E.P3 xs++post) (pre.length+i*E.sz+j) vs=pre++E.P3 (xs.set i y)++post:=by
 obtain⟨d,c⟩:=dp xs i x y h;have n:i<xs.length:=by rw[Z0]at h;exact(Cp.1 h).1
 have a:(E.P3 (xs.take i)).length=i*E.sz:=by rw[E.p8,Ga,Ue m4]
 have e:E.P3 xs=E.P3 (xs.take i)++(E.f x++E.P3 (xs.drop (i+1))):=by have:=V4 E.P3 c;rw[E.Z9,E.Dc]at this;exact this
 rw[d,E.Z9,E.Dc,b];have o:(E.f x).length=E.sz:=E.len x;rw[vb vs (E.f x) j m4,vb vs (pre++E.P3 xs++post) _ Zb1];rw[e];have l:(E.f x).length=E.sz:=E.len x;have k:(pre++(E.P3 (xs.take i)++(E.f x++E.P3 (xs.drop (i+1))))++post).take (pre.length+i*E.sz+j)=pre++(E.P3 (xs.take i)++(E.f x).take j):=by rw[N',wz,kV,N'];rw[<-a,kV,N',nV m4]
 have g:(pre++(E.P3 (xs.take i)++(E.f x++E.P3 (xs.drop (i+1))))++post).drop (pre.length+i*E.sz+j+vs.length)=(E.f x).drop (j+vs.length)++(E.P3 (xs.drop (i+1))++post):=by rw[N',show pre.length+i*E.sz+j+vs.length=pre.length+(i*E.sz+(j+vs.length)) by omega,jV,N'];rw[<-a,jV,N',vL m4]
 grind
end
def so(e:TypeId)(E:Qb α)(a:Option Addr)(cap:Nat)(xs:List α):HP:=λh=>
 (a=none∧cap=0∧xs=[])∨
 ∃b pre post,a=some ⟨b,pre.length,none⟩∧bk b (pre++E.P3 xs++post) e h∧xs.length<=cap∧(cap-xs.length)*E.sz<=post.length∧cap<=maxLen
section
variable{E:Qb α}{a:Option Addr}{cap:Nat}{xs:List α}{L L':List HP}
theorem Hp.El(h:Hp c w L)(g:i3 L i=some (so e E a cap xs))(l:xs≠[]):∃b o pre post,a=some ⟨b,o,none⟩∧pre.length=o∧VE w b (pre++E.P3 xs++post) e:=by
 obtain⟨m,j,f⟩:=Bb (i:=i+1) h.A0 g;rcases j with⟨_,_,d⟩|⟨b,pre,post,d,k,_⟩
 ·simp_all
 ·exact⟨b,_,pre,post,d,rfl,⟨f b _ k⟩⟩
theorem Hp.Tm{P Q:HP}{D:Nat->Prop}(h:Hp c w L)(l:i3 L i=some P)(f:ua D w w')
 (m:∀d,P d->le d (Up w)->(∀b,D b->d b≠none)∧Q (λk=>if w.heap.size<=k∨d k≠none then Up w' k else none))(hs:G7 L i Q=some L'):Hp c w' L':=by
 rw[Qv hs];refine⟨f.os.trans h.os,f.tape.trans h.tape,f.output.trans h.output,j9 h.drawn f.drawn,?_⟩;have n:=Xg (((Ac l).cons (Zy c)).trans (List.Perm.swap _ _ _)) h.A0;refine Xg ((List.Perm.swap _ _ _).trans ((Rj (y:=Q) l).cons (Zy c)).symm) (?_:C5 (Q::Zy c::i6 L i) (Up w'));obtain⟨d,j,q,r,g,e⟩:=n;obtain⟨s,p⟩:=m d q (by grind[GD]);have t:∀k,Up w k=none->j k=none:=λk hk0=>by rw[e]at hk0;grind[Do]
 have aoe:∀k,w.heap.size<=k->j k=none:=λk hk0=>t k (by grind[Up]);refine⟨_,j,p,r,λk=>?_,?_⟩
 ·by_cases a:w.heap.size<=k∨d k≠none
  ·right;rcases a with a|a
   ·grind
   ·exact(g k).resolve_left a
  simp[*]
 ·funext k;unfold Do;by_cases a:w.heap.size<=k∨d k≠none
  ·simp only[if_pos a];cases u:Up w' k with
   |some o=>rfl
   |none=>
    rcases a with a|a
    ·simp[*]
    ·exact((g k).resolve_left a).symm
  ·simp only[if_neg a];simp only[not_or,ne_eq,Decidable.not_not]at a;have v:Up w' k=Up w k:=f.cG k m4 (λg=>s k g a.2);simp_all[Do]
theorem Jc.sl{i:Int}(h:Hp c w L)(j:Nat)(g:i3 L j=some (so e E a cap xs))(d:0<=i∧i<xs.length)
 (k:∀b o,a=some ⟨b,o,none⟩->K (.pointer (some ⟨b,o+i.toNat*E.sz,none⟩))):Jc a xs.length i E.sz K:=by
 have f:xs≠[]:=λe=>Zb1
 obtain⟨b,o,pre,post,l,_,_⟩:=h.El g f;refine⟨⟨b,o,none⟩,l,d.1,d.2,?_⟩;simp_all[i9]
theorem jd{i:Int}(h:Hp c w L)(j:Nat)(d:i3 L j=some (so e E a cap xs))(k:∀b o,a=some ⟨b,o,none⟩->K (.pointer (some ⟨b,o+i.toNat*E.sz,none⟩)))(f:0<=i∧i<xs.length:=by omega):Jc a xs.length i E.sz K:=Jc.sl h j d f k
theorem Pv(h:Hp c w L)(j:Nat)(m:i3 L j=some (so e E a cap xs))(p:a=some ⟨b,o,none⟩){x:α}{v:Value}(g:i3 xs n=some x)(i:i3 (E.f x) k=some v):
 w.cell? ⟨b,o+n*E.sz+k,none⟩=some v:=by
 have l:xs≠[]:=λe=>by rw[e]at g;cases n<;>cases g
 obtain⟨y,o',pre,post,d,s,t⟩:=h.El m l;rw[p]at d;injection d with d
 injection d with r q;subst r q;have u:=E.nj xs n k x v g i;grind[VE.cell,Z0]
theorem Oa.sl{x:α}(h:Hp c w L)(j:Nat)(l:i3 L j=some (so e E a cap xs))(m:a=some ⟨b,o,none⟩)(d:i3 xs n=some x)(k:K (.agg (E.f x).toArray)):
 Oa (λw'=>w'=w) ⟨b,o+n*E.sz,none⟩ E.sz K:=by
 refine⟨E.f x,E.len x,λw' e i v g=>?_,k⟩
 subst e
 rw[i9]
 exact Pv h j l m d g
theorem LD.sl{x:α}{v:Value}(h:Hp c w L)(j:Nat)(l:i3 L j=some (so e E a cap xs))(m:a=some ⟨b,o,none⟩)(d:i3 xs n=some x)(g:i3 (E.f x) k=some v)(i:K v):
 LD (λw'=>w'=w) ⟨b,o+n*E.sz+k,none⟩ K:=by
 refine⟨v,λw' e=>?_,i⟩;subst e;exact Pv h j l m d g
theorem LD.qf{x:α}{v:Value}(h:Hp c w L)(j:Nat)(l:i3 L j=some (so e E a cap xs))(m:a=some ⟨b,o,none⟩)(d:i3 xs n=some x)(g:i3 (E.f x) 0=some v)(i:K v):
 LD (λw'=>w'=w) ⟨b,o+n*E.sz,none⟩ K:=LD.sl (k:=0) h j l m d g i
theorem ST.sl{P:Program}{x y:α}{v:Value}{K:World->Prop}(h:Hp c w L)(j:Nat)(C:i3 L j=some (so e E a cap xs))(s:a=some ⟨b,o,none⟩)(i:i3 xs n=some x)
 (hs:v.cells.toList.length=size)(u:v.cells.toList.all (·.oneCell')=true)(r:Nat.ble (k+size) E.sz=true)(N:E.f y=m8 (E.f x) k v.cells.toList)(T:G7 L j (so e E a cap (xs.set n y))=some L')
 (M:∀w',Hp c w' L'->K w'):ST P w ⟨b,o+n*E.sz+k,none⟩ v size K:=by
 have r:=zv r;have Y:xs≠[]:=λe=>by rw[e]at i;cases n<;>cases i
 have anW:n<xs.length:=by rw[Z0]at i;exact(Cp.1 i).1
 obtain⟨b',o',pre,post,l,Q,t⟩:=h.El C Y;rw[s]at l;injection l with l
 injection l with X V;subst X V Q;have Z:n*E.sz+E.sz<=xs.length*E.sz:=by have:=xv E.sz (show n+1<=xs.length by omega);rw[iu,bu]at this;exact this
 have dA:=E.p8 xs;refine ST.Qm t hs u (FE Zb1) λw' q=>M w' ?_;rw[E.ET xs n x y i k _ m4 N pre post]at q;refine h.Tm C q.Q6 (λu S R=>?_) T;rcases S with⟨g,_,_⟩|⟨b2,A,D,g,J,q3,q4,H⟩
 ·simp_all
 ·rw[s]at g;injection g with g;injection g with G F;subst G;have z:u b=some _:=J;have d:=R b _ z;have q10:Up w b=some _:=t.t8;rw[q10]at d;injection d with d;injection d with d;have q11:pre++E.P3 xs++post=A++E.P3 xs++D:=by simpa using d
  have q12:pre=A∧post=D:=by rw[N',N']at q11;obtain⟨p,m⟩:=List.append_inj q11 F;exact⟨p,List.append_cancel_left m⟩
  obtain⟨p,m⟩:=q12;subst p m;refine⟨λk r=>Zb1,.inr ⟨b,pre,post,s,?_,Zb1,Zb1,H⟩⟩;show(if _ then _ else _)=_;rw[S1 (.inr (by rw[z];simp))];exact(q.Qm t.lt).t8
theorem ST.qf{P:Program}{x y:α}{v:Value}{K:World->Prop}(h:Hp c w L)(j:Nat)(l:i3 L j=some (so e E a cap xs))(m:a=some ⟨b,o,none⟩)(i:i3 xs n=some x)
 (hs:v.cells.toList.length=size)(q:v.cells.toList.all (·.oneCell')=true)(r:Nat.ble size E.sz=true)(g:E.f y=m8 (E.f x) 0 v.cells.toList)(p:G7 L j (so e E a cap (xs.set n y))=some L')
 (d:∀w',Hp c w' L'->K w'):ST P w ⟨b,o+n*E.sz,none⟩ v size K:=
 ST.sl (k:=0) h j l m i hs q Zb6 g p d
end
theorem Ca.of{P:Program}(a:N8 P T X){d:TypeDesc}{i:TypeInfo}(c:T t=some ⟨.slice e,j⟩)(f:T e=some ⟨d,i⟩)(b:i.zero=some z)(hs:i.size=sz)(h:i.bytes=w9)(g:z.cells.size=sz):Ca P t e sz w9 z:=
 ⟨a.desc t _ c,⟨i,a.Xf e _ f,b,hs,h⟩,g⟩
section
variable{E:Qb α}{a:Option Addr}{cap:Nat}{xs:List α}{L L':List HP}
theorem so_os{c:Sub}(j:so e E a cap xs c)(g:le c (Up w)):∃d,Os w e E.sz (.slice a xs.length cap) xs.length (E.P3 xs) d∧(∀b,d=some b->c b≠none):=by
 rcases j with⟨rfl,rfl,rfl⟩|⟨b,pre,post,rfl,o,n,m,l⟩
 ·exact⟨none,.nil,λb i=>by cases i⟩
 ·have f:c b=some _:=o;exact⟨some b,.row ⟨g b _ f⟩ O (E.p8 xs) n m l,λk p=>Zb7⟩
theorem xZ{w1 a:World}{i h:TypeId}{c b:Nat}{v:Value}{e d:Nat}{l1 l2:List Value}{f1 f2:Option Nat}(g:Os w1 i c v e l1 f1)(f:Os a h b v d l2 f2):f1=f2:=by cases g<;>cases f<;>rfl
theorem wZ{v:Value}{f:Option Nat}(d:Os w e E.sz v n (E.P3 xs) f)(i:n=xs.length):∃a cap,v= .slice a n cap∧∀c:Sub,(∀b,f=some b->c b=Up w b)->so e E a cap xs c:=by
 generalize p:E.P3 xs=s at d;cases d with
 |nil=>exact⟨none,0,rfl,λc _=> .inl ⟨rfl,rfl,Dp i.symm⟩⟩
 | @row b o n cap pre l post m g r hn' q j=>subst g p;refine⟨_,_,rfl,λc k=> .inr ⟨b,pre,post,rfl,?_,m4,Zb7,j⟩⟩;show c b=_;rw[k b O];exact m.t8
theorem Hp.so_os(h:Hp c w L)(j:Nat)(b:i3 L j=some (so e E a cap xs)):∃d,Os w e E.sz (.slice a xs.length cap) xs.length (E.P3 xs) d:=by obtain⟨k,g,f⟩:=Bb (i:=j+1) h.A0 b<;>grind[Go.Proofs.YtaaihojmcfaejaaGreatDoor.so_os]
theorem Hp.Ew(h:Hp c w L)(j:Nat)(b:i3 L j=some (so e E a cap xs)):Sl w E.sz (.slice a xs.length cap) xs.length (E.P3 xs):=by obtain⟨f,d⟩:=h.so_os j b;exact d.sl
theorem Hp.aah(h:Hp c w L)(j:Nat)(f:i3 L j=some (bk b l e))(d:l.length=n*sz):Sl w sz (.slice (some ⟨b,0,none⟩) n n) n l:=
 .row d λi v a=>by rw[rz];exact(h.Qm f).cell a
theorem A4.Pk{P:Program}{ty:TypeId}{g:Option (Nat×Bool)}{x y:Operand}{K:Value->World->Prop}{v:Value}{ys:List α}{L':Option Addr->Nat->List HP}
 (T:Ca P t e E.sz w9 z)(h:Hp c w L)(j:Nat)(m:i3 L j=some (so e E a cap xs))(r:ρ x= .slice a xs.length cap)(p:ρ y=v)(q:Sl w E.sz v ys.length (E.P3 ys))
 (o:(xs.length+ys.length)<=1099511627776∧(xs.length+ys.length)*w9<=140737488355328)(D:∀d f,G7 L j (so e E d f (xs++ys))=some (L' d f))
 (k:∀d f w',Hp c w' (L' d f)->K (.slice d (xs++ys).length f) w'):
 A4 P ⟨dst,.call ⟨.builtin .append,#[x,y],#[t,t]⟩,ty,db,af,g⟩ ρ w K PQ:=by
 obtain⟨N,C,s⟩:=Bb (i:=j+1) h.A0 m;obtain⟨G,n,_⟩:=Go.Proofs.YtaaihojmcfaejaaGreatDoor.so_os C s;refine A4.jI T r p n q (E.Ji ys) o λJ w' Q hO' u M=>?_;rw[<-E.Z9]at hO';have l:xs.length+ys.length=(xs++ys).length:=Zb3
 obtain⟨d,f,rfl,hso⟩:=wZ hO' l;rw[l];refine k d f w' (h.Tm m u (λF hP2 H=>?_) (D d f));obtain⟨fb2,hO2,aeq⟩:=Go.Proofs.YtaaihojmcfaejaaGreatDoor.so_os hP2 H;have hfb:∀b,G=some b->F b≠none:=by intro b A;refine aeq b ?_;rw[<-A];exact xZ hO2 n
 grind
theorem A4.Yb{P:Program}{ty:TypeId}{g:Option (Nat×Bool)}{x y:Operand}{K:Value->World->Prop}{u:α}{L':Option Addr->Nat->List HP}
 (T:Ca P t e E.sz w9 z)(h:Hp c w L)(j:Nat)(A:i3 L j=some (so e E a cap xs))(v:ρ x= .slice a xs.length cap)(i:Nat)(C:i3 L i=some (bk b l e))(r:ρ y= .slice (some ⟨b,0,none⟩) 1 1)(o:l=E.f u)
 (q:(xs.length+1)<=1099511627776∧(xs.length+1)*w9<=140737488355328)(D:∀d m,G7 L j (so e E d m (xs++[u]))=some (L' d m))
 (k:∀d m w',Hp c w' (L' d m)->K (.slice d (xs++[u]).length m) w'):
 A4 P ⟨dst,.call ⟨.builtin .append,#[x,y],#[t,t]⟩,ty,db,af,g⟩ ρ w K PQ:=by
 have s:l.length=1*E.sz:=by rw[o,E.len,bu]
 have p:=h.aah (n:=1) i C s;have F:E.P3 [u]=l:=by rw[o,E.Dc,E.Fr,Jb]
 rw[<-F]at p;exact A4.Pk (ys:=[u]) T h j A v r p q D k
def fF(v:Option Value)(d:Nat):Option Int:=match v with
 |none=>some d
 |some (.int _ i)=>some i
 |some _=>none
theorem RD.cut{P:Program}(g:N8 P T X){l m:Nat}{b c:Option Value}(u:T t=some ⟨.slice e,j⟩)(hs:Rb T e=some sz)
 (z:fF b 0=some (l:Int))(x:fF c n=some (m:Int))(F:l<=m∧m<=cap∧n<=cap)(k:K (.slice (if cap=l then a else a.map (·.add (l*sz))) (m-l) (cap-l))):RD P C (Instr.sliceAt t (.slice a n cap) b c none) K:=by
 refine⟨_,λw _=>?_,k⟩;have p:∀(v:Option Value)(d q y:Nat)(code:BoundsCode),fF v d=some (q:Int)->q<=y->(match v with|some v=>Instr.sliceBound v y code|none=>pure d).run P w= .ok q w:=by
  intro v d q y code f E;cases v with
  |none=>
   unfold fF at f;injection f with f;have:d=q:=m4
   simp[*]
  |some v=>
   cases v with
   |int D i=>simp_all[fF,run_sliceBound]
   |_=>cases f
 have o:=p c n m cap .sliceAcap x m4;have G:=p b 0 l m .sliceB z m4;have A:(Instr.sliceBounds true n cap b c none).run P w= .ok (l,m,cap) w:=by
  unfold Instr.sliceBounds;cases c with
  |none=>
   simp only[Sem.run_pure,Result.ok.injEq,and_true]at o;cases b with
   |none=>simp_all
   |some v=>simp[*]
  |some v=>
   simp only at o;cases b with
   |none=>simp_all
   |some v=>simp[*]
 have s:=J' g u w;have r:=Pa g hs w;simp[Instr.sliceAt,Instr.slice,s,A,r]
theorem RD.ll{P:Program}(a:N8 P T X)(c:T t=some ⟨.array n e,j⟩)(hs:Rb T e=some sz)
 (k:K (.slice (some ⟨b,o,none⟩) n n)):RD P C (Instr.sliceAt t (.pointer (some ⟨b,o,none⟩)) none none none) K:=by
 refine⟨_,λw _=>?_,k⟩;have f:=J' a c w;have d:=Pa a hs w;simp_all[i9,Instr.sliceAt,Instr.sureAddr,Instr.sliceBounds]
end
theorem fD{α:Type}:∀{L:List α}{i:Nat}{x:α},i3 L i=some x->∀y,G7 L i y=some (ep L i y)
 |[],i,x,h,_=>by cases i<;>cases h
 |z::l,0,x,h,y=>rfl
 |z::l,i+1,x,h,y=>by unfold G7 ep;rw[fD (L:=l) h y]
section
variable[DecidableEq κ]
def K0:List (κ×β)->κ->Option β
 |[],_=>none
 |x::r,k=>if k=x.1 then some x.2 else K0 r k
def R1:List (κ×β)->κ->β->List (κ×β)
 |[],k,v=>[(k,v)]
 |x::r,k,v=>if k=x.1 then(x.1,v)::r else x::R1 r k v
def U7:List (κ×β)->κ->List (κ×β)
 |[],_=>[]
 |x::r,k=>if k=x.1 then r else x::U7 r k
end
def mo(K:κ->Value)(V:β->Value)(b:Nat)(xs:List (κ×β)):HP:=λh=>
 ∃(M:List (Nj κ))(a:Nat),CL M a∧M.map (λx=>(x.1,x.2.1))=xs.map (λx=>(x.1,V x.2))∧h b=some (.map (M.map (Nc K)).toArray a)
section
variable[DecidableEq κ]{K:κ->Value}{V:β->Value}
theorem Yv:∀{M:List (Nj κ)}{xs:List (κ×β)}(k:κ),M.map (λx=>(x.1,x.2.1))=xs.map (λx=>(x.1,V x.2))->Ce M k=(K0 xs k).map V
 |[],[],k,_=>rfl
 |[],_::_,k,h=>by cases h
 |_::_,[],k,h=>by cases h
 |m::M,x::xs,k,h=>by
  simp only[List.map_cons,List.cons.injEq,Prod.mk.injEq]at h;obtain⟨⟨c,d⟩,b⟩:=h;unfold Ce K0;rw[c];by_cases a:k=x.1
  ·simp[*]
  ·rw[V0 a,V0 a];exact Yv k b
theorem Xv(c:Nat):∀{M:List (Nj κ)}{xs:List (κ×β)}(k:κ)(v:β),M.map (λx=>(x.1,x.2.1))=xs.map (λx=>(x.1,V x.2))->(Eb M k (V v) c).map (λx=>(x.1,x.2.1))=(R1 xs k v).map (λx=>(x.1,V x.2))
 |[],[],k,v,_=>rfl
 |[],_::_,k,v,h=>by cases h
 |_::_,[],k,v,h=>by cases h
 |m::M,x::xs,k,v,h=>by
  simp only[List.map_cons,List.cons.injEq,Prod.mk.injEq]at h;obtain⟨⟨b,e⟩,d⟩:=h;unfold Eb R1;rw[b];by_cases a:k=x.1
  ·simp[*]
  ·rw[V0 a,V0 a];simp only[List.map_cons,b,e];rw[Xv c k v d]
theorem GM:∀{M:List (Nj κ)}{xs:List (κ×β)}(k:κ),M.map (λx=>(x.1,x.2.1))=xs.map (λx=>(x.1,V x.2))->(qk M k).map (λx=>(x.1,x.2.1))=(U7 xs k).map (λx=>(x.1,V x.2))
 |[],[],k,_=>rfl
 |[],_::_,k,h=>by cases h
 |_::_,[],k,h=>by cases h
 |m::M,x::xs,k,h=>by
  simp only[List.map_cons,List.cons.injEq,Prod.mk.injEq]at h;obtain⟨⟨b,d⟩,c⟩:=h;unfold qk U7;rw[b];by_cases a:k=x.1
  ·simp[*]
  ·rw[V0 a,V0 a];simp only[List.map_cons,b,d];rw[GM k c]
omit [DecidableEq κ]in
theorem AW{M:List (Nj κ)}(h:M.map (λx=>(x.1,x.2.1))=xs.map (λx=>(x.1,V x.2))):M.map (·.1)=xs.map (·.1):=by have:=V4 (List.map Prod.fst) h;rw[Ph,Ph]at this;exact this
section
variable{P:Program}{L L':List HP}
omit [DecidableEq κ]in
theorem Hp.Ou(h:Hp c w L)(j:Nat)(g:i3 L j=some (mo K V b xs)):∃M a,MR K w b M a∧M.map (λx=>(x.1,x.2.1))=xs.map (λx=>(x.1,V x.2)):=by obtain⟨l,⟨M,a,d,e,k⟩,f⟩:=Bb (i:=j+1) h.A0 g;exact⟨M,a,⟨d,⟨f b _ k⟩⟩,e⟩
omit [DecidableEq κ]in
theorem Hp.gr(h:Hp c w L)(j:Nat)(d:i3 L j=some (mo K V b xs)):(xs.map (·.1)).Nodup:=by obtain⟨M,f,a,e⟩:=h.Ou j d;rw[<-AW e];exact a.wf.U1
omit [DecidableEq κ]in
theorem Hp.UJ(h:Hp c w L)(j:Nat)(f:i3 L j=some (mo K V b xs)){M:List (Nj κ)}{e:Nat}{ys:List (κ×β)}(a:MR K w' b M e)(d:ua (λx=>x=b) w w')(g:M.map (λx=>(x.1,x.2.1))=ys.map (λx=>(x.1,V x.2)))
 (m:G7 L j (mo K V b ys)=some L'):Hp c w' L':=by
 refine h.Tm f d (λo l n=>?_) m;obtain⟨p,ck0,_,_,i⟩:=l;refine⟨λk d=>Zb1,M,e,a.wf,g,?_⟩;show(if _ then _ else _)=_;rw[S1 (.inr (by rw[i];simp))];exact a.ob.t8
theorem RD.get{Q:Value->Prop}(T:V9 P mt kt et z K)(h:Hp c w L)(j:Nat)(d:i3 L j=some (mo K V b xs))(k:κ)
 (e:Q (if ok then .tuple #[((K0 xs k).map V).getD z,.bool (K0 xs k).isSome]else((K0 xs k).map V).getD z)):RD P (λw'=>w'=w) (Instr.lookup mt (.map (some b)) (K k) ok) Q:=by
 obtain⟨M,g,a,f⟩:=h.Ou j d;refine RD.look T a k ?_;grind[Yv]
section
variable{ty:TypeId}{g:Option (Nat×Bool)}{Q:Value->World->Prop}{m x y:Operand}
theorem A4.Eb(T:V9 P mt kt et z K)(h:Hp c w L)(j:Nat)(a:i3 L j=some (mo K V b xs))(k:κ)(v:β)(l:ρ m= .map (some b))(f:ρ x=K k)(e:ρ y=V v)(o:G7 L j (mo K V b (R1 xs k v))=some L')
 (d:∀w',Hp c w' L'->Q undef w'):A4 P ⟨dst,.mapUpdate mt m x y,ty,db,af,g⟩ ρ w Q PQ:=by
 obtain⟨M,r,i,n⟩:=h.Ou j a;exact A4.set T i l f e λw' q p=>d w' (h.UJ j a q p (Xv r k v n) o)
theorem A4.qk(T:V9 P mt kt et z K)(h:Hp c w L)(j:Nat)(a:i3 L j=some (mo K V b xs))(k:κ)(i:ρ m= .map (some b))(e:ρ x=K k)(n:G7 L j (mo K V b (U7 xs k))=some L')
 (d:∀w',Hp c w' L'->Q (.tuple #[]) w'):A4 P ⟨dst,.call ⟨.builtin .delete,#[m,x],#[mt,kt]⟩,ty,db,af,g⟩ ρ w Q PQ:=by
 obtain⟨M,q,f,l⟩:=h.Ou j a;exact A4.del T f i e λw' p o=>d w' (h.UJ j a p o (GM k l) n)
omit [DecidableEq κ]in
theorem RD.DG{Q:Value->Prop}(a:P.underlying mt=some (.map kt et))(h:Hp c w L)(j:Nat)(e:i3 L j=some (mo K V b xs))(g:Q (.int .i64 xs.length)):RD P (λw'=>w'=w) (Builtin.len_ #[mt] ty #[.map (some b)]) Q:=by
 obtain⟨M,i,d,f⟩:=h.Ou j e;refine RD.alG a d ?_;have:M.length=xs.length:=by simpa using V4 List.length f
 simp[*]
omit [DecidableEq κ]in
theorem A4.adH(e:P.underlying mt=some (.map kt et))(h:Hp c w L)(j:Nat)(a:i3 L j=some (mo K V b xs))(i:ρ m= .map (some b))(k:G7 L j (mo K V b ([]:List (κ×β)))=some L')
 (d:∀w',Hp c w' L'->Q (.tuple #[]) w'):A4 P ⟨dst,.call ⟨.builtin .clear,#[m],#[mt]⟩,ty,db,af,g⟩ ρ w Q PQ:=by
 obtain⟨M,p,f,o⟩:=h.Ou j a;exact A4.JV e f i λw' n l=>d w' (h.UJ j a n l (by rfl) k)
omit [DecidableEq κ]in
theorem A4.Xp(K:κ->Value)(V:β->Value)(h:Hp c w L)(a:∀b w',Hp c w' (mo K V b ([]:List (κ×β))::L)->Q (.map (some b)) w'):A4 P ⟨dst,.makeMap mt none,ty,db,af,g⟩ ρ w Q PQ:=by refine A4.val (v:= .map (some w.heap.size)) (w':=w.alloc (.map #[] 0)) (by simp[execOp,Instr.makeMap]) (a w.heap.size _ ?_);exact(h.alloc (.map #[] 0)).imp λm d=>⟨[],0,CL.nil _,rfl,d⟩
end
def mi(K:κ->Value)(V:β->Value)(b c:Nat)(xs left:List (κ×β)):HP:=λh=>
 ∃(M seen:List (Nj κ))(a:Nat),CL M a∧M.map (λx=>(x.1,x.2.1))=xs.map (λx=>(x.1,V x.2))∧b≠c∧h b=some (.map (M.map (Nc K)).toArray a)∧h c=some (.mapIter (some b) a (seen.map (·.2.2)).toArray a)∧
  (M.filter λx=>!(seen.map (·.2.2)).contains x.2.2).map (λx=>(x.1,x.2.1))=left.map (λx=>(x.1,V x.2))
section
variable{ty:TypeId}{g:Option (Nat×Bool)}{Q:Value->World->Prop}{m x y:Operand}
omit [DecidableEq κ]in
theorem A4.AD(l:P.underlying mt=some (.map kt et))(h:Hp c w (mo K V b xs::L))(n:ρ m= .map (some b))
 (k:∀f w',Hp c w' (mi K V b f xs xs::L)->Q (.pointer (some ⟨f,0,none⟩)) w'):A4 P ⟨dst,.range mt m,ty,db,af,g⟩ ρ w Q PQ:=by
 obtain⟨M,a,d,p⟩:=h.Ou 0 rfl;have o:=S9 (P:=P) d.ob Zb8;refine A4.val (w':=w.alloc (.mapIter (some b) a #[] a)) (by simp[execOp,Instr.range,run_underlying l,n,o]) (k w.heap.size _ ?_);have j:ua zI w (w.alloc (.mapIter (some b) a #[] a)):=ua.refl.alloc _;have s:=d.lt;refine h.Tm (i:=0) O j (λu r t=>⟨λ_ e=>e.elim,?_⟩) O;obtain⟨_,_,_,_,q⟩:=r;refine⟨M,[],a,d.wf,p,m4,?_,?_,?_⟩
 ·show(if _ then _ else _)=_;rw[S1 (.inr (by rw[q];simp))];exact(d.Q6 j (λe=>e)).ob.t8
 ·show(if _ then _ else _)=_;rw[S1 (.inl (V7 _))];exact Po _ _
 ·have:M.filter (λx=>!(([]:List (Nj κ)).map (·.2.2)).contains x.2.2)=M:=by rw[zz];intro x _;rfl
  grind
omit [DecidableEq κ]in
end
end
end
theorem xN{P:Prop}(h:P:=by refine⟨Ya O ?_,h⟩;simp[yx, *]):P:=h
theorem o8:prog.follows .mixedOrders=true:=Zb2
abbrev Zb(c:World)(v:Value)(L:List HP):Ending->World->Prop:=λe w=>e= .returned v∧Hp c w L
def fQ:List Nat->Ov
 |[]=> .done
 |i::l=>match Nat.blt i 50 with
  |true=> .q i (fQ l)
  |false=>match Nat.blt i 100 with
   |true=> .w1 (i-50) (fQ l)
   |false=> .v1 (i-100) (fQ l)
abbrev Cs(f:FuncId)(a:Array Value)(w:World)(R:Ending->World->Prop):Prop:=Calls prog f a w R
abbrev Cr(f:FuncId)(a:Array Value)(w c:World)(v:Value)(L:List HP):Prop:=Calls prog f a w (Zb c v L)
section
variable{L:List HP}{f:Nat}{args:Array Value}{K:Value->World->Prop}{o:Oper}
theorem R2{fn:Func}{q:Code}{args:List Value}{R:Ending->World->Prop}(b:prog.funcs[f]?=some fn)(c:fn.body=some q)(h:vc prog ty Ck fn.ntmps q (lA args) w (jN ty fn.results.toList R))(a:Nat.ble args.length fn.ntmps=true:=by rfl):Calls prog f args.toArray w R:=Rn kn b c a h
theorem xb{R:Ending->World->Prop}(h:Calls prog f args w R)(a:∀e w',R e w'->match e with
 | .returned v=>K v w'
 | .panicked ch=>PQ ch w'
 | .outgrown=>False)(b:Ck f=true:=by rfl):od prog f args w K PQ Ck o ρ:=od.by b h a
theorem N1{v:Value}(h:Calls prog f args w (Zb c v L))(k:∀w,Hp c w L->K v w)(a:Ck f=true:=by rfl):od prog f args w K PQ Ck o ρ:=od.by a h Zb7
theorem He{V:α->Value}{L:α->List HP}(h:Calls prog f args w (λe w'=>∃a,e= .returned (V a)∧Hp c w' (L a)))(k:∀a w,Hp c w (L a)->K (V a) w)(b:Ck f=true:=by rfl):od prog f args w K PQ Ck o ρ:=od.by b h Zb7
theorem ga{V:α->β->Value}{L:α->β->List HP}(h:Calls prog f args w (λe w'=>∃a b,e= .returned (V a b)∧Hp c w' (L a b)))(k:∀a b w,Hp c w (L a b)->K (V a b) w)(d:Ck f=true:=by rfl):od prog f args w K PQ Ck o ρ:=od.by d h Zb7
variable{id:Nat}{e:td}{Q:Hh}{S6:Array Oper}
theorem Bs(h:Hp c w L)(p:Ov)(k:Hp c w.drew L->vD prog ty Ck n (λw'=>Hp c w' L) S6.toList (λe w=>Q .normal e w) (pq Q) p d0 e w.drew)(a:Xw S6 p=true:=by kernel_rfl):ja prog n id S6 e w Q:=ja.D0 kn o8 (λw'=>Hp c w' L) p a h.drew (k h.drew)
theorem Y6(h:Hp c w L)(p:List Nat)(k:Hp c w.drew L->vD prog ty Ck n (λw'=>Hp c w' L) S6.toList (λe w=>Q .normal e w) (pq Q) (fQ p) d0 e w.drew)(a:Xw S6 (fQ p)=true:=by kernel_rfl):ja prog n id S6 e w Q:=ja.D0 kn o8 (λw'=>Hp c w' L) (fQ p) a h.drew (k h.drew)
theorem amO{L':List HP}(h:Hp c w L)(j:Nat)(is:List Nat)(b:gq L j is=some L')(p:Ov)(k:Hp c w.drew L->vD prog ty Ck n (λw'=>Hp c w' L') S6.toList (λe w=>Q .normal e w) (pq Q) p d0 e w.drew)(a:Xw S6 p=true:=by kernel_rfl):ja prog n id S6 e w Q:=ja.D0 kn o8 (λw'=>Hp c w' L') p a (h.drew.q j is b) (k h.drew)
theorem NX{L':List HP}(h:Hp c w L)(j:Nat)(is:List Nat)(b:gq L j is=some L')(p:List Nat)(k:Hp c w.drew L->vD prog ty Ck n (λw'=>Hp c w' L') S6.toList (λe w=>Q .normal e w) (pq Q) (fQ p) d0 e w.drew)(a:Xw S6 (fQ p)=true:=by kernel_rfl):ja prog n id S6 e w Q:=ja.D0 kn o8 (λw'=>Hp c w' L') (fQ p) a (h.drew.q j is b) (k h.drew)
theorem sv(p:List Nat)(k:vD prog ty Ck n (λw'=>w'=w.drew) S6.toList (λe w=>Q .normal e w) (pq Q) (fQ p) d0 e w.drew)(a:Xw S6 (fQ p)=true:=by kernel_rfl):ja prog n id S6 e w Q:=ja.D0 kn o8 (λw'=>w'=w.drew) (fQ p) a O k
end
section
variable{R:List HP}
abbrev Fp(p wd d:Int):Value:= .agg #[I p,I wd,I d]
structure F8(p wd d:Int):Prop where
 A0:1<=p∧p<=6
 F0:1<=wd∧wd<=100
 L0:wd<d∧d<=200
theorem qZ(h:Hp c w R)(a:F8 p wd d):Calls prog 114 #[I p,I wd,I d] w (Zb c (.tuple #[Fp p wd d,I 0]) R):=by obtain⟨⟨j,i⟩,⟨g,f⟩,e,b⟩:=a;exact R2 func114 O (I2 h O λb1 w h=>Te (Te (Te (Te (Te (Te (J3 h 0 O O O λw h=>O4 h 0 O O ⟨rfl,h.q 1 [] O⟩)))))))
theorem afq(h:Hp c w R)(a:0<=p∧p<=6):Calls prog 71 #[Fp p wd d] w (Zb c (I (p+1)) R):=by exact R2 func71 O (I2 h O λb1 w h=>U0 h 0 O O (i5 ⟨rfl,h.q 1 [] O⟩))
def ce(p t:Int):Int:=max t 0%(p+1)
theorem HF{t:Int}(h:Hp c w R)(a:0<=p∧p<=6):Cr 36 #[Fp p wd d,I t] w c (I (ce p t)) R:=by refine R2 func36 O (I2 h O λb1 w h=>O4 h 0 O O (N1 (afq h Zb9) λw h=>DIV.mk ⟨m4,⟨So ?_,h.q 1 [] O⟩⟩));show I _=I _;grind[ce]
def po(p b r:Int):Int:=min (max b 0) 1099511627776+r*(p+1)
theorem afm{b r:Int}(h:Hp c w R)(e:0<=p∧p<=6)(a:0<=r∧r<=1000):Cr 89 #[Fp p wd d,I b,I r] w c (I (po p b r)) R:=by have f:0<=r*(p+1)∧r*(p+1)<=7000:=⟨Int.mul_nonneg m4 m4,by have:r*(p+1)<=1000*7:=TK a.2 m4 m4 m4;omega⟩;refine R2 func89 O (I2 h O λb1 w h=>O4 h 0 O O (N1 (afq h Zb9) λw h=>i5 (i5 ⟨So ?_,h.q 1 [] O⟩)));show I _=I _;grind[po]
theorem XY{b:Int}(h:Hp c w R)(e:0<=p∧p<=6)(a:0<=wd∧wd<=1000):Cr 227 #[Fp p wd d,I b] w c (I (po p b wd)) R:=by exact R2 func227 O (I2 h O λb1 w h=>O4 h 0 O O (U0 h 0 O O (N1 (afm h Zb9 Zb9) λw h=>⟨rfl,h.q 1 [] O⟩)))
theorem acU{b:Int}(h:Hp c w R)(e:0<=p∧p<=6)(a:0<=d∧d<=1000):Cr 58 #[Fp p wd d,I b] w c (I (po p b d)) R:=by exact R2 func58 O (I2 h O λb1 w h=>O4 h 0 O O (U0 h 0 O O (N1 (afm h Zb9 Zb9) λw h=>⟨rfl,h.q 1 [] O⟩)))
def U'(n:Int):Bool:=decide (0<=n)&&decide (n<64)
theorem afn{n:Int}(h:Hp c w R):Cr 86 #[I n] w c (.bool (U' n)) R:=by
 refine R2 func86 O (BR.T5 (λa=>?_) λa=>?_)
 ·exact⟨So (by unfold U';rw[Si (show(0:Int)<=n from a)];rfl),h⟩
 ·exact⟨So (by unfold U';rw[Em (show¬(0:Int)<=n from a)];rfl),h⟩
def Qe(s:BitVec 64)(n:Int):Bool:=U' n&&s.getLsbD n.toNat
theorem kJ{s:BitVec 64}{n:Int}(h:Hp c w R):Cr 55 #[U s,I n] w c (.bool (Qe s n)) R:=by
 refine R2 func55 O (N1 (afn h) λw h=>BR.O' (λa=>?_) λa=>?_)
 ·have b:0<=n∧n<64:=by unfold U' at a;simpa using a
  refine KN.mk ⟨b.1,⟨So (V4 Value.bool ?_),h⟩⟩;unfold Qe;rw[a,Bool.true_and];exact aeF s n.toNat m4
 ·exact⟨So (V4 Value.bool (by grind[Qe])),h⟩
theorem TY{a b:BitVec 64}(h:Hp c w R):Cr 239 #[U a,U b] w c (U (a&&& ~~~b)) R:=by exact R2 func239 O ⟨So (V4 (Value.int .u64) (fC a b)),h⟩
theorem ahr{a b:BitVec 64}(h:Hp c w R):Cr 182 #[U a,U b] w c (.bool (decide (a&&& ~~~b=0#64))) R:=by refine R2 func182 O ⟨So (V4 Value.bool ?_),h⟩;rw[<-LV,<-fC];rfl
abbrev Lab(s t:BitVec 64):Value:= .agg #[U s,U t]
def need(s t b a:BitVec 64):BitVec 64:=(s&&& ~~~b)|||(a&&& ~~~t)
theorem ahq{s t b a:BitVec 64}(h:Hp c w R):Cr 183 #[Lab s t,Lab b a] w c (U (need s t b a)) R:=by
 refine R2 func183 O (I2 h O λb1 w h=>I2 h O λb2 w h=>Y6 h [0,2,5,7,1,3,6,8,54,59,10,11] λh=>U3 1 O O (U3 0 O O (U3 0 O O (U3 1 O O (N1 (TY h) λw h=>⟨h,N1 (TY h) λw h=>⟨h,?_⟩⟩)))))
 exact⟨So (V4 (Value.int .u64) (or_of _ _)),h.q 2 [] O⟩
def flows(s t b a o:BitVec 64):Bool:=decide (need s t b a&&& ~~~o=0#64)
structure P9 where
 W0:Int
 E0:Int
 tx:Int
 H8:Int
deriving DecidableEq
def P9.f(m:P9):List Value:=[I m.W0,I m.E0,I m.tx,I m.H8]
abbrev P9.v(m:P9):Value:= .agg #[I m.W0,I m.E0,I m.tx,I m.H8]
def j8:Qb P9:=⟨P9.f,4,λ_=>rfl,λ_=>rfl⟩
def yx(k:Int):Int:=if k=1 then 2 else if k=4 then 1 else if k=2∨k=3∨k=5 then 0 else -1
theorem agJ{k:Int}(h:Hp c w R):Cr 288 #[I k] w c (I (yx k)) R:=by
 refine R2 func288 O (BR.eq (λf=>?_) λf=>?_)
 ·exact xN
 ·refine BR.eq (λe=>?_) λe=>?_
  ·exact xN
  ·refine BR.eq (λd=>?_) λd=>?_
   ·refine mf ⟨Ya O ?_,h⟩;simp[yx, *]
   ·refine BR.eq (λb=>?_) λb=>?_
    ·refine mf ⟨Ya O ?_,h⟩;simp[yx, *]
    ·refine BR.eq (λa=>?_) λa=>?_
     ·exact xN
     ·exact xN
def P9.right(m:P9):Bool:=decide (m.E0>=0)&&decide (m.E0<6)&&decide (m.tx>=1)&&decide (m.tx<=1048576)&&decide (m.H8>=0)&&decide (m.H8<=yx m.W0)
def P9.up(m:P9):Bool:=decide (m.W0>=1)&&decide (m.W0<=3)
theorem sR{m:P9}(h:Hp c w R):Cr 290 #[m.v] w c (.bool m.up) R:=by
 refine R2 func290 O (I2 h O λb1 w h=>U0 h 0 O O (BR.T5 (λa=>?_) λa=>?_))
 ·refine U0 h 0 O O ⟨A8 O ?_,h.q 1 [] O⟩;simp[P9.up, *]
 ·refine⟨A8 O ?_,h.q 1 [] O⟩;simp[P9.up, *]
end
theorem Sm.int{P:Program}(a:P.underlying kt=some (.int .i64)):Sm P kt I:=
 .adz a (λb k _=>MapKept.run_checkKey (k:=I k) a O b 9999) (λk c=>by grind[Instr.sameNow]) (λk _=>MapKept.run_keyThatStays (d:= .int .i64) (k:=I k) O)
section
variable[DecidableEq κ]{K:κ->Value}{V:β->Value}{P:Program}{L:List HP}
theorem RD.lH{Q:Value->Prop}(T:V9 P mt kt et z K)(h:Hp c w L)(j:Nat)(a:i3 L j=some (mo K V b xs))(k:κ){v:β}(d:K0 xs k=some v)(e:Q (if ok then .tuple #[V v,.bool true]else V v)):
 RD P (λw'=>w'=w) (Instr.lookup mt (.map (some b)) (K k) ok) Q:=RD.get T h j a k Zb1
theorem RD.wK{Q:Value->Prop}(T:V9 P mt kt et z K)(h:Hp c w L)(j:Nat)(a:i3 L j=some (mo K V b xs))(k:κ)(d:K0 xs k=none)(e:Q (if ok then .tuple #[z,.bool false]else z)):
 RD P (λw'=>w'=w) (Instr.lookup mt (.map (some b)) (K k) ok) Q:=RD.get T h j a k Zb1
theorem RD.xK{Q:Value->Prop}(T:V9 P mt kt et z K)(h:Hp c w L)(j:Nat)(d:i3 L j=some (mo K V b xs))(k:κ)(h0:K0 xs k=none->Q (if ok then .tuple #[z,.bool false]else z))
 (e:∀v,K0 xs k=some v->Q (if ok then .tuple #[V v,.bool true]else V v)):RD P (λw'=>w'=w) (Instr.lookup mt (.map (some b)) (K k) ok) Q:=by
 cases a:K0 xs k with
 |none=>grind[RD.wK]
 |some v=>grind[RD.lH]
end
theorem u3:prog.underlying 3=some (.int .i64):=(kn.desc 3 _ O).trans O
theorem VX{i:TI}(b:ty t=some i)(a:i.Xf.zero=some z)(w:World):(zeroValue t).run prog w= .ok z w:=by simp[zeroValue,typeInfo,kn.Xf t _ b,a]
theorem Vi{i:TI}{d:TypeDesc}(a:ty t=some i)(b:i.desc=d):prog.underlying t=some d:=(kn.desc t _ a).trans (by rw[b])
theorem V9.int{i j:TI}(d:ty mt=some i)(c:i.desc= .map 3 et)(b:ty et=some j)(a:j.Xf.zero=some z):V9 prog mt 3 et z I:=
 ⟨Vi d c,Sm.int u3,VX b a⟩
def sg:List Bool->Bool
 |[]=>true
 |b::l=>b&&sg l
theorem az(a b:List Bool):sg (a++b)=(sg a&&sg b):=by
 induction a with
 |nil=>rfl
 |cons x a c=>simp[sg,c,Bool.and_assoc]
def iI:Option (List Bool)->Option (List Bool)->Option (List Bool)
 |some a,some b=>some (a++b)
 |_,_=>none
def eqF(s:TypeId->Option Nat)(f:TypeId->List Value->List Value->Option (List Bool))(xs ys:List Value):List Field->Option (List Bool)
 |[]=>some []
 |g::r=>match s g.type with
  |some n=>match cut xs g.offset n,cut ys g.offset n with
   |some a,some b=>iI (f g.type a b) (eqF s f xs ys r)
   |_,_=>none
  |none=>none
def eqI(n:Nat)(f:List Value->List Value->Option (List Bool))(xs ys:List Value):Nat->Nat->Option (List Bool)
 |_,0=>some []
 |i,k+1=>match cut xs (i*n) n,cut ys (i*n) n with
  |some a,some b=>iI (f a b) (eqI n f xs ys (i+1) k)
  |_,_=>none
def ZM(T:Wm):Nat->TypeId->List Value->List Value->Option (List Bool)
 |0,_,_,_=>none
 |d+1,t,xs,ys=>match T t with
  |some ⟨.int _,_⟩=>match xs,ys with
   |[.int k a],[.int c b]=>match Mw k c with
    |true=>some [a==b]
    |false=>none
   |_,_=>none
  |some ⟨.bool,_⟩=>match xs,ys with
   |[.bool a],[.bool b]=>some [a==b]
   |_,_=>none
  |some ⟨.struct f,_⟩=>eqF (Rb T) (ZM T d) xs ys f.toList
  |some ⟨.array n e,_⟩=>match Rb T e with
   |some s=>eqI s (ZM T d e) xs ys 0 n
   |none=>none
  |_=>none
def VR(T:Wm)(t:TypeId)(v:Value)(l:List Value):Prop:=match T t with
 |some i=>match Dh i.desc with
  |true=>v= .agg l.toArray
  |false=>l=[v]
 |none=>False
section
variable{P:Program}
theorem Sq(d:N8 P T X){s off:Nat}(hs:Rb T t=some s)(g:∀i,T t=some i->Dh i.desc=false->s=1){xs a:List Value}(f:cut xs off s=some a)(w:World):
 ∃v,(part t xs.toArray off).run P w= .ok v w∧VR T t v a:=by
 obtain⟨l,e⟩:=Mr xs s off a f;unfold Rb at hs;cases b:T t with
 |none=>simp_all
 |some i=>
  rw[b]at hs;injection hs with hs;unfold VR;rw[b];cases c:Dh i.desc with
  |true=>
   refine⟨_,Rq d b c _ off w,?_⟩;simp only[c];congr 1;apply Array.ext';simp only[List.extract_toArray];rw[hs];apply tv;intro k;by_cases m:k<s
   ·simp_all[Z0]
   grind
  |false=>
   have j:=g i b c;cases a with
   |nil=>simp_all
   |cons v a=>have:a=[]:=Dp Zb7;subst this;exact⟨v,Fl d b c _ off (by rw[List.toList_toArray];exact e 0 v O) w,by simp only[c]⟩
def EZ(T:Wm)(t:TypeId):Prop:=∀i s,T t=some i->Rb T t=some s->Dh i.desc=false->s=1
theorem oM(o:N8 P T X)(F:∀t,EZ T t):∀(d m:Nat)(t:TypeId)(xs ys:List Value)(x y:Value)(l:List Bool)(w:World),P.keyTypeAt d t=true->ZM T d t xs ys=some l->VR T t x xs->VR T t y ys->
 (Op.equalIn (m+d) t x y).run P w= .ok (sg l) w
 |0,_,_,_,_,_,_,_,_,h,_,_,_=>by simp[Program.keyTypeAt]at h
 |d+1,m,t,xs,ys,x,y,l,w,r,h,f,c=>by
  have IH:=oM o F d m;unfold ZM at h;unfold VR at f c;cases ht:T t with
  |none=>simp_all
  |some i=>
   rw[ht]at h f c;have G:=o.desc t i ht;unfold Program.keyTypeAt at r;rw[G]at r;obtain⟨desc,Xf⟩:=i;cases desc<;>simp only at h<;>first|cases h|skip
   case bool=>
    simp only[Dh]at f c;subst f c;split at h
    ·rename_i a b C A;injection h with h;injection C with C;injection A with A;subst h C A;simp_all[Op.equalIn,run_underlying,sg]
    ·cases h
   case int q=>
    simp only[Dh]at f c;subst f c;split at h
    ·rename_i k a k' b C A;split at h
     ·rename_i hs;injection h with h;injection C with C;injection A with A;have:=Cu hs;subst h C A this;rw[show m+(d+1)=(m+d)+1 from rfl,Op.equalIn];simp[run_underlying G,sg]
     ·cases h
    ·cases h
   case struct fs=>
    simp only[Dh]at f c;subst f c;simp only[Bool.and_eq_true,Bool.not_eq_true']at r;have RX:P.fieldsOf t=fs:=by simp[Program.fieldsOf,G]
    rw[show m+(d+1)=(m+d)+1 from rfl,run_equalIn_struct w (m+d) t _ _ Zb6 r.2,RX];have key:∀(z:List Field)(l:List Bool),(∀g∈z,g.name≠ "_"∧P.keyTypeAt d g.type=true)->eqF (Rb T) (ZM T d) xs ys z=some l->(Op.eqFields (m+d) xs.toArray ys.toArray z).run P w= .ok (sg l) w:=by
     intro z;induction z with
     |nil=>simp[eqF,Op.eqFields,sg]
     |cons g z H=>
      intro l Rd h;unfold eqF at h;cases hs:Rb T g.type with
      |none=>simp_all
      |some n=>
       rw[hs]at h;simp only at h;split at h
       ·rename_i a b Q N;cases E:ZM T d g.type a b with
        |none=>simp_all[iI]
        |some l1=>
         cases D:eqF (Rb T) (ZM T d) xs ys z with
         |none=>simp_all[iI]
         |some l2=>rw[E,D]at h;unfold iI at h;injection h with h;subst h;obtain⟨hn,hp⟩:=Rd g Zb3;obtain⟨u,hu1,V⟩:=Sq o hs (λi L p=>F g.type i n L hs p) Q w;obtain⟨v,Z,Y⟩:=Sq o hs (λi L p=>F g.type i n L hs p) N w;have S:=IH g.type a b u v l1 w hp E V Y;have R:=H l2 (λg M=>Rd g (by simp[M])) D;simp only[Op.eqFields,hn,ne_eq,not_false_eq_true,if_true,Sem.run_bind,hu1,Z,S,Result.andThen_ok,az];cases sg l1<;>simp[R]
       ·cases h
    refine key fs.toList l (λg M=>?_) h;have:=Array.all_eq_true_iff_forall_mem.1 r.1.1 g (Array.mem_toList_iff.1 M);simp_all
   case array n e=>
    simp only[Dh]at f c;subst f c;simp only at r;cases hs:Rb T e with
    |none=>simp_all
    |some s=>
     rw[hs]at h;simp only at h;have he:∃i,T e=some i:=by
      unfold Rb at hs;cases hte:T e with
      |none=>simp_all
      |some i=>simp
     obtain⟨J,hte⟩:=he;have Mh:J.Xf.size=s:=by unfold Rb at hs;rw[hte]at hs;injection hs
     have RM:P.cellsOf e=s:=by simp[Program.cellsOf,o.Xf e J hte,Mh]
     rw[show m+(d+1)=(m+d)+1 from rfl,run_equalIn_array w (m+d) _ _ G (o.Xf e J hte),RM];have key:∀(k i:Nat)(l:List Bool),eqI s (ZM T d e) xs ys i k=some l->(Op.eqItems (m+d) e s xs.toArray ys.toArray (List.range' i k)).run P w= .ok (sg l) w:=by
      intro k;induction k with
      |zero=>simp[eqI,Op.eqItems,sg]
      |succ k H=>
       intro i l h;unfold eqI at h;split at h
       ·rename_i a b Q N;cases E:ZM T d e a b with
        |none=>simp_all[iI]
        |some l1=>
         cases D:eqI s (ZM T d e) xs ys (i+1) k with
         |none=>simp_all[iI]
         |some l2=>rw[E,D]at h;unfold iI at h;injection h with h;subst h;obtain⟨u,hu1,V⟩:=Sq o hs (λj K p=>F e j s K hs p) Q w;obtain⟨v,Z,Y⟩:=Sq o hs (λj K p=>F e j s K hs p) N w;have S:=IH e a b u v l1 w r E V Y;have R:=H (i+1) l2 D;simp only[List.range'_succ,Op.eqItems,Sem.run_bind,hu1,Z,S,Result.andThen_ok,az];cases sg l1<;>simp[R]
       ·cases h
     simp_all[List.range_eq_range']
end
theorem afe:HQ.all (λ_ i=>Dh i.desc=false->i.Xf.size=1):=by
 unfold HQ;simp only[Tr.all,nd,lf,and_true]
 (repeat' apply And.intro)<;>first|exact λ_=>rfl|(intro h;cases h)
theorem aiz(t:TypeId):EZ ty t:=by intro i s b hs a;have:=Tr.Kn afe b a;simp_all[Rb]
section
variable{x y:Operand}{xs ys:Array Value}{l:List Bool}
theorem gD(c:prog.keyTypeAt 8 t=true)(d:ZM ty 8 t xs.toList ys.toList=some l)(e:(ty t).map (λi=>Dh i.desc)=some true)(w:World):(Op.equal t (.agg xs) (.agg ys)).run prog w= .ok (sg l) w:=by
 have b:∀a:Array Value,VR ty t (.agg a) a.toList:=λa=>by grind[VR]
 exact oM kn aiz 8 9992 t _ _ _ _ l w c d (b xs) (b ys)
theorem RD.eqa(b:prog.keyTypeAt 8 t=true)(c:prog.eqGuardType prog.depth t=false)(a:(ty t).map (λi=>Dh i.desc)=some true)(d:ZM ty 8 t xs.toList ys.toList=some l)(k:K (.bool (sg l))):
 RD prog C (do eqGuard .eql t x y (.agg xs) (.agg ys);binOp .eql t (.agg xs) (.agg ys)) K:=by
 refine⟨_,λw _=>?_,k⟩;simp_all[run_eqGuard_agg,binOp,gD]
theorem RD.xV(b:prog.keyTypeAt 8 t=true)(c:prog.eqGuardType prog.depth t=false)(a:(ty t).map (λi=>Dh i.desc)=some true)(d:ZM ty 8 t xs.toList ys.toList=some l)(k:K (.bool (!sg l))):
 RD prog C (do eqGuard .neq t x y (.agg xs) (.agg ys);binOp .neq t (.agg xs) (.agg ys)) K:=by
 refine⟨_,λw _=>?_,k⟩;simp_all[run_eqGuard_agg,binOp,gD]
end
theorem Sm.cells[DecidableEq κ]{d7:κ->List Value}{d:TypeDesc}(c:prog.underlying kt=some d)(m:prog.keyTypeAt 8 kt=true)(j:(ty kt).map (λi=>Dh i.desc)=some true)
 (f:∀v b,Instr.sameNow d (.agg v) (.agg b)=none)(g:∀h k w,(Instr.checkKey h 10000 kt (.agg (d7 k).toArray)).run prog w= .ok () w)(e:∀k a,∃l,ZM ty 8 kt (d7 k) (d7 a)=some l∧sg l=decide (k=a))
 (hs:∀k,Instr.sameBits 10000 (.agg (d7 k).toArray) (.agg (d7 k).toArray)=true):Sm prog kt (λk=> .agg (d7 k).toArray):=by
 refine Sm.of_eq c g (λk a=>f _ _) (λk a w=>?_) λk w=>?_
 ·obtain⟨l,o,n⟩:=e k a<;>grind[gD]
 ·simp[Instr.keyThatStays,hs]
end Go.Proofs.YtaaihojmcfaejaaGreatDoor
