/- Lemmas for the tops: the walk of the house and its laws. No condition is added. -/
import Derived.WalkKit
import Derived.Laws.Rows
import Derived.Laws.Cells
import Derived.OrdersHeld
import Derived.OrdersIn
import Derived.Scope
import Derived.Tactics
import Derived.Below
import Derived.Laws.CopyRow
import Derived.Laws.AppendOwn
import Derived.RangeFuncWrites
import Derived.RangeFuncBound
import Derived.RangeFuncCalls
import Derived.RangeFuncLeaves
import Derived.RangeFuncBox
import Derived.Test.YtaaihojmcfaejaaGreatDoorQaa
set_option linter.all false
namespace Go.Proofs.YtaaihojmcfaejaaGreatDoor
open Go Go.RowKit
variable{a:Act}{next:Act->World->Prop}{O3:Array Bool}{S6:Array Oper}{fn:Func}{f:FuncId}{ds:List Deferred}{l:List Value}{b c n:Nat}{X:Nat->Bool}{o:Oper}{ρ:Operand->Value}{d ro:Option Nat}{A:Prop}{r:Result Next}{α:Type}{kt t:TypeId}{v z:Value}{K:Value->World->Prop}{w w':World}
theorem mC{P:Prop}(h:P:=by exact eqs _ _ hx hy (λw=>rfl) (λw r hr=>by simp[binOp,hr,wS]) h):P:=h
theorem aas{P:Prop}(h:P:=by exact qi hT hs hD hd h.1 λD e a w h1 h5 h2 h3 h4=>⟨λ_=>h3,Jd hT iq p P7 _ _ _ D e w a kh (vr.set (by rw[hr];simp)) h1 h5 h2 (λ_=>h3) (λ_=>h3) h4⟩):P:=h
theorem aar{P:Prop}(h:P:=by
 split at h
 ·rename_i a ha;obtain⟨cs,hn,hc,hk⟩:=h.ex;refine .inl ⟨_,λw hw=>?_,hk⟩;simp[execOp,Instr.loadAt,Instr.sureAddr,ha,Tj hT ht O hn (hc w hw)]
 grind):P:=h
theorem aaq{P:Prop}(h:P:=by
 split at h
 ·rename_i q hq;obtain⟨cs,hn,hc,hk⟩:=h.ex;exact⟨_,by simp[hq,asAddr,Tj hT ht O hn (hc w O)],hk⟩
 grind):P:=h
theorem pU{P:Prop}(h:P:=by obtain⟨d,ti⟩:=i;cases d<;>first|rfl|exact(n1 _ _ rfl).elim|simp_all):P:=h
theorem aap{P:Prop}(h:P:=by refine acE ?_;rw[hx,hy];simp only[VN]at h;obtain⟨h0,h1⟩:=h.ex;exact⟨_,λw _=>by simp[eqGuard,binOp,Op.shift];omega,h1.ex⟩):P:=h
theorem aao{P:Prop}(h:P:=by refine C0 _ (λw=>?_) h;simp[execOp,Instr.field,J' hT ht,hf,asAgg,hx,Rq hT hd O]):P:=h
theorem aan{P:Prop}(h:P:=by exact RC _ hl ⟨_,λw _=>by simp[Builtin.len_,U9,J' hT ht,hx,goInt],h⟩):P:=h
def i3{α:Type}:List α->Nat->Option α
 |[],_=>none
 |x::_,0=>some x
 |_::l,n+1=>i3 l n
theorem Z0{α:Type}:∀(l:List α)(n:Nat),i3 l n=l[n]?
 |[],_=>by simp[i3]
 |_::_,0=>by simp[i3]
 |_::l,n+1=>by simp[i3,Z0 l n]
structure TI where
 desc:TypeDesc
 Xf:TypeInfo
abbrev Wm:=Nat->Option TI
inductive Tr(α:Type) where
 |leaf
 |node (k:Nat) (i:α) (l r:Tr α)
def Tr.kA:Tr α->Nat->Option α
 | .leaf,_=>none
 | .node k i l r,t=>match Nat.beq t k with
  |true=>some i
  |false=>match Nat.blt t k with
   |true=>l.kA t
   |false=>r.kA t
def Tr.all(p:Nat->α->Prop):Tr α->Prop
 | .leaf=>True
 | .node k i l r=>p k i∧l.all p∧r.all p
theorem Tr.Kn{α:Type}{p:Nat->α->Prop}:∀{T:Tr α}{t:Nat}{i:α},T.all p->T.kA t=some i->p t i
 | .leaf,_,_,_,h=>by cases h
 | .node k j l r,t,i,b,h=>by
  unfold Tr.kA at h
  cases a:Nat.beq t k with
  |true=>
   rw[a]at h
   injection h with h
   subst h
   rw[xL a]
   exact b.1
  |false=>
   rw[a]at h
   simp only at h
   cases c:Nat.blt t k with
   |true=>rw[c]at h;exact Tr.Kn b.2.1 h
   |false=>rw[c]at h;exact Tr.Kn b.2.2 h
structure N8(P:Program)(T:Wm)(X:Nat->Bool):Prop where
 desc:∀t i,T t=some i->P.underlying t=some i.desc
 Xf:∀t i,T t=some i->P.info? t=some i.Xf
 body:∀f,X f=true->∀args w,(callFunc f args).run P w= .ok (.enter f args) w
abbrev td:=Nat->Value
def Tm(e:td)(d:Nat)(v:Value):td:=λt=>match Nat.beq t d with|true=>v|false=>e t
def zl(e:td)(d:Option Nat)(v:Value):td:=match d with|some d=>Tm e d v|none=>e
def ev(e:td):Operand->Value
 | .tmp t=>e t
 | .const v=>v
 | .global g=> .pointer (some ⟨g,0,none⟩)
 | .func f=> .func (.func f) #[] #[]
theorem vF(e:td)(d:Nat)(v:Value):Tm e d v d=v:=by simp[Tm]
theorem wA(e:td){d t:Nat}(v:Value)(h:t≠d):Tm e d v t=e t:=by grind[Tm,Nat.eq_of_beq_eq_true]
abbrev Y5:=List PanicEntry->World->Prop
def nm(P:Program)(K:Value->World->Prop)(PQ:Y5):Result Next->Prop
 | .ok (.value v) w=>K v w
 | .ok .skip w=>K undef w
 | .ok (.enter f args) w=>Calls P f args w λe w'=>match e with
  | .returned v=>K v w'
  | .panicked ch=>PQ ch w'
  | .outgrown=>False
 | .ok (.row row args) w=>Rows P row args w K
 | .halt (.panic v) w=>PQ [{v,recovered:=false}] w
 |_=>False
def Av(P:Program)(K:Value->World->Prop)(PQ:Y5):Result Next->Prop
 | .ok (.round l f tmps assign body) w=>RoundIn Fence.wide 0 P l f tmps assign body w λe w'=>match e with
  | .returned v=>K v w'
  | .panicked ch=>PQ ch w'
  | .outgrown=>False
 |r=>nm P K PQ r
theorem nm.y{P:Program}{PQ:Y5}(h:nm P K PQ r):Av P K PQ r:=by
 unfold Av;split
 ·exact h.elim
 ·exact h
structure LD(C:World->Prop)(a:Addr)(K:Value->Prop):Prop where
 ex:∃v,(∀w,C w->w.cell? a=some v)∧K v
structure Oa(C:World->Prop)(a:Addr)(n:Nat)(K:Value->Prop):Prop where
 ex:∃cs:List Value,cs.length=n∧(∀w,C w->∀i v,i3 cs i=some v->w.cell? (a.add i)=some v)∧K (.agg cs.toArray)
structure RD(P:Program)(C:World->Prop)(s:Sem Value)(K:Value->Prop):Prop where
 ex:∃v,(∀w,C w->s.run P w= .ok v w)∧K v
structure Jc(N0:Option Addr)(len:Nat)(i:Int)(size:Nat)(K:Value->Prop):Prop where
 ex:∃a,N0=some a∧0<=i∧i<len∧K (.pointer (some (a.add (i.toNat*size))))
structure WR(k:IntKind)(z:Int)(K:Value->Prop):Prop where
 ex:K (.int k (k.wrap z))
structure Bv(k:IntKind)(a:Int)(n:Nat)(K:Value->Prop):Prop where
 ex:K (.int k (a.fdiv (2^(min n k.bits))))
def dg(op:BinOp)(k:IntKind)(a b:Int):Int:=match op with
 | .and=>k.wrap (BitVec.ofInt k.bits a&&&BitVec.ofInt k.bits b).toNat
 | .or=>k.wrap (BitVec.ofInt k.bits a|||BitVec.ofInt k.bits b).toNat
 | .xor=>k.wrap (BitVec.ofInt k.bits a^^^BitVec.ofInt k.bits b).toNat
 |_=>k.wrap (BitVec.ofInt k.bits a&&& ~~~BitVec.ofInt k.bits b).toNat
structure bf(op:BinOp)(k:IntKind)(a b:Int)(K:Value->Prop):Prop where
 ex:K (.int k (dg op k a b))
structure tg(P:Program)(C:World->Prop)(t:TypeId)(x y:Value)(K:Bool->Prop):Prop where
 ex:∃b,(∀w,C w->(Op.equal t x y).run P w= .ok b w)∧K b
structure DIV(y:Int)(K:Prop):Prop where
 ex:y≠0∧K
structure KN(y:Int)(K:Nat->Prop):Prop where
 ex:0<=y∧K y.toNat
structure ST(P:Program)(w:World)(a:Addr)(v:Value)(size:Nat)(K:World->Prop):Prop where
 ex:v.cells.size=size∧∃w',(storeCells a v.cells.toList).run P w= .ok () w'∧K w'
structure PP(w:World)(o:Obj)(K:Nat->World->Prop):Prop where
 ex:K w.heap.size (w.alloc o)
structure A4(P:Program)(o:Oper)(ρ:Operand->Value)(w:World)(K:Value->World->Prop)(PQ:Y5):Prop where
 up:nm P K PQ ((execOp ρ o).run P w)
structure od(P:Program)(f:FuncId)(args:Array Value)(w:World)(K:Value->World->Prop)(PQ:Y5)(X:Nat->Bool)(o:Oper)(ρ:Operand->Value):Prop where
 ex:(X f=true->Calls P f args w λe w'=>match e with
  | .returned v=>K v w'
  | .panicked ch=>PQ ch w'
  | .outgrown=>False)∧(X f=false->A4 P o ρ w K PQ)
structure qV(P:Program)(l:Nat)(args:Array Value)(w:World)(K:Value->World->Prop)(PQ:Y5):Prop where
 up:Av P K PQ ((Instr.yield l args).run P w)
def SJ(o:Oper)(ρ:Operand->Value):Bool:=match o.op with
 | .call c=>match c.callee with
  | .value f=>match ρ f with
   | .func (.yield _) _ _=>false
   |_=>true
  |_=>true
 |_=>true
def yOk(o:Oper)(ρ:Operand->Value)(A:Prop):Prop:=match SJ o ρ with
 |true=>A
 |false=>False
def m8:List Value->Nat->List Value->List Value
 |l,_,[]=>l
 |l,off,v::vs=>m8 (l.set off v) (off+1) vs
def Gx:List Value->List Value->List Value
 |[],l=>l
 |v::vs,_::l=>v::Gx vs l
 |v::vs,[]=>v::vs
def VV:List Value->Nat->List Value->List Value
 |l,0,vs=>Gx vs l
 |[],_+1,_=>[]
 |x::l,k+1,vs=>x::VV l k vs
theorem US:∀(vs l:List Value),vs.length<=l.length->Gx vs l=vs++l.drop vs.length
 |[],l,_=>by simp[Gx]
 |v::vs,[],h=>by simp at h
 |v::vs,_::l,h=>by unfold Gx;rw[US vs l (by simpa using h)];simp
theorem YQ:∀(l:List Value)(k:Nat)(vs:List Value),k+vs.length<=l.length->VV l k vs=l.take k++vs++l.drop (k+vs.length)
 |l,0,vs,h=>by simp_all[VV,US]
 |[],k+1,vs,h=>by simp at h
 |x::l,k+1,vs,h=>by unfold VV;rw[YQ l k vs Zb1];grind
def py(a:Nat->Option (Nat×Nat)):List Value->List (Nat×Value)->Option (List Value)
 |cells,[]=>some cells
 |cells,(i,v)::V5=>
  match a i with
  |none=>none
  |some (off,size)=>
   match Nat.beq v.cells.toList.length size&&Nat.ble (off+v.cells.toList.length) cells.length with
   |true=>py a (VV cells off v.cells.toList) V5
   |false=>none
structure BR(c:Bool)(A B:Prop):Prop where
 ex:(c=true->A)∧(c=false->B)
theorem BR.O'{c:Bool}{B:Prop}(b:c=true->A)(a:c=false->B):BR c A B:=⟨b,a⟩
theorem BR.s9{c:Bool}{B:Prop}(h:c=true)(k:A):BR c A B:=⟨λ_=>k,λe=>Zb7⟩
theorem BR.no{c:Bool}{B:Prop}(h:c=false)(k:B):BR c A B:=⟨λe=>Zb7,λ_=>k⟩
abbrev Ns:=Nat->Option Bool
def tP(D:Ns)(d:Nat)(b:Bool):Ns:=λt=>match Nat.beq t d with
 |true=>some b
 |false=>D t
def Wo(D:Ns)(d:Option Nat):Ns:=match d with
 |some d=>λt=>match Nat.beq t d with
  |true=>none
  |false=>D t
 |none=>D
def d0:Ns:=λ_=>none
section
variable(P:Program)(T:Wm)(X:Nat->Bool)
def Rb(t:TypeId):Option Nat:=match T t with
 |some i=>some i.Xf.size
 |none=>none
def Tc(a:List Field)(i:Nat):Option (Nat×Nat):=match i3 a i with
 |some f=>match Rb T f.type with
  |some s=>some (f.offset,s)
  |none=>none
 |none=>none
def qv(a:List Field):Bool:=match a with
 |[]=>true
 |f::r=>match T f.type with
  |some _=>qv r
  |none=>false
def VN(op:BinOp)(k:IntKind)(a b:Int)(K:Value->Prop):Prop:=
 match op with
 | .add=>WR k (a+b) K
 | .sub=>WR k (a-b) K
 | .mul=>WR k (a*b) K
 | .quo=>DIV b (WR k (a.tdiv b) K)
 | .rem=>DIV b (K (.int k (a.tmod b)))
 | .and=>bf .and k a b K
 | .or=>bf .or k a b K
 | .xor=>bf .xor k a b K
 | .andNot=>bf .andNot k a b K
 | .eql=>K (.bool (a==b))
 | .neq=>K (.bool (a !=b))
 | .lss=>K (.bool (decide (a<b)))
 | .leq=>K (.bool (decide (a<=b)))
 | .gtr=>K (.bool (decide (a>b)))
 | .geq=>K (.bool (decide (a>=b)))
 | .shl=>KN b λn=>WR k (a*2^(min n k.bits)) K
 | .shr=>KN b λn=>Bv k a n K
def Mw:IntKind->IntKind->Bool
 | .i8,.i8| .i16,.i16| .i32,.i32| .i64,.i64| .u8,.u8| .u16,.u16| .u32,.u32| .u64,.u64=>true
 |_,_=>false
def vQ(C:World->Prop)(o:Oper)(ρ:Operand->Value)(K:Value->Prop)(g:Prop):Prop:=
 match o.op with
 | .move x=>K (ρ x)
 | .assign x=>K (ρ x)
 | .pick c a b=>match ρ c with
  | .bool c=>K (match c with|true=>ρ a|false=>ρ b)
  |_=>g
 | .nilCheck x=>match ρ x with
  | .pointer (some a)=>K (.pointer (some a))
  | .func (.func f) a b=>K (.func (.func f) a b)
  | .iface t v=>K (.iface t v)
  |_=>g
 | .fieldAddr s x f=>match T s with
  |some ⟨.struct j,_⟩=>match i3 j.toList f with
   |some h=>match Rb T h.type with
    |some (_+1)=>match ρ x with
     | .pointer (some a)=>K (.pointer (some (a.add h.offset)))
     |_=>g
    |_=>g
   |none=>g
  |_=>g
 | .load t x=>match T t with
  |some ⟨.struct _,i⟩=>match ρ x with
   | .pointer (some a)=>Oa C a i.size K
   |_=>g
  |some ⟨.array _ _,i⟩=>match ρ x with
   | .pointer (some a)=>Oa C a i.size K
   |_=>g
  |some _=>match ρ x with
   | .pointer (some a)=>LD C a K
   |_=>g
  |none=>g
 | .build t A0=>match T t with
  |some ⟨.struct j,i⟩=>match qv T j.toList with
   |true=>match i.zero with
    |some z=>match py (Tc T j.toList) z.cells.toList (A0.toList.map λp=>(p.1,ρ p.2))with
     |some cs=>K (.agg cs.toArray)
     |none=>g
    |none=>g
   |false=>g
  |some ⟨.array _ e,i⟩=>match Rb T e with
   |some s=>match i.zero with
    |some z=>match py (λi=>some (i*s,s)) z.cells.toList (A0.toList.map λp=>(p.1,ρ p.2))with
     |some cs=>K (.agg cs.toArray)
     |none=>g
    |none=>g
   |none=>g
  |_=>g
 | .binOp op t x y _=>match ρ x,ρ y with
  | .int k a,.int D b=>match Mw k D with
   |true=>VN op k a b K
   |false=>match op with
    | .shl=>VN .shl k a b K
    | .shr=>VN .shr k a b K
    |_=>g
  | .bool a,.bool b=>match op with
   | .eql=>tg P C t (.bool a) (.bool b) λr=>K (.bool r)
   | .neq=>tg P C t (.bool a) (.bool b) λr=>K (.bool !r)
   |_=>g
  | .pointer a,.pointer b=>match op with
   | .eql=>tg P C t (.pointer a) (.pointer b) λr=>K (.bool r)
   | .neq=>tg P C t (.pointer a) (.pointer b) λr=>K (.bool !r)
   |_=>g
  | .slice a b c,.slice q m l=>match op with
   | .eql=>tg P C t (.slice a b c) (.slice q m l) λr=>K (.bool r)
   | .neq=>tg P C t (.slice a b c) (.slice q m l) λr=>K (.bool !r)
   |_=>g
  |_,_=>RD P C (do eqGuard op t x y (ρ x) (ρ y);binOp op t (ρ x) (ρ y)) K
 | .unOp op _ x=>match op,ρ x with
  | .not,.bool b=>K (.bool !b)
  | .neg,.int k n=>WR k (0-n) K
  | .xor,.int k n=>K (.int k (k.wrap (BitVec.ofInt k.bits (match k.signed with|true=> -1|false=>k.max)^^^BitVec.ofInt k.bits n).toNat))
  |_,_=>g
 | .convert s d x=>match T s,T d,ρ x with
  |some _,some ⟨.int k,_⟩,.int _ n=>WR k n K
  |_,_,_=>g
 | .field t x f=>match T t with
  |some ⟨.struct j,_⟩=>match i3 j.toList f with
   |some h=>match T h.type,ρ x with
    |some ⟨.struct _,i⟩,.agg cs=>K (.agg (cs.extract h.offset (h.offset+i.size)))
    |some ⟨.array _ _,i⟩,.agg cs=>K (.agg (cs.extract h.offset (h.offset+i.size)))
    |some _,.agg cs=>match i3 cs.toList h.offset with
     |some v=>K v
     |none=>g
    |_,_=>g
   |none=>g
  |_=>g
 | .indexAddr t x i=>match T t with
  |some ⟨.slice e,_⟩=>match Rb T e with
   |some s=>match ρ x,ρ i with
    | .slice N0 len _,.int _ n=>Jc N0 len n s K
    |_,_=>g
   |none=>g
  |some ⟨.array len e,_⟩=>match Rb T e with
   |some s=>match ρ x,ρ i with
    | .pointer (some a),.int _ n=>Jc (some a) len n s K
    |_,_=>g
   |none=>g
  |_=>g
 | .slice t x A E w=>RD P C (Instr.sliceAt t (ρ x) (A.map ρ) (E.map ρ) (w.map ρ)) K
 | .index t x i=>RD P C (Instr.index t (ρ x) (ρ i)) K
 | .lookup t x i ok=>RD P C (Instr.lookup t (ρ x) (ρ i) ok) K
 | .makeInterface t x=>RD P C (Instr.makeInterface t (ρ x)) K
 | .typeAssert x t u ok=>RD P C (Instr.typeAssert (ρ x) t u ok) K
 | .makeFunc fn a b=>K (.func fn (a.toList.map ρ).toArray (b.toList.map ρ).toArray)
 | .extract x i=>match ρ x with
  | .tuple vs=>match i3 vs.toList i with
   |some v=>K v
   |none=>g
  |_=>g
 | .call c=>match c.callee with
  | .builtin .len=>match c.argTypes.toList,c.args.toList with
   |[t],[x]=>match T t,ρ x with
    |some ⟨.slice _,_⟩,.slice _ n _=>K (.int .i64 n)
    |some ⟨.string,_⟩,.string s=>K (.int .i64 s.size)
    |some ⟨.array n _,_⟩,_=>K (.int .i64 n)
    |_,_=>RD P C (Builtin.len_ c.argTypes o.type #[ρ x]) K
   |_,_=>g
  | .builtin .cap=>match c.argTypes.toList,c.args.toList with
   |[t],[x]=>match T t,ρ x with
    |some ⟨.slice _,_⟩,.slice _ _ n=>K (.int .i64 n)
    |_,_=>g
   |_,_=>g
  | .builtin .max=>match c.args.toList with
   |[x,y]=>match ρ x,ρ y with
    | .int k a,.int _ b=>K (.int k (if b>a then b else a))
    |_,_=>g
   |_=>g
  | .builtin .min=>match c.args.toList with
   |[x,y]=>match ρ x,ρ y with
    | .int k a,.int _ b=>K (.int k (if b<a then b else a))
    |_,_=>g
   |_=>g
  |_=>g
 |_=>g
def vW(o:Oper)(ρ:Operand->Value)(w:World)(K:Value->World->Prop)(PQ:Y5):Prop:=
 match o.op with
 | .store t x y=>match Rb T t with
  |some s=>match ρ x with
   | .pointer (some a)=>ST P w a (ρ y) s λw'=>K undef w'
   |_=>A4 P o ρ w K PQ
  |none=>A4 P o ρ w K PQ
 | .alloc t=>match T t with
  |some ⟨_,i⟩=>match i.zero with
   |some z=>PP w (.cells z.cells t) λb w'=>K (.pointer (some ⟨b,0,none⟩)) w'
   |none=>A4 P o ρ w K PQ
  |none=>A4 P o ρ w K PQ
 | .box t x=>PP w (.cells (ρ x).cells t) λb w'=>K (.pointer (some ⟨b,0,none⟩)) w'
 | .buildSlice t n A0=>match T t with
  |some ⟨.slice e,_⟩=>match T e with
   |some ⟨_,i⟩=>match i.zero,Nat.ble (n*i.size) 16777216 with
    |some z,true=>match py (λj=>some (j*i.size,i.size)) (List.replicate n z.cells.toList).flatten (A0.toList.map λp=>(p.1,ρ p.2)),Nat.beq z.cells.toList.length i.size with
     |some cs,true=>PP w (.cells cs.toArray e) λb w'=>K (.slice (some ⟨b,0,none⟩) n n) w'
     |_,_=>A4 P o ρ w K PQ
    |_,_=>A4 P o ρ w K PQ
   |none=>A4 P o ρ w K PQ
  |_=>A4 P o ρ w K PQ
 | .call c=>match c.callee with
  | .value f=>match ρ f with
   | .func (.func f) first d=>od P f (first.toList++c.args.toList.map ρ++d.toList).toArray w K PQ X o ρ
   | .func (.yield l) first _=>qV P l (first.toList++c.args.toList.map ρ).toArray w K PQ
   |_=>A4 P o ρ w K PQ
  |_=>A4 P o ρ w K PQ
 | .defer _=>False
 |_=>A4 P o ρ w K PQ
def vOp(o:Oper)(ρ:Operand->Value)(w:World)(K:Value->World->Prop)(PQ:Y5):Prop:=
 vQ P T (λw'=>w'=w) o ρ (λv=>K v w) (vW P T X o ρ w K PQ)
def zy(n:Nat)(d:Option Nat)(A:Prop):Prop:=match d with
 |some d=>match Nat.blt d n with
  |true=>A
  |false=>False
 |none=>A
def yl(all:List Oper)(o:Oper)(D:Ns)(e:td)(a:Ns->td->Prop)(skip:Ns->td->Prop):Prop:=
 match o.guard with
  |none=>a D e
  |some (j,b)=>match i3 all j with
   |some f=>match f.dst with
    |some d=>match D d with
     |some true=>(match b with
      |true=>a D e
      |false=>skip D e)
     |some false=>(match b with
      |true=>skip D e
      |false=>a D e)
     |none=>match e d with
      | .bool c=>BR c
       (match b with
        |true=>a (tP D d true) (Tm e d (.bool true))
        |false=>skip (tP D d true) (Tm e d (.bool true)))
       (match b with
        |false=>a (tP D d false) (Tm e d (.bool false))
        |true=>skip (tP D d false) (Tm e d (.bool false)))
      | .tuple _=>skip D e
      |_=>False
    |none=>False
   |none=>False
noncomputable def uF(n:Nat)(all:List Oper)(K:td->World->Prop)(PQ:Y5)(l:List Oper):Ns->td->World->Prop:=
 List.rec (motive:=λ_=>Ns->td->World->Prop) (λ_ e w=>K e w)
  (λo _ a D e w=>zy n o.dst (yl all o D e (λD e=>vOp P T X o (ev e) w (λv w'=>a (Wo D o.dst) (zl e o.dst v) w') PQ) (λD e=>a (Wo D o.dst) (zl e o.dst undef) w))) l
end
section
variable{P:Program}{T:Wm}
theorem J'(a:N8 P T X){i:TI}(h:T t=some i)(w:World):(underlying t).run P w= .ok i.desc w:=by simp[underlying,a.desc t i h]
theorem vi(a:N8 P T X){i:TI}(h:T t=some i)(w:World):(typeInfo t).run P w= .ok i.Xf w:=by simp[typeInfo,a.Xf t i h]
theorem Pa(b:N8 P T X)(h:Rb T t=some n)(w:World):(sizeOf t).run P w= .ok n w:=by
 unfold Rb at h;cases a:T t with
 |none=>simp_all
 |some i=>rw[a]at h;injection h with h;simp[sizeOf,vi b a,h]
def Dh:TypeDesc->Bool
 | .struct _| .array _ _=>true
 |_=>false
theorem Gl(a:N8 P T X){i:TI}(h:T t=some i)(w:World):(isAgg t).run P w= .ok (Dh i.desc) w:=by simp only[isAgg,Sem.run_bind,J' a h,Result.andThen_ok];cases i.desc<;>rfl
theorem sm(d:N8 P T X){i:TI}(h:T t=some i)(c:Dh i.desc=false){a:Addr}(b:w.cell? a=some v):(loadVar t a).run P w= .ok v w:=by simp only[loadVar,Sem.run_bind,Gl d h,Result.andThen_ok,c];simp[b]
theorem Tj(b:N8 P T X){i:TI}(h:T t=some i)(f:Dh i.desc=true){a:Addr}{cs:List Value}(d:cs.length=i.Xf.size)
 (c:∀j v,i3 cs j=some v->w.cell? (a.add j)=some v):(loadVar t a).run P w= .ok (.agg cs.toArray) w:=by
 have k:Rb T t=some i.Xf.size:=by unfold Rb;rw[h]
 have g:=run_loadCells_list (P:=P) w a cs (λj v e=>c j v (by rw[Z0];exact e));simp only[loadVar,Sem.run_bind,Gl b h,Result.andThen_ok,f,if_true,Pa b k,<-d,g];rfl
theorem GF(vs:List Value)(off:Nat):∀(l:List Value)(k:Nat),((vs.zipIdx k).foldl (λ(cs:Array Value)(x:Value×Nat)=>cs.setIfInBounds (off+x.2) x.1) l.toArray)=(m8 l (off+k) vs).toArray:=by
 induction vs with
 |nil=>intro l k;rfl
 |cons v vs a=>grind[List.zipIdx_cons,m8]
theorem MK(v:Value)(off:Nat)(l:List Value):v.cells.zipIdx.foldl (λ(cs:Array Value)(x:Value×Nat)=>cs.setIfInBounds (off+x.2) x.1) l.toArray=(m8 l off v.cells.toList).toArray:=by have h:=GF v.cells.toList off l 0;rw[Nat.add_zero]at h;rw[<-h,<-Array.foldl_toList,Array.toList_zipIdx]
theorem vb:∀(vs l:List Value)(k:Nat),k+vs.length<=l.length->m8 l k vs=l.take k++vs++l.drop (k+vs.length)
 |[],l,k,_=>by simp[m8]
 |v::vs,l,k,h=>by
  simp only[List.length_cons]at h;unfold m8;rw[vb vs (l.set k v) (k+1) Zb5];have c:(l.set k v).take (k+1)=l.take k++[v]:=by
   apply tv;intro j;simp only[List.getElem?_take,List.getElem?_set,List.getElem?_append,List.length_take];by_cases a:j<k
   ·grind
   ·grind
  have b:(l.set k v).drop (k+1+vs.length)=l.drop (k+(vs.length+1)):=by
   apply tv;intro j;simp only[List.getElem?_drop,List.getElem?_set];have:¬k=k+1+vs.length+j:=m4
   simp[this];congr 1;omega
  simp[*]
theorem bw(a:Nat->Option (Nat×Nat)):∀(A0:List (Nat×Value))(l l':List Value),py a l A0=some l'->Instr.fill a l.toArray A0=some l'.toArray
 |[],l,l',h=>by unfold py at h;injection h with h;subst h;rfl
 |(i,v)::V5,l,l',h=>by
  unfold py at h;unfold Instr.fill;cases d:a i with
  |none=>simp_all
  |some q=>
   obtain⟨off,size⟩:=q;rw[d]at h;simp only at h⊢;cases c:Nat.beq v.cells.toList.length size&&Nat.ble (off+v.cells.toList.length) l.length with
   |false=>grind
   |true=>
    rw[c]at h;simp only[Bool.and_eq_true]at c;obtain⟨g,f⟩:=c;have h1':=xL g;have b:=zv f;rw[YQ _ _ _ b,<-vb _ _ _ b]at h;rw[xE]at h1' b;have e:¬((v.cells.size≠size||off+v.cells.size>l.toArray.size)=true):=by simp[h1'];rw[<-h1'];omega
    rw[V0 e,MK];exact bw a V5 _ l' h
theorem Cu{k a:IntKind}(h:Mw k a=true):k=a:=by cases k<;>cases a<;>first|rfl|(exact absurd h Zb4)
theorem Rq(a:N8 P T X){i:TI}(h:T t=some i)(b:Dh i.desc=true)(cs:Array Value)(off:Nat)(w:World):(part t cs off).run P w= .ok (.agg (cs.extract off (off+i.Xf.size))) w:=by
 have c:Rb T t=some i.Xf.size:=by unfold Rb;rw[h]
 simp only[part,Sem.run_bind,Gl a h,Result.andThen_ok,b,if_true,Pa a c];rfl
theorem Fl(c:N8 P T X){i:TI}(h:T t=some i)(b:Dh i.desc=false)(cs:Array Value)(off:Nat)(a:i3 cs.toList off=some v)(w:World):(part t cs off).run P w= .ok v w:=by rw[Z0,DE]at a;simp only[part,Sem.run_bind,Gl c h,Result.andThen_ok,b,a];rfl
theorem bJ{C:World->Prop}{op:BinOp}{k:IntKind}{x y:Operand}{a b:Int}{K:Value->Prop}(h:VN op k a b K):
 ∃v,(∀w,C w->((do eqGuard op t x y (.int k a) (.int k b);binOp op t (.int k a) (.int k b):Sem Value)).run P w= .ok v w)∧K v:=by
 have f:∀w,(eqGuard op t x y (.int k a) (.int k b)).run P w= .ok () w:=by intro w;unfold eqGuard;cases op<;>rfl
 have c:∀v,(∀w,(binOp op t (.int k a) (.int k b)).run P w= .ok v w)->K v->∃v,(∀w,C w->((do eqGuard op t x y (.int k a) (.int k b);binOp op t (.int k a) (.int k b):Sem Value)).run P w= .ok v w)∧K v:=
  λv e d=>⟨v,λw _=>Zb6,d⟩
 cases op<;>simp only[VN]at h
 case add=>simp_all[binOp,Op.intArith,WR.ex]
 case sub=>simp_all[binOp,Op.intArith,WR.ex]
 case mul=>simp_all[binOp,Op.intArith,WR.ex]
 case quo=>exact c _ (λw=>by simp[binOp,Op.intDiv,h.ex.1]) h.ex.2.ex
 case rem=>exact c _ (λw=>by simp[binOp,Op.intDiv,h.ex.1]) h.ex.2
 case and=>exact c _ (λw=>by simp[binOp,Op.intBits,dg]) h.ex
 case or=>exact c _ (λw=>by simp[binOp,Op.intBits,dg]) h.ex
 case xor=>exact c _ (λw=>by simp[binOp,Op.intBits,dg]) h.ex
 case andNot=>exact c _ (λw=>by simp[binOp,Op.intBits,dg]) h.ex
 case shl=>exact c _ (λw=>by have:=h.ex.1;simp[binOp,Op.shift];omega) h.ex.2.ex
 case shr=>exact c _ (λw=>by have:=h.ex.1;simp[binOp,Op.shift];omega) h.ex.2.ex
 case eql=>simp_all[binOp,Op.intCmp]
 case neq=>simp_all[binOp,Op.intCmp]
 case lss=>simp_all[binOp,Op.intCmp]
 case leq=>simp_all[binOp,Op.intCmp]
 case gtr=>simp_all[binOp,Op.intCmp]
 simp_all[binOp,Op.intCmp]
end
section
variable{P:Program}{T:Wm}
def wS(op:BinOp)(r:Bool):Bool:=match op with| .neq=>!r|_=>r
theorem aeJ{b:Type}(f:α->b)(a:Array α):a.map f=(a.toList.map f).toArray:=Zb1
theorem run_places(e:N8 P T X):∀(a:List Field),qv T a=true->∀w,(a.toArray.mapM (λf=>do pure (f.offset,<-sizeOf f.type):Field->Sem (Nat×Nat))).run P w= .ok ((a.map λf=>(f.offset,(Rb T f.type).getD 0)).toArray) w:=by
 intro a h w;rw[List.mapM_toArray];have:∀(a:List Field),qv T a=true->(a.mapM (λf=>do pure (f.offset,<-sizeOf f.type):Field->Sem (Nat×Nat))).run P w= .ok (a.map λf=>(f.offset,(Rb T f.type).getD 0)) w:=by
  intro a;induction a with
  |nil=>intro _;simp
  |cons f r c=>
   intro h;unfold qv at h;cases b:T f.type with
   |none=>simp_all
   |some i=>
    rw[b]at h;have hs:Rb T f.type=some i.Xf.size:=by unfold Rb;rw[b]
    have d:=c h;simp only[List.mapM_cons,Sem.run_bind,Pa e hs,Result.andThen_ok,Sem.run_pure,d,List.map_cons,hs,Option.getD_some]
 simp_all
theorem yO:∀(a:List Field),qv T a=true->(Tc T a)=(λi=>((a.map λf=>(f.offset,(Rb T f.type).getD 0)).toArray)[i]?):=by
 intro a h;funext i;have:∀(a:List Field)(i:Nat),qv T a=true->Tc T a i=(a.map λf=>(f.offset,(Rb T f.type).getD 0))[i]?:=by
  intro a;induction a with
  |nil=>simp[Tc,i3]
  |cons f r d=>
   intro i h;unfold qv at h;cases b:T f.type with
   |none=>simp_all
   |some c=>
    rw[b]at h;cases i with
    |zero=>simp_all[Rb,Tc,i3]
    |succ i=>simp_all[Tc,i3]
 simp[*]
def QV(P:Program)(C:World->Prop)(o:Oper)(ρ:Operand->Value)(K:Value->Prop):Prop:=
 ∃v,(∀w,C w->(execOp ρ o).run P w= .ok (.value v) w)∧K v
theorem yw(hT:N8 P T X){C:World->Prop}{K:Value->Prop}{A:Prop}(h:vQ P T C o ρ K A):QV P C o ρ K∨A:=by
 obtain⟨dst,op,type,db,after,guard⟩:=o;have C0:∀v,(∀w,(execOp ρ ⟨dst,op,type,db,after,guard⟩).run P w= .ok (.value v) w)->K v->QV P C ⟨dst,op,type,db,after,guard⟩ ρ K∨A:=
  λv F hk=> .inl ⟨v,λw _=>F w,hk⟩
 have RC:∀s:Sem Value,(∀w,(execOp ρ ⟨dst,op,type,db,after,guard⟩).run P w=(s.run P w).andThen λv w'=> .ok (.value v) w')->(∃v,(∀w,C w->s.run P w= .ok v w)∧K v)->QV P C ⟨dst,op,type,db,after,guard⟩ ρ K∨A:=
  λs hs⟨v,F,hk⟩=> .inl ⟨v,λw hw=>Zb6,hk⟩
 unfold vQ at h;cases op<;>simp only at h
 case move x=>simp_all[execOp]
 case assign x=>simp_all[execOp]
 case pick c a b=>
  split at h
  ·rename_i d hd;exact C0 _ (λw=>by cases d<;>simp[execOp,hd,asBool]) h
  grind
 case nilCheck x=>
  split at h
  ·simp_all[execOp]
  ·simp_all[execOp]
  ·simp_all[execOp]
  grind
 case fieldAddr s x f=>
  split at h
  ·rename_i g i hs;split at h
   ·rename_i Z hf;split at h
    ·rename_i n D;split at h
     ·rename_i a ha;rw[Z0,DE]at hf;refine C0 _ (λw=>?_) h;simp[execOp,Instr.fieldAt,J' hT hs,hf,Instr.sureAddr,ha,fieldPlace,Pa hT D]
     grind
    grind
   grind
  grind
 case load t x=>
  split at h
  ·rename_i g i ht;exact aar
  ·rename_i n e i ht;exact aar
  ·rename_i i n1 Q ht;split at h
   ·rename_i a ha;obtain⟨v,hc,hk⟩:=h.ex;have hd:Dh i.desc=false:=by exact pU
    refine .inl ⟨_,λw hw=>?_,hk⟩;simp[execOp,Instr.loadAt,Instr.sureAddr,ha,sm hT ht hd (hc w hw)]
   grind
  grind
 case unOp op t x=>
  split at h
  ·simp_all[execOp,Op.unary]
  ·simp_all[execOp,Op.unary,Op.intArith,WR.ex]
  ·rename_i k n L;refine C0 _ (λw=>?_) h;cases hs:k.signed<;>simp[execOp,Op.unary,L,Op.intBits,hs]
  grind
 case convert s d x=>
  split at h
  ·rename_i i k j R n hs hd hx;refine C0 _ (λw=>?_) h.ex;simp[execOp,convert,J' hT hs,J' hT hd,hx,Conv.intToInt]
  grind
 case slice t x lo G mx=>exact RC _ (λw=>by simp[execOp]) h.ex
 case index t x i=>exact RC _ (λw=>by simp[execOp]) h.ex
 case lookup t x i ok=>exact RC _ (λw=>by simp[execOp]) h.ex
 case makeInterface t x=>exact RC _ (λw=>by simp[execOp]) h.ex
 case typeAssert x t u ok=>exact RC _ (λw=>by simp[execOp]) h.ex
 case makeFunc fn a b=>simp_all[execOp,Instr.makeFunc,aeJ]
 case extract x i=>
  split at h
  ·rename_i vs hx;split at h
   ·simp_all[Z0,execOp,Instr.extract]
   grind
  grind
 case indexAddr t x i=>
  split at h
  ·rename_i e N ht;split at h
   ·rename_i s hs;split at h
    ·rename_i N0 len cap k n hx G;obtain⟨a,rfl,h0,h1,hk⟩:=h.ex;refine C0 _ (λw=>?_) hk;simp[execOp,Instr.indexAt,asIntOf,G,J' hT ht,hx,h0,h1,Pa hT hs]
    grind
   grind
  ·rename_i len e N ht;split at h
   ·rename_i s hs;split at h
    ·rename_i a k n hx G;obtain⟨a',ha,h0,h1,hk⟩:=h.ex;injection ha with ha;subst ha;refine C0 _ (λw=>?_) hk;simp[execOp,Instr.indexAt,asIntOf,G,J' hT ht,hx,h0,h1,Pa hT hs,Instr.sureAddr]
    grind
   grind
  grind
 case field t x f=>
  split at h
  ·rename_i g N ht;split at h
   ·rename_i Z hf;rw[Z0,DE]at hf;split at h
    ·rename_i gs i cs hd hx;exact aao
    ·rename_i n e i cs hd hx;exact aao
    ·rename_i i cs n1 Q hd hx;split at h
     ·rename_i v F;have hr:Dh i.desc=false:=by exact pU
      refine C0 _ (λw=>?_) h;simp[execOp,Instr.field,J' hT ht,hf,asAgg,hx,Fl hT hd hr _ _ F]
     grind
    grind
   grind
  grind
 case build t A0=>
  have M:(A0.map λ(p:Nat×Operand)=>(p.1,ρ p.2)).toList=A0.toList.map λp=>(p.1,ρ p.2):=Zb3
  split at h
  ·rename_i g i ht;split at h
   ·rename_i ha;split at h
    ·rename_i z D;split at h
     ·rename_i cs hf;have hzv:∀w,(zeroValue t).run P w= .ok z w:=λw=>by simp[zeroValue,vi hT ht,D]
      have S:∀w,(g.mapM (λf=>do pure (f.offset,<-sizeOf f.type):Field->Sem (Nat×Nat))).run P w= .ok ((g.toList.map λf=>(f.offset,(Rb T f.type).getD 0)).toArray) w:=by intro w;exact run_places hT g.toList ha w
      have q:=bw _ _ _ _ hf;rw[<-M]at q;have Y:∀l,Instr.fill (Tc T g.toList) z.cells l=Instr.fill (λi=>((g.toList.map λf=>(f.offset,(Rb T f.type).getD 0)).toArray)[i]?) z.cells l:=by intro l;rw[yO g.toList ha]
      refine C0 _ (λw=>?_) h;rw[Y]at q;simp only[execOp,Instr.build,Sem.run_bind,hzv,J' hT ht,Result.andThen_ok,S,q];rfl
     grind
    grind
   grind
  ·rename_i n e i ht;split at h
   ·rename_i s hs;split at h
    ·rename_i z D;split at h
     ·rename_i cs hf;have hzv:∀w,(zeroValue t).run P w= .ok z w:=λw=>by simp[zeroValue,vi hT ht,D]
      have q:=bw _ _ _ _ hf;rw[<-M]at q;refine C0 _ (λw=>?_) h;simp only[execOp,Instr.build,Sem.run_bind,hzv,J' hT ht,Result.andThen_ok,Pa hT hs,q];rfl
     grind
    grind
   grind
  grind
 case binOp op t x y u=>
  have acE:(∃v,(∀w,C w->((do eqGuard op t x y (ρ x) (ρ y);binOp op t (ρ x) (ρ y):Sem Value)).run P w= .ok v w)∧K v)->QV P C ⟨dst,.binOp op t x y u,type,db,after,guard⟩ ρ K∨A:=
   RC _ (λw=>by simp only[execOp,Sem.run_bind];simp)
  have eqs:∀(a b:Value),ρ x=a->ρ y=b->(∀w,(eqGuard op t x y a b).run P w= .ok () w)->(∀w r,(Op.equal t a b).run P w= .ok r w->(binOp op t a b).run P w= .ok (.bool (wS op r)) w)->
   tg P C t a b (λr=>K (.bool (wS op r)))->QV P C ⟨dst,.binOp op t x y u,type,db,after,guard⟩ ρ K∨A:=by
   intro a b ha L V hr J;obtain⟨r,J,hk⟩:=J.ex;refine acE ⟨_,λw hw=>?_,hk⟩;rw[ha,L];simp only[Sem.run_bind,V,Result.andThen_ok];exact hr w r (J w hw)
  split at h
  ·rename_i k a R b hx hy;split at h
   ·rename_i hk;have hk:=Cu hk;subst hk;have q:=bJ (P:=P) (C:=C) (t:=t) (x:=x) (y:=y) h;grind
   ·split at h
    ·exact aap
    ·exact aap
    grind
  ·rename_i a b hx hy;split at h
   ·exact mC
   ·exact mC
   grind
  ·rename_i a b hx hy;split at h
   ·exact mC
   ·exact mC
   grind
  ·rename_i a b c a' b' c' hx hy;split at h
   ·exact mC
   ·exact mC
   grind
  ·exact acE h.ex
 case call c=>
  split at h
  ·rename_i hc;split at h
   ·rename_i t x H m;have U9:c.argTypes= #[t]:=by rw[<-gz (xs:=c.argTypes),H]
    have E:c.args= #[x]:=by rw[<-gz (xs:=c.args),m]
    have hl:∀w,(execOp ρ ⟨dst,.call c,type,db,after,guard⟩).run P w=((Builtin.len_ c.argTypes type #[ρ x]).run P w).andThen λv w'=> .ok (.value v) w':=λw=>by simp[execOp,resolve,hc,E,invoke,builtin]
    split at h
    ·rename_i e i a n cap ht hx;exact aan
    ·rename_i i s ht hx;exact aan
    ·rename_i n e i v ht;exact RC _ hl ⟨_,λw _=>by simp[Builtin.len_,U9,J' hT ht,goInt],h⟩
    ·exact RC _ hl h.ex
   grind
  ·rename_i hc;split at h
   ·rename_i t x H m;have U9:c.argTypes= #[t]:=by rw[<-gz (xs:=c.argTypes),H]
    have E:c.args= #[x]:=by rw[<-gz (xs:=c.args),m]
    split at h
    ·rename_i e i a n cap ht hx;exact C0 _ (λw=>by simp[execOp,resolve,hc,E,invoke,builtin,Builtin.cap_,U9,J' hT ht,hx,goInt]) h
    grind
   grind
  ·rename_i hc;split at h
   ·rename_i x y m;have E:c.args= #[x,y]:=by rw[<-gz (xs:=c.args),m]
    split at h
    ·simp_all[execOp,resolve,invoke,builtin,Builtin.max_,Builtin.max2]
    grind
   grind
  ·rename_i hc;split at h
   ·rename_i x y m;have E:c.args= #[x,y]:=by rw[<-gz (xs:=c.args),m]
    split at h
    ·simp_all[execOp,resolve,invoke,builtin,Builtin.min_,Builtin.min2]
    grind
   grind
  grind
 all_goals exact .inr h
end
section
variable{P:Program}{T:Wm}
theorem jy(l:List Value):∀(n i:Nat),((List.replicate n l).flatten)[i]?=if i<n*l.length then l[i%l.length]? else none
 |0,i=>Zb3
 |n+1,i=>by
  rw[Bz,List.flatten_cons,List.getElem?_append,jy l n (i-l.length)];have e:(n+1)*l.length=n*l.length+l.length:=Nat.succ_mul _ _;by_cases h:i<l.length
  ·rw[S1 h,S1 m4,Sk h]
  ·rw[V0 h];by_cases a:i-l.length<n*l.length
   ·rw[S1 a,S1 m4];simp_all[Nat.mod_eq_sub_mod]
   grind
theorem sF(g:N8 P T X){PQ:Y5}(h:vW P T X o ρ w K PQ)(V:SJ o ρ=true):nm P K PQ ((execOp ρ o).run P w):=by
 obtain⟨dst,op,type,db,after,guard⟩:=o;have b:A4 P ⟨dst,op,type,db,after,guard⟩ ρ w K PQ->nm P K PQ ((execOp ρ ⟨dst,op,type,db,after,guard⟩).run P w):=λh=>h.up;unfold vW at h;cases op<;>simp only at h
 case store t x y=>
  split at h
  ·rename_i s hs;split at h
   ·rename_i a M;obtain⟨l,w',Y,Z⟩:=h.ex;simp only[execOp,Instr.storeAt,M,Instr.sureAddr,storeVar,Sem.run_bind,Sem.run_pure,Result.andThen_ok,Pa g hs];simp_all[nm]
   ·exact b h
  ·exact b h
 case alloc t=>
  split at h
  ·rename_i d i m;split at h
   ·rename_i z l;have hzv:(zeroValue t).run P w= .ok z w:=by simp[zeroValue,vi g m,l]
    simp only[execOp,Instr.alloc,Sem.run_bind,hzv,Result.andThen_ok,newVar,newRow,run_newObj_alloc,Sem.run_pure,nm];exact h.ex
   ·exact b h
  ·exact b h
 case box t x=>simp only[execOp,Instr.box,Sem.run_bind,Result.andThen_ok,newVar,newRow,run_newObj_alloc,Sem.run_pure,nm];exact h.ex
 case buildSlice t n A0=>
  split at h
  ·rename_i e i m;split at h
   ·rename_i d j v;split at h
    ·rename_i z l r;split at h
     ·rename_i cs q H;have F:Rb T e=some j.size:=by unfold Rb;rw[v]
      have G:(A0.map λ(p:Nat×Operand)=>(p.1,ρ p.2)).toList=A0.toList.map λp=>(p.1,ρ p.2):=Zb3
      have hzv:(zeroValue e).run P w= .ok z w:=by simp[zeroValue,vi g v,l]
      have Qd:=zv r;have u:=xL H;rw[xE]at u;have N:=bw _ _ _ _ q;rw[<-G]at N;have R:∀c,(newRow e c).run P w= .ok ⟨w.heap.size,0,none⟩ (w.alloc (.cells c e)):=λc=>by simp only[newRow,Sem.run_bind,run_newObj_alloc,Result.andThen_ok,Sem.run_pure]
      have E:∀k:Array Value,(n*j.size=0∨k=z.cells)->(Array.range (n*j.size)).map (λi=>k[i%k.size]!)=((List.replicate n z.cells.toList).flatten).toArray:=by
       intro k hzc;apply uE;intro i;have C:=jy z.cells.toList n i;rw[xE,u]at C;have hrt:((List.replicate n z.cells.toList).flatten.toArray)[i]?=(List.replicate n z.cells.toList).flatten[i]?:=Zb3
       rw[hrt,C,Array.getElem?_map];by_cases J:i<n*j.size
       ·rw[S1 J];rcases hzc with h0|rfl
        ·omega
        ·have Q:0<j.size:=by
          rcases eL j.size with h0|h0
          ·simp_all
          ·exact h0
         have S:i%j.size<z.cells.size:=by rw[u];exact kE _ Q
         simp_all
       ·simp[*]
      simp only[execOp,Instr.buildSlice,Sem.run_bind,J' g m,Result.andThen_ok,Pa g F];rw[V0 m4];by_cases h0:n*j.size=0
      ·simp only[h0,if_true,Sem.run_bind,Sem.run_pure,Result.andThen_ok];have:=E #[] (.inl h0);grind[Sem.run_bind,Result.andThen_ok,Sem.run_pure,nm,PP.ex]
      ·simp only[h0,if_false,Sem.run_bind,Sem.run_pure,hzv,Result.andThen_ok];have:=E z.cells (.inr O);grind[Sem.run_bind,Result.andThen_ok,Sem.run_pure,nm,PP.ex]
     ·exact b h
    ·exact b h
   ·exact b h
  ·exact b h
 case call c=>
  split at h
  ·rename_i f L;split at h
   ·rename_i f first D q
    cases A:X f with
    |true=>
     have r:=g.body f A;have e2:first++c.args.map ρ++D=(first.toList++c.args.toList.map ρ++D.toList).toArray:=by rw[aeJ];simp
     simp only[execOp,resolve,L,q,Deferred.ofValue,Sem.run_bind,Sem.run_pure,Result.andThen_ok,invoke,r,nm];grind[od.ex]
    |false=>exact b (h.ex.2 A)
   ·simp_all[SJ]
   ·exact b h
  ·exact b h
 all_goals exact b h
theorem TN(e:N8 P T X){PQ:Y5}(h:vW P T X o ρ w K PQ):Av P K PQ ((execOp ρ o).run P w)∧∀c,o.op≠.defer c:=by
 refine⟨?_,λc b=>?_⟩
 ·cases a:SJ o ρ with
  |true=>exact(sF e h a).y
  |false=>
   unfold SJ at a;split at a
   ·rename_i c hop;split at a
    ·rename_i f b;split at a
     ·rename_i l first i d
      unfold vW at h;simp only[hop,b,d]at h;have g:first++c.args.map ρ=(first.toList++c.args.toList.map ρ).toArray:=by rw[aeJ];simp
      grind[qV.up,execOp,resolve,Deferred.ofValue,invoke]
     ·cases a
    ·cases a
   ·cases a
 simp_all[vW]
theorem vA(c:N8 P T X){PQ:Y5}(h:vOp P T X o ρ w K PQ)(d:SJ o ρ=true):nm P K PQ ((execOp ρ o).run P w):=by
 rcases yw c h with⟨v,a,b⟩|h
 ·rw[a w O];exact b
 grind[sF]
theorem aJ(e:N8 P T X){PQ:Y5}(h:vOp P T X o ρ w K PQ):Av P K PQ ((execOp ρ o).run P w)∧∀c,o.op≠.defer c:=by
 rcases yw e h with⟨v,a,f⟩|h
 ·refine⟨?_,λc b=>?_⟩
  ·rw[a w O];exact f
  ·have:=a w O;obtain⟨dst,op,type,db,after,guard⟩:=o;simp only at b;subst b;simp only[execOp,Sem.run_bind]at this;cases g:(resolve ρ c type).run P w with
   |ok d w'=>simp_all
   |halt x w'=>simp_all
 ·exact TN e h
end
def ol(n:Nat)(a:Act)(e:td):Prop:=a.tmps.size=n∧∀t,a.tmps.getD t undef=e t
theorem ol.eval{e:td}(h:ol n a e):a.eval=ev e:=by funext x;cases x<;>first|rfl|exact h.2 _
theorem ol.put{e:td}(h:ol n a e)(c:∀k,d=some k->k<n)(v:Value):ol n (a.put d v) (zl e d v):=by
 cases d with
 |none=>exact h
 |some k=>
  have g:=c k O;refine⟨by simp[Act.put,h.1],λt=>?_⟩;have f:=h.2 t;have i:=h.1;by_cases b:t=k
  ·simp_all[Act.put,zl,vF]
  ·simp only[Act.put,zl,wA _ _ b];rw[<-f];have hkt:k≠t:=λe=>b e.symm;simp_all
theorem Nd(h:a.defers=ds):(a.put d v).defers=ds:=by cases d<;>exact h
theorem ol.FQ{e:td}(h:ol n a e)(d:Nat)(v:Value)(c:e d=v):ol n a (Tm e d v):=by
 refine⟨h.1,λt=>?_⟩;by_cases b:t=d
 ·subst b;rw[vF,h.2,c]
 ·rw[wA _ _ b,h.2]
abbrev Hh:=Exit->td->World->Prop
def QA(ds:List Deferred)(n:Nat)(Q:Hh):Exit->Act->World->Prop
 | .panic c,a,w=>a.defers=ds∧∀e,Q (.panic c) e w
 | .outgrown,_,_=>False
 |x,a,w=>a.defers=ds∧∃e,ol n a e∧Q x e w
def pq(Q:Hh):Y5:=λch w=>∀e,Q (.panic ch) e w
section
variable{P:Program}{T:Wm}
theorem NL{PQ:Y5}{Q:Exit->Act->World->Prop}(h:nm P K PQ r)
 (c:∀v w,K v w->next (a.put o.dst v) w)(b:∀ch w,PQ ch w->Q (.panic ch) a w):o.upon P a next Q r:=by
 cases r with
 |ok n w'=>cases n<;>simp only[nm,Oper.upon]at h⊢<;>grind[Calls.mono,Rows.mono]
 |halt x w'=>cases x<;>simp only[nm,Oper.upon]at h⊢<;>first|grind|exact h.elim
theorem kF(h:yOk o ρ A):SJ o ρ=true∧A:=by unfold yOk at h<;>grind
theorem bm(h:zy n d A):(∀k,d=some k->k<n)∧A:=by
 cases d with
 |none=>exact⟨λk a=>(by cases a),h⟩
 |some k=>grind[zy,Nat.blt,Nat.le_of_ble_eq_true]
def og(D:Ns)(e:td):Prop:=∀d c,D d=some c->e d= .bool c
theorem og.zero(e:td):og d0 e:=λ_ _ h=>(by cases h)
theorem og.set{D:Ns}{e:td}(h:og D e)(d:Nat)(c:Bool):og (tP D d c) (Tm e d (.bool c)):=by
 intro k x a;unfold tP at a;unfold Tm;cases b:Nat.beq k d with
 |true=>simp_all
 |false=>rw[b]at a;exact h k x a
theorem og.JV{D:Ns}{e:td}(h:og D e)(d:Option Nat)(v:Value):og (Wo D d) (zl e d v):=by
 cases d with
 |none=>exact h
 |some d=>
  intro k x a;unfold Wo at a;unfold zl Tm;simp only at a⊢;cases b:Nat.beq k d with
  |true=>simp_all
  |false=>rw[b]at a;exact h k x a
theorem fj{all:List Oper}{D:Ns}{e:td}{u skip:Ns->td->Prop}(hs:ol n a e)(t:og D e)(h:yl all o D e u skip):
 ∃D' k,ol n a k∧og D' k∧((Region.wanted o (yielded all.toArray a.tmps)=true∧u D' k)∨(Region.wanted o (yielded all.toArray a.tmps)=false∧skip D' k)):=by
 unfold yl at h;unfold Region.wanted;cases w:o.guard with
 |none=>grind
 |some q=>
  obtain⟨j,b⟩:=q;rw[w]at h;simp only at h⊢;cases i:i3 all j with
  |none=>simp_all
  |some l=>
   rw[i]at h;simp only at h;cases m:l.dst with
   |none=>simp_all
   |some d=>
    rw[m]at h;simp only at h;have r:∀c,e d= .bool c->yielded all.toArray a.tmps j=some c:=by
     intro c f;have p:all.toArray[j]?=some l:=by rw[Z0]at i;simpa using i
     have g:=hs.2 d;rw[f]at g;have x:a.tmps[d]?=some (.bool c):=by
      rw[NE]at g;cases s:a.tmps[d]? with
      |none=>rw[s]at g;cases g
      |some v=>simp_all
     unfold yielded;rw[p];simp only[Option.bind_some,m,x]
    cases f:D d with
    |some c=>rw[f]at h;rw[r c (t d c f)];grind
    |none=>
     rw[f]at h;simp only at h;split at h
     ·rename_i c f;rw[r c f];have adU:ol n a (Tm e d (.bool c)):=hs.FQ d _ f;refine⟨_,_,adU,t.set d c,?_⟩;cases c
      ·have h:=h.ex.2 O;grind
      ·have h:=h.ex.1 O;grind
     ·rename_i y f;have z:yielded all.toArray a.tmps j=none:=by
       have p:all.toArray[j]?=some l:=by rw[Z0]at i;simpa using i
       have g:=hs.2 d;rw[f,NE]at g;unfold yielded;rw[p];simp only[Option.bind_some,m];cases s:a.tmps[d]? with
       |none=>rfl
       |some v=>simp_all
      grind
     grind
theorem UN{all:List Oper}{K:td->World->Prop}{PQ:Y5}{V5:List Oper}{D:Ns}{e:td}(h:uF P T X n all K PQ (o::V5) D e w):
 (∀k,o.dst=some k->k<n)∧yl all o D e (λD e=>vOp P T X o (ev e) w (λv w'=>uF P T X n all K PQ V5 (Wo D o.dst) (zl e o.dst v) w') PQ) (λD e=>uF P T X n all K PQ V5 (Wo D o.dst) (zl e o.dst undef) w):=by
 obtain⟨b,a⟩:=bm (A:=yl all o D e (λD e=>vOp P T X o (ev e) w (λv w'=>uF P T X n all K PQ V5 (Wo D o.dst) (zl e o.dst v) w') PQ) (λD e=>uF P T X n all K PQ V5 (Wo D o.dst) (zl e o.dst undef) w)) h<;>grind
abbrev fw(ro:Option Nat):Fence:={fn:=λ_=>True,depth:=none,alive:=false,round:=ro}
theorem WN{PQ:Y5}{Q:Exit->Act->World->Prop}(h:Av P K PQ r)
 (i:∀v w,K v w->next (a.put o.dst v) w)(k:∀ch w,PQ ch w->Q (.panic ch) a w):o.uponIn (fw ro) 0 P a next Q r:=by
 cases r with
 |ok n w'=>
  cases n<;>simp only[Av,nm,Oper.uponIn]at h⊢
  case value v=>grind
  case skip=>grind
  case enter f args=>
   refine⟨λe=>(by cases e),?_⟩;have d:Calls P f args w' λ
    | .returned v,b=>next (a.put o.dst v) b
    | .panicked chain,b=>Q (.panic chain) a b
    | .outgrown,_=>LetsOut Q:=Calls.mono h λe b j=>by
    grind
   exact(callsIn_wide (n:=0)).2 d
  case row row args=>refine⟨λe=>(by cases e),?_⟩;intro c cs _;obtain⟨v,b,g,hs⟩:=h c cs;exact⟨v,b,i _ _ g,stepsIn_wide.2 hs⟩
  case round l f tmps assign body=>
   refine⟨λe=>(by cases e),?_⟩;have d:RoundIn Fence.wide 0 P l f tmps assign body w' λ
    | .returned v,b=>next (a.put o.dst v) b
    | .panicked chain,b=>Q (.panic chain) a b
    | .outgrown,_=>LetsOut Q:=RoundIn.mono h λe b j=>by
    grind
   exact d
 |halt x w'=>cases x<;>simp only[Av,nm,Oper.uponIn]at h⊢<;>first|grind|exact h.elim
theorem xl(c:N8 P T X){ro:Option Nat}{ds:List Deferred}{n:Nat}{all:List Oper}{Q:Hh}{K:td->World->Prop}(d:∀e w,K e w->Q .normal e w):∀(l:List Oper)(D:Ns)(e:td)(w:World)(a:Act),ol n a e->og D e->a.defers=ds->
 uF P T X n all K (pq Q) l D e w->wpListIn (fw ro) 0 P all.toArray (QA ds n Q) l a w
 |[],D,e,w,a,hs,_,b,h=>⟨b,e,hs,d _ _ h⟩
 |o::V5,D,e,w,a,hs,r,b,h=>by
  obtain⟨i,s⟩:=UN h;obtain⟨D',u,Mh,f,⟨g,k⟩|⟨g,t⟩⟩:=fj hs r s
  ·unfold wpListIn;rw[S1 g];unfold Oper.wpIn;refine⟨λ_ _=>trivial,?_⟩;obtain⟨m,j⟩:=aJ c k;rw[Oper.semAt_eq (fw ro).round _ _ j,Mh.eval];refine WN m (λv w' q=>?_) (λch w' p=>⟨b,p⟩);exact xl c d V5 _ _ w' _ (Mh.put i v) (f.JV _ _) (Nd b) q
  ·unfold wpListIn;rw[V0 Zb6];exact⟨λ_ _=>trivial,xl c d V5 _ _ w _ (Mh.put i undef) (f.JV _ _) (Nd b) t⟩
end
structure ja(P:Program)(n:Nat)(id:Nat)(S6:Array Oper)(e:td)(w:World)(Q:Hh):Prop where
 wp:∀(ro:Option Nat)ds a,ol n a e->a.defers=ds->(Code.region id S6 true).wpIn (fw ro) 0 P (QA ds n Q) a w
structure p5(P:Program)(n:Nat)(body:Code)(e:td)(w:World)(Q:Hh):Prop where
 wp:∀ds a,ol n a e->a.defers=ds->(Code.loop body).wp P (QA ds n Q) a w
def MQ(f:td->World->Prop)(Q:Hh):Hh
 | .normal,e,w=>f e w
 | .exit i,e,w=>Q (.exit i) e w
 | .goto l,e,w=>Q (.goto l) e w
 | .ret,e,w=>Q .ret e w
 | .panic c,e,w=>Q (.panic c) e w
 | .outgrown,_,_=>False
def ako(id:Nat)(Q:Hh):Hh
 | .exit i,e,w=>match Nat.beq i id with
  |true=>Q .normal e w
  |false=>Q (.exit i) e w
 | .normal,e,w=>Q .normal e w
 | .goto l,e,w=>Q (.goto l) e w
 | .ret,e,w=>Q .ret e w
 | .panic c,e,w=>Q (.panic c) e w
 | .outgrown,_,_=>False
def alv(Q:Hh):Hh
 | .goto _,_,_=>False
 | .normal,e,w=>Q .normal e w
 | .exit i,e,w=>Q (.exit i) e w
 | .ret,e,w=>Q .ret e w
 | .panic c,e,w=>Q (.panic c) e w
 | .outgrown,_,_=>False
section
variable(P:Program)(T:Wm)(X:Nat->Bool)(n:Nat)
noncomputable def vc(c:Code):td->World->Hh->Prop:=
 Code.rec (motive:=λ_=>td->World->Hh->Prop)
  (λe w Q=>Q .normal e w)
  (λid S6 d e w Q=>match d with
   |false=>uF P T X n S6.toList (λe w=>Q .normal e w) (pq Q) S6.toList d0 e w
   |true=>ja P n id S6 e w Q)
  (λ_ _ iha ihb e w Q=>iha e w (MQ (λe w=>ihb e w Q) Q))
  (λc _ _ iha ihb e w Q=>match ev e c with
   | .bool t=>BR t (iha e w Q) (ihb e w Q)
   |_=>False)
  (λid _ a e w Q=>a e w (ako id Q))
  (λb _ e w Q=>p5 P n b e w Q)
  (λ_ _ _ _ _ _ _ _ _=>False)
  (λid e w Q=>Q (.exit id) e w)
  (λ_ a e w Q=>a e w (alv Q))
  (λ_ e w Q=>Q .normal e w)
  (λl e w Q=>Q (.goto l) e w)
  (λe w Q=>Q .ret e w)
  (λ_ _ _ _=>False) c
end
section
variable{P:Program}{T:Wm}
def yc:Code->Bool
 | .skip| .exit _| .label _| .goto _| .ret=>true
 | .region _ _ _=>true
 | .seq a b=>yc a&&yc b
 | .cond _ a b=>yc a&&yc b
 | .block _ b=>yc b
 |_=>false
theorem Jp(D:N8 P T X):∀(c:Code)(e:td)(w:World)(Q:Hh)(a:Act),(ro=none∨yc c=true)->ol n a e->a.defers=ds->vc P T X n c e w Q->c.wpIn (fw ro) 0 P (QA ds n Q) a w:=by
 intro c;induction c with
 |skip=>intro e w Q a _ hs d h;exact wpIn_skip ⟨d,e,hs,h⟩
 |region id S6 E=>
  intro e w Q a j hs d h;cases E with
  |false=>exact wpIn_region_list (xl D (K:=λe w=>Q .normal e w) (λ_ _ h=>h) _ _ e w a hs (og.zero e) d h)
  |true=>exact h.wp ro ds a hs d
 |seq x y u v=>
  intro e w Q a j hs d h;have C:ro=none∨yc x=true:=j.imp_right λh=>(Cd _ _▸h:yc x=true∧yc y=true).1;have z:ro=none∨yc y=true:=j.imp_right λh=>(Cd _ _▸h:yc x=true∧yc y=true).2;refine wpIn_seq (wpIn_mono (u e w _ a C hs d h) ?_);intro ex r w' g;cases ex with
  |normal=>obtain⟨o,m,Mh,k⟩:=g;exact v m w' Q r z Mh o k
  |exit i=>exact g
  |goto l=>exact g
  |ret=>exact g
  |panic c=>exact g
  |outgrown=>exact g.elim
 |cond c x y u v=>
  intro e w Q a j hs d h;have C:ro=none∨yc x=true:=j.imp_right λh=>(Cd _ _▸h:yc x=true∧yc y=true).1;have z:ro=none∨yc y=true:=j.imp_right λh=>(Cd _ _▸h:yc x=true∧yc y=true).2;replace h:(match ev e c with
   | .bool t=>BR t (vc P T X n x e w Q) (vc P T X n y e w Q)
   |_=>False):=h
  split at h
  ·rename_i t q;have:a.eval c= .bool t:=by rw[hs.eval];exact q
   refine wpIn_cond_split this (λq=>?_) λq=>?_
   ·grind[BR.ex]
   grind[BR.ex]
  grind
 |block id b p=>
  intro e w Q a j hs d h;refine wpIn_block (wpIn_mono (p e w _ a j hs d h) ?_);intro ex r w' g;cases ex with
  |normal=>exact g
  |exit i=>
   obtain⟨o,m,Mh,k⟩:=g;simp only[ako]at k;simp only[Exit.inBlock];by_cases A:i=id
   ·subst A;rw[S1 O];rw[show Nat.beq i i=true from Nat.beq_refl i]at k;exact⟨o,m,Mh,k⟩
   ·rw[V0 A];have:Nat.beq i id=false:=by
     cases F:Nat.beq i id with
     |true=>simp_all
     |false=>rfl
    rw[this]at k;exact⟨o,m,Mh,k⟩
  |goto l=>exact g
  |ret=>exact g
  |panic c=>exact g
  |outgrown=>exact g.elim
 |loop b _=>
  intro e w Q a j hs d h;rcases j with rfl|j
  ·exact wpIn_wide.2 (h.wp ds a hs d)
  ·cases j
 |rangeFunc f ps x y _ _=>intro e w Q a _ hs d h;exact h.elim
 |exit id=>intro e w Q a _ hs d h;exact wpIn_exit ⟨d,e,hs,h⟩
 |scope b p=>
  intro e w Q a j hs d h;rcases j with rfl|j
  ·refine wpIn_wide.2 (wp_scope_straight (wp_mono (wpIn_wide.1 (p e w _ a (.inl O) hs d h)) ?_));intro ex r w' g;cases ex with
   |normal=>exact g
   |exit i=>exact g
   |goto l=>obtain⟨_,m,_,k⟩:=g;exact k.elim
   |ret=>exact g
   |panic c=>exact g
   |outgrown=>exact g.elim
  ·cases j
 |label l=>intro e w Q a _ hs d h;exact wpIn_label ⟨d,e,hs,h⟩
 |goto l=>intro e w Q a _ hs d h;exact wpIn_goto ⟨d,e,hs,h⟩
 |ret=>intro e w Q a _ hs d h;exact wpIn_ret ⟨d,e,hs,h⟩
 |refuse s=>intro e w Q a _ hs d h;exact h.elim
theorem gn(d:N8 P T X)(c:Code)(e:td)(w:World)(Q:Hh)(a:Act)(hs:ol n a e)(b:a.defers=ds)(h:vc P T X n c e w Q):c.wp P (QA ds n Q) a w:=
 wpIn_wide.1 (Jp d (ro:=none) c e w Q a (.inl O) hs b h)
def DQ(C:World->Prop)(e:td)(r:ResultVar)(K:Value->Prop):Prop:=match r with
 | .tmp t=>K (e t)
 | .cell a t=>match T t with
  |some ⟨.struct _,i⟩=>match e a with
   | .pointer (some p)=>Oa C p i.size K
   |_=>False
  |some ⟨.array _ _,i⟩=>match e a with
   | .pointer (some p)=>Oa C p i.size K
   |_=>False
  |some _=>match e a with
   | .pointer (some p)=>LD C p K
   |_=>False
  |none=>False
def xw(T:Wm)(C:World->Prop)(e:td):List ResultVar->(List Value->Prop)->Prop
 |[],K=>K []
 |r::a,K=>DQ (T:=T) C e r λv=>xw T C e a λvs=>K (v::vs)
def vm:List Value->Value
 |[v]=>v
 |vs=> .tuple vs.toArray
def tO(tmps:Array Value)(r:ResultVar):Sem Value:=match r with
 | .tmp t=>pure (tmps.getD t undef)
 | .cell p t=>do loadVar t (<-asAddr (tmps.getD p undef))
theorem kD(fn:Func)(tmps:Array Value):results fn tmps=(do let vs<-fn.results.mapM (tO tmps);pure (if h:vs.size=1 then vs[0]else .tuple vs)):=by unfold results;congr
theorem tF(hT:N8 P T X){e:td}(hs:ol n a e){r:ResultVar}{K:Value->Prop}(h:DQ (T:=T) (λw'=>w'=w) e r K):
 ∃v,(tO a.tmps r).run P w= .ok v w∧K v:=by
 cases r with
 |tmp t=>exact⟨_,rfl,by rw[hs.2];exact h⟩
 |cell p t=>
  unfold DQ at h;simp only[tO]at h⊢;rw[hs.2 p];split at h
  ·rename_i f i ht;exact aaq
  ·rename_i m x i ht;exact aaq
  ·rename_i i n1 c ht;split at h
   ·rename_i q hq;obtain⟨v,hc,hk⟩:=h.ex;have b:Dh i.desc=false:=by exact pU
    exact⟨_,by simp[hq,asAddr,sm hT ht b (hc w O)],hk⟩
   grind
  grind
theorem ul(c:N8 P T X){e:td}{a:Act}(hs:ol n a e){w:World}:∀(b:List ResultVar)(K:List Value->Prop),xw T (λw'=>w'=w) e b K->
 ∃vs,(b.mapM (tO a.tmps)).run P w= .ok vs w∧K vs
 |[],K,h=>⟨[],Zb3,h⟩
 |r::b,K,h=>by unfold xw at h;obtain⟨v,g,d⟩:=tF c hs h;obtain⟨vs,i,f⟩:=ul c hs b _ d<;>simp_all
def lA(args:List Value):td:=λt=>match i3 args t with
 |some v=>v
 |none=>undef
def jN(T:Wm)(a:List ResultVar)(R:Ending->World->Prop):Hh
 | .normal,e,w=>xw T (λw'=>w'=w) e a λvs=>R (.returned (vm vs)) w
 | .ret,e,w=>xw T (λw'=>w'=w) e a λvs=>R (.returned (vm vs)) w
 | .panic c,_,w=>R (.panicked c) w
 |_,_,_=>False
theorem cW{args:List Value}(a:args.length<=fn.ntmps):ol fn.ntmps {tmps:=args.toArray++Array.replicate (fn.ntmps-args.toArray.size) undef,defers:=[]} (lA args):=by refine⟨Zb5,λt=>?_⟩;unfold lA;rw[Z0];rw[NE,Array.getElem?_append];grind
theorem Hl{tmps:Array Value}{vs:List Value}(b:(fn.results.toList.mapM (tO tmps)).run P w'= .ok vs w'):(results fn tmps).run P w'= .ok (vm vs) w':=by
 rw[kD];have a:(fn.results.mapM (tO tmps)).run P w'= .ok vs.toArray w':=by rw[<-gz (xs:=fn.results),List.mapM_toArray];simp only[Sem.run_map,b,Result.andThen_ok]
 simp only[Sem.run_bind,a,Result.andThen_ok,Sem.run_pure];congr 1
 match vs with
 |[]=>rfl
 |[v]=>rfl
 |u::v::r=>rfl
theorem Rn(j:N8 P T X){c:Code}{args:List Value}{R:Ending->World->Prop}(n:P.funcs[f]?=some fn)(o:fn.body=some c)
 (m:Nat.ble args.length fn.ntmps=true)(h:vc P T X fn.ntmps c (lA args) w (jN T fn.results.toList R)):Calls P f args.toArray w R:=by
 refine calls_of_wp n o ?_;have r:=zv m;refine wp_mono (gn j c _ w _ _ (cW r) O h) ?_;have k:∀(a:Act)(w':World)(e:td),a.defers=[]->ol fn.ntmps a e->(xw T (λs=>s=w') e fn.results.toList λvs=>R (.returned (vm vs)) w')->a.defers=[]∧∃v,(results fn a.tmps).run P w'= .ok v w'∧R (.returned v) w':=by intro a w' e g hs b;obtain⟨vs,t,p⟩:=ul j hs _ _ b;exact⟨g,vm vs,Hl t,p⟩
 intro q a w' d;cases q with
 |normal=>obtain⟨g,e,hs,b⟩:=d;exact k a w' e g hs b
 |ret=>obtain⟨g,e,hs,b⟩:=d;exact k a w' e g hs b
 |exit i=>obtain⟨_,_,_,b⟩:=d;exact b.elim
 |goto l=>obtain⟨_,_,_,b⟩:=d;exact b.elim
 |panic c=>exact⟨d.1,d.2 (λ_=>undef)⟩
 |outgrown=>exact d.elim
end
theorem Po(w:World)(o:Obj):(w.alloc o).heap[w.heap.size]?=some o:=by unfold World.alloc<;>grind
structure ua(D:Nat->Prop)(w w':World):Prop where
 size:w.heap.size<=w'.heap.size
 cG:∀b,b<w.heap.size->¬D b->w'.heap[b]?=w.heap[b]?
 os:w'.os=w.os
 tape:w'.tape=w.tape
 output:w'.output=w.output
 drawn:w.drawn<=w'.drawn
abbrev zI:Nat->Prop:=λ_=>False
section
variable{D D':Nat->Prop}{w1 w2:World}
theorem ua.refl:ua D w w:=⟨V7 _,λ_ _ _=>rfl,rfl,rfl,rfl,V7 _⟩
theorem ua.trans(h:ua D w w1)(k:ua D' w1 w2)(d:∀b,b<w.heap.size->D' b->D b):ua D w w2:=
 ⟨j9 h.size k.size,λb a c=>(k.cG b (iz a h.size) (λe=>c (d b a e))).trans (h.cG b a c),k.os.trans h.os,k.tape.trans h.tape,k.output.trans h.output,j9 h.drawn k.drawn⟩
theorem ua.UI(h:ua D w w1)(d:∀b,b<w.heap.size->D b->D' b):ua D' w w1:=⟨h.size,λb a c=>h.cG b a (λe=>c (d b a e)),h.os,h.tape,h.output,h.drawn⟩
theorem ua.alloc(h:ua D w w1)(o:Obj):ua D w (w1.alloc o):=
 h.trans (D':=zI) ⟨Zb3,λb a _=>Below.heap_alloc _ _ _ a,rfl,rfl,rfl,V7 _⟩ (λ_ _ e=>e.elim)
theorem ua.drew(h:ua D w w1):ua D w w1.drew:=⟨h.size,h.cG,h.os,h.tape,h.output,Nat.le_succ_of_le h.drawn⟩
structure VE(w:World)(b:Nat)(l:List Value)(t:TypeId):Prop where
 t8:w.heap[b]?=some (.cells l.toArray t (0,0))
structure Ob(w:World)(b:Nat)(o:Obj):Prop where
 t8:w.heap[b]?=some o
theorem VE.lt(h:VE w b l t):b<w.heap.size:=(vI.1 h.t8).1
theorem Ob.lt{o:Obj}(h:Ob w b o):b<w.heap.size:=(vI.1 h.t8).1
theorem Ob.Q6{o:Obj}(h:Ob w b o)(k:ua D w w1)(a:¬D b):Ob w1 b o:=⟨(k.cG b h.lt a).trans h.t8⟩
theorem VE.cell{k:Nat}(h:VE w b l t)(a:i3 l k=some v):w.cell? ⟨b,k,none⟩=some v:=by rw[Z0]at a;simp[World.cell?,h.t8,a]
end
theorem LD.Qm{k:Nat}{K:Value->Prop}(h:VE w b l t)(a:i3 l k=some v)(c:K v):LD (λw'=>w'=w) ⟨b,k,none⟩ K:=
 ⟨v,λ_ e=>e▸h.cell a,c⟩
def cut(l:List Value)(k:Nat):Nat->Option (List Value)
 |0=>some []
 |n+1=>match i3 l k with
  |some v=>match cut l (k+1) n with
   |some r=>some (v::r)
   |none=>none
  |none=>none
theorem Mr(l:List Value):∀(n k:Nat)(cs:List Value),cut l k n=some cs->cs.length=n∧∀i v,i3 cs i=some v->i3 l (k+i)=some v
 |0,k,cs,h=>by unfold cut at h;injection h with h;subst h;exact⟨rfl,λi v a=>by cases i<;>cases a⟩
 |n+1,k,cs,h=>by
  unfold cut at h;cases e:i3 l k with
  |none=>simp_all
  |some v=>
   rw[e]at h;simp only at h;cases b:cut l (k+1) n with
   |none=>simp_all
   |some r=>
    rw[b]at h;injection h with h;subst h;obtain⟨c,d⟩:=Mr l n (k+1) r b;refine⟨by simp[c],λi u a=>?_⟩;cases i with
    |zero=>simp_all[i3]
    |succ i=>have:=d i u a;grind
theorem Oa.Qm{k:Nat}{cs:List Value}{K:Value->Prop}(h:VE w b l t)(a:cut l k n=some cs)(c:K (.agg cs.toArray)):Oa (λw'=>w'=w) ⟨b,k,none⟩ n K:=by obtain⟨g,f⟩:=Mr l n k cs a;refine⟨cs,g,λ_ e i v d=>?_,c⟩;subst e;have j:=h.cell (f i v d);unfold Addr.add<;>grind
theorem od.by{P:Program}{args:Array Value}{PQ:Y5}{R:Ending->World->Prop}(b:X f=true)(h:Calls P f args w R)
 (a:∀e w',R e w'->match e with
  | .returned v=>K v w'
  | .panicked ch=>PQ ch w'
  | .outgrown=>False):od P f args w K PQ X o ρ:=⟨λ_=>h.mono a,λe=>Zb7⟩
theorem od.zJ{P:Program}{args:Array Value}{PQ:Y5}(a:X f=false)(h:A4 P o ρ w K PQ):od P f args w K PQ X o ρ:=⟨λe=>Zb7,λ_=>h⟩
theorem WR.vp{k:IntKind}{z:Int}{K:Value->Prop}(h:k.wrap z=z)(a:K (.int k z)):WR k z K:=⟨Zb1⟩
theorem Ug{z:Int}(h: -9223372036854775808<=z∧z<=9223372036854775807):IntKind.i64.wrap z=z:=IntWalk.i64_in _ h
inductive Ov where
 |done
 |q (i:Nat) (p:Ov)
 |w1 (i:Nat) (p:Ov)
 |w2 (i:Nat) (p:Ov) (j:Nat) (r:Ov)
 |w3 (i:Nat) (p:Ov) (j:Nat) (r:Ov) (k:Nat) (s:Ov)
 |v1 (i:Nat) (p:Ov)
 |v2 (i:Nat) (p:Ov) (j:Nat) (r:Ov)
def qs:List Nat->Ov->Ov
 |[],p=>p
 |i::l,p=> .q i (qs l p)
def ws:List Nat->Ov->Ov
 |[],p=>p
 |i::l,p=> .w1 i (ws l p)
def vs:List Nat->Ov->Ov
 |[],p=>p
 |i::l,p=> .v1 i (vs l p)
def lkO(o:Oper):Bool:=match o.op with
 | .load .. | .lookup .. =>true
 | .call _=>true
 |_=>false
def JK(o:Oper)(S:World->Prop):World->Prop:=match lkO o with
 |true=>S
 |false=>λ_=>True
section
variable(P:Program)(T:Wm)(X:Nat->Bool)(n:Nat)(S:World->Prop)(S6:List Oper)
def mY(i:Nat)(D:Ns)(e:td)(w:World)(PQ:Y5)(K:Ns->td->World->Prop):Prop:=match i3 S6 i with
 |some o=>zy n o.dst<|yl S6 o D e (λD e=>yOk o (ev e) (vOp P T X o (ev e) w (λv w'=>S w'∧K (Wo D o.dst) (zl e o.dst v) w') PQ)) (λD e=>S w∧K (Wo D o.dst) (zl e o.dst undef) w)
 |none=>False
def EQ(i:Nat)(D:Ns)(e:td)(w:World)(PQ:Y5)(K:Ns->td->World->Prop):Prop:=match i3 S6 i with
 |some o=>zy n o.dst<|yl S6 o D e (λD e=>yOk o (ev e) (vOp P T X o (ev e) w (λv w'=>K (Wo D o.dst) (zl e o.dst v) w') PQ)) (λD e=>K (Wo D o.dst) (zl e o.dst undef) w)
 |none=>False
noncomputable def vD(K:td->World->Prop)(PQ:Y5)(p:Ov):Ns->td->World->Prop:=
 Ov.rec (motive:=λ_=>Ns->td->World->Prop) (λ_ e w=>K e w)
  (λi _ a D e w=>match i3 S6 i with
   |some o=>zy n o.dst (yl S6 o D e (λD e=>vQ P T (JK o S) o (ev e) (λv=>a (Wo D o.dst) (zl e o.dst v) w) False) (λD e=>a (Wo D o.dst) (zl e o.dst undef) w))
   |none=>False)
  (λi _ a D e w=>mY P T X n S S6 i D e w PQ a)
  (λi _ j _ a ihr D e w=>mY P T X n S S6 i D e w PQ a∧mY P T X n S S6 j D e w PQ ihr)
  (λi _ j _ k _ a ihr ihs D e w=>mY P T X n S S6 i D e w PQ a∧mY P T X n S S6 j D e w PQ ihr∧mY P T X n S S6 k D e w PQ ihs)
  (λi _ a D e w=>EQ P T X n S6 i D e w PQ a)
  (λi _ j _ a ihr D e w=>EQ P T X n S6 i D e w PQ a∧EQ P T X n S6 j D e w PQ ihr) p
end
theorem DK(a:Act)(d:Option Nat)(v:Value):(a.put d v).defers=a.defers:=by cases d<;>rfl
def NP(S6:Array Oper):Nat->Nat->Nat->Bool
 |0,_,_=>false
 |f+1,i,j=>match S6[j]? with
  |some o=>o.after.any λe=>Region.binds .any e&&(e.on==i||NP S6 f i e.on)
  |none=>false
def Pd(S6:Array Oper)(a:List Nat)(j:Nat):List Nat:=a.filter λi=>!NP S6 S6.size i j
def mb(S6:Array Oper):Ov->Nat->Array Bool->List Nat->Bool->Bool
 | .done,_,O3,_,_=>(Region.ready .any S6 O3).isEmpty
 | .q i p,a+1,O3,b,ok=>match S6[i]? with
  |some o=>(Region.ready .any S6 O3).contains i&&Region.free .any S6 O3 i&&match lkO o with
   |true=>ok&&mb S6 p a (O3.setIfInBounds i true) (i::b) ok
   |false=>mb S6 p a (O3.setIfInBounds i true) b ok
  |none=>false
 | .w1 i p,a+1,O3,b,_=>Region.ready .any S6 O3==[i]&&mb S6 p a (O3.setIfInBounds i true) (Pd S6 b i) true
 | .w2 i p j r,a+1,O3,b,_=>Region.ready .any S6 O3==[i,j]&&mb S6 p a (O3.setIfInBounds i true) (Pd S6 b i) true&&mb S6 r a (O3.setIfInBounds j true) (Pd S6 b j) true
 | .w3 i p j r k s,a+1,O3,b,_=>Region.ready .any S6 O3==[i,j,k]&&mb S6 p a (O3.setIfInBounds i true) (Pd S6 b i) true&&mb S6 r a (O3.setIfInBounds j true) (Pd S6 b j) true&&mb S6 s a (O3.setIfInBounds k true) (Pd S6 b k) true
 | .v1 i p,a+1,O3,b,_=>Region.ready .any S6 O3==[i]&&(Pd S6 b i).isEmpty&&mb S6 p a (O3.setIfInBounds i true) [] false
 | .v2 i p j r,a+1,O3,b,_=>Region.ready .any S6 O3==[i,j]&&(Pd S6 b i).isEmpty&&(Pd S6 b j).isEmpty&&mb S6 p a (O3.setIfInBounds i true) [] false&&mb S6 r a (O3.setIfInBounds j true) [] false
 |_,0,_,_,_=>false
section
variable{P:Program}{Q:Exit->Act->World->Prop}{S:World->Prop}
def Ah(P:Program)(S6:Array Oper)(Q:Exit->Act->World->Prop)(S:World->Prop):Nat->Array Bool->List Nat->Act->World->Prop
 |0,O3,_,a,w=>Region.ready .any S6 O3=[]∧Q .normal a w
 |d+1,O3,b,a,w=>
  (Region.ready .any S6 O3=[]->Q .normal a w)∧
  ∀i∈Region.ready .any S6 O3,wpOp P S6 Q i (λc w'=>(Pd S6 b i≠[]->S w')∧Ah P S6 Q S d (O3.setIfInBounds i true) (Pd S6 b i) c w') a w
theorem lw:∀(b:Nat)(O3:Array Bool)(f:List Nat)(a:Act)(w:World),Ah P S6 Q S b O3 f a w->wpAny P .any S6 Q b O3 a w
 |0,_,_,_,_,h=>h
 |b+1,_,_,_,_,h=>⟨h.1,λi c=>wpOp_mono (λe w' d=>lw b _ _ e w' d.2) (h.2 i c)⟩
theorem fB{p q:List Nat}(h:∀x∈p,x∈q)(j:Nat):∀x∈Pd S6 p j,x∈Pd S6 q j:=by simp_all[Pd]
theorem qu:∀(b:Nat)(O3:Array Bool)(p q:List Nat)(a:Act)(w:World),(∀x∈p,x∈q)->Ah P S6 Q S b O3 q a w->Ah P S6 Q S b O3 p a w
 |0,_,_,_,_,_,_,h=>h
 |b+1,_,p,q,_,_,hs,h=>⟨h.1,λi f=>wpOp_mono (λg w' d=>⟨λj=>d.1 (λe=>by
  cases c:Pd S6 p i with
  |nil=>exact j c
  |cons x l=>have:=fB hs i x (by rw[c];simp);simp_all),qu b _ _ _ g w' (fB hs i) d.2⟩) (h.2 i f)⟩
def DC(S6:Array Oper)(O3:Array Bool):Prop:=∀k o,S6[k]?=some o->O3.getD k false=true->∀e∈o.after,Region.binds .any e=true->O3.getD e.on false=true
theorem lU{O3:Array Bool}{i:Nat}(a:DC S6 O3)(d:O3.getD i true=false):∀(f k:Nat),O3.getD k false=true->NP S6 f i k=false
 |0,_,_=>rfl
 |f+1,k,c=>by
  unfold NP;cases b:S6[k]? with
  |none=>rfl
  |some o=>simp only;rw[Array.any_eq_false'];intro e g;simp only[Bool.and_eq_true,Bool.or_eq_true,beq_iff_eq,not_and,not_or];intro h;have j:=a k o b c e g h;refine⟨λl=>?_,by rw[lU a d f e.on j];simp⟩;grind
theorem MP{i j:Nat}(a:DC S6 O3)(d:O3.getD i true=false)(c:j∈Region.ready .any S6 O3)(f:Nat):NP S6 f i j=false:=by
 obtain⟨_,o,b,l⟩:=mem_ready.1 c;cases f with
 |zero=>rfl
 |succ f=>unfold NP;rw[b];simp only;rw[Array.any_eq_false'];intro e g;simp only[Bool.and_eq_true,Bool.or_eq_true,beq_iff_eq,not_and,not_or];intro h;have k:=l e g h;refine⟨λm=>?_,by rw[lU a d f e.on k];simp⟩;grind
theorem DC.set{j:Nat}(b:DC S6 O3)(d:j∈Region.ready .any S6 O3):DC S6 (O3.setIfInBounds j true):=by
 intro k o c a e f g;obtain⟨_,h,hoj,i⟩:=mem_ready.1 d;by_cases hkj:k=j
 ·grind[getD_set_true]
 ·rw[getD_set_ne false (Ne.symm hkj)]at a;exact getD_set_true (b k o c a e f g)
theorem Kq{i:Nat}{f:Oper}{Sx:World->Prop}{pi:List Nat}(D:S6[i]?=some f)(C:∀(j:Nat)(o:Oper)cs b,S6[j]?=some o->o.op≠.select cs b)
 (J:∀c a w,Q (.panic c) (a.put f.dst v) w->Q (.panic c) a w)(M:∀x∈pi,x=i)(hSx:∀w,(pi≠[]->S w)->Sx w):
 ∀(g:Nat)(O3:Array Bool)(d:List Nat)(a:Act)(w:World),DC S6 O3->
  (∀j l,S6[j]?=some l->j≠i->O3.getD j true=false->(∀e∈l.after,Region.binds .any e=true->e.on≠i)->f.apart S6 l=true)->
  i∈Region.ready .any S6 O3->YieldsIf P S6 Sx f v a->Sx w->(d≠[]->S w)->
  Ah P S6 Q S g (O3.setIfInBounds i true) (pi++d) (a.put f.dst v) w->Ah P S6 Q S (g+1) O3 d a w:=by
 have R:∀(g:Nat)(O3:Array Bool)(d:List Nat)(a:Act)(w:World),YieldsIf P S6 Sx f v a->Sx w->(d≠[]->S w)->Ah P S6 Q S g (O3.setIfInBounds i true) (pi++d) (a.put f.dst v) w->
  wpOp P S6 Q i (λy w'=>(Pd S6 d i≠[]->S w')∧Ah P S6 Q S g (O3.setIfInBounds i true) (Pd S6 d i) y w') a w:=by
  intro g O3 d a w q t s H;have adT:∀x∈Pd S6 d i,x∈d:=λx p=>(Aq.1 p).1;exact q.wpOp D t ⟨λm=>s (λe=>m (by rw[e];rfl)),qu _ _ _ _ _ _ (λx p=>pL _ (adT x p)) H⟩
 intro g;induction g with
 |zero=>
  intro O3 d a w _ _ r q t s H;refine⟨λh=>Zb7,λj n=>?_⟩;by_cases hji:j=i
  ·simp_all
  ·have:=ready_mono n hji;rw[H.1]at this;cases this
 |succ g F=>
  intro O3 d a w z A r q t s H;refine⟨λh=>Zb7,λj n=>?_⟩;by_cases hji:j=i
  ·simp_all
  ·have L:=H.2 j (ready_mono n hji);obtain⟨amg,l,hoj,X⟩:=mem_ready.1 n;have hun:=(mem_ready.1 r).1;have aef:∀e∈l.after,Region.binds .any e=true->e.on≠i:=λe T V heq=>Zb1
   have K:=wpOp_putIf hoj (A j l hoj hji amg aef) (λcs b=>C i f cs b D) (λcs b=>C j l cs b hoj) J q L;have aen:∀k ok,S6[k]?=some ok->k≠i->(O3.setIfInBounds j true).getD k true=false->
    (∀e∈ok.after,Region.binds .any e=true->e.on≠i)->f.apart S6 ok=true:=λk ok G hki hun E=>by
    refine A k ok G hki ?_ E;by_cases hjk:j=k
    ·simp_all
    simp_all
   have hpn:Pd S6 (pi++d) j=pi++Pd S6 d j:=by unfold Pd;rw[uv];congr 1;rw[zz];intro x p;rw[M x p,MP z hun n];rfl
   refine wpOp_mono (λy w' u=>?_) K;obtain⟨N,hS3,u⟩:=u;rw[hpn]at hS3 u;refine⟨λm=>hS3 (λe=>m (qL.1 e).2),F (O3.setIfInBounds j true) _ y w' (z.set n) aen (ready_mono r (Ne.symm hji)) N (hSx w' λm=>hS3 (λe=>m (qL.1 e).1)) (λm=>hS3 (λe=>m (qL.1 e).2)) ?_⟩;simp_all[Array.setIfInBounds_comm]
theorem ni{b:List Nat}{e:Nat}{c:List Nat}(d:Region.ready .any S6 O3=b)(g:b≠[])
 (h:∀i∈b,wpOp P S6 Q i (λf w'=>(Pd S6 c i≠[]->S w')∧Ah P S6 Q S e (O3.setIfInBounds i true) (Pd S6 c i) f w') a w):Ah P S6 Q S (e+1) O3 c a w:=
 ⟨λh0=>absurd (d▸h0) g,d▸h⟩
theorem mF{d:List Nat}(b:Region.ready .any S6 O3=[])(h:Q .normal a w):∀c,Ah P S6 Q S c O3 d a w
 |0=>⟨b,h⟩
 |_+1=>⟨λ_=>h,by rw[b];simp⟩
end
section
variable{P:Program}{T:Wm}{S:World->Prop}{S6:List Oper}
theorem qi(r:N8 P T X){i:Nat}{D:Ns}{e:td}{Q:Hh}{K:Ns->td->World->Prop}(hs:ol n a e)(s:og D e)(d:a.defers=ds)
 (h:mY P T X n S S6 i D e w (pq Q) K)(k:∀D e a w,ol n a e->og D e->a.defers=ds->S w->K D e w->next a w):wpOp P S6.toArray (QA ds n Q) i next a w:=by
 unfold mY at h;cases c:i3 S6 i with
 |none=>simp_all
 |some o=>
  rw[c]at h;obtain⟨l,t⟩:=bm h;have u:S6.toArray[i]?=some o:=by rw[Z0]at c;simpa using c
  unfold wpOp;simp only[u];obtain⟨D',x,Mh,f,⟨g,b⟩|⟨g,m⟩⟩:=fj hs s t
  ·rw[S1 g];left;unfold Oper.wp;rw[Mh.eval];obtain⟨p,b⟩:=kF b;exact NL (vA r b p) (λv w' j=>k _ _ _ _ (Mh.put l v) (f.JV _ _) (Nd d) j.1 j.2) (λch w' q=>⟨d,q⟩)
  ·rw[V0 Zb6];exact k _ _ _ _ (Mh.put l undef) (f.JV _ _) (Nd d) m.1 m.2
theorem Kp(q:N8 P T X){i:Nat}{D:Ns}{e:td}{Q:Hh}{K:Ns->td->World->Prop}(hs:ol n a e)(r:og D e)(d:a.defers=ds)
 (h:EQ P T X n S6 i D e w (pq Q) K)(j:∀D e a w,ol n a e->og D e->a.defers=ds->K D e w->next a w):wpOp P S6.toArray (QA ds n Q) i next a w:=by
 unfold EQ at h;cases c:i3 S6 i with
 |none=>simp_all
 |some o=>
  rw[c]at h;obtain⟨k,s⟩:=bm h;have t:S6.toArray[i]?=some o:=by rw[Z0]at c;simpa using c
  unfold wpOp;simp only[t];obtain⟨D',x,Mh,f,⟨g,b⟩|⟨g,u⟩⟩:=fj hs r s
  ·rw[S1 g];left;unfold Oper.wp;rw[Mh.eval];obtain⟨l,b⟩:=kF b;exact NL (vA q b l) (λv w' m=>j _ _ _ _ (Mh.put k v) (f.JV _ _) (Nd d) m) (λch w' p=>⟨d,p⟩)
  ·rw[V0 Zb6];exact j _ _ _ _ (Mh.put k undef) (f.JV _ _) (Nd d) u
theorem Jd(hT:N8 P T X){ds:List Deferred}{Q:Hh}(iq:Region.noSelect S6.toArray=true):∀(p:Ov)(P7:Nat)(O3:Array Bool)(f:List Nat)(ok:Bool)(D:Ns)(e:td)(w:World)(a:Act),mb S6.toArray p P7 O3 f ok=true->DC S6.toArray O3->ol n a e->og D e->a.defers=ds->(ok=true->S w)->(f≠[]->S w)->
 vD P T X n S S6 (λe w=>Q .normal e w) (pq Q) p D e w->Ah P S6.toArray (QA ds n Q) S P7 O3 f a w
 | .done,P7,O3,f,ok,D,e,w,a,b,_,hs,hD,hd,_,_,h=>by unfold mb at b;exact mF (tE.1 b) ⟨hd,e,hs,h⟩ P7
 | .q i p,0,_,_,_,_,_,_,_,b,_,_,_,_,_,_,_=>by cases b
 | .q i p,P7+1,O3,f,ok,D,e,w,a,b,vr,hs,hD,hd,u,y,h=>by
  unfold mb at b;replace h:(match i3 S6 i with
   |some o=>zy n o.dst (yl S6 o D e (λD e=>vQ P T (JK o S) o (ev e) (λv=>vD P T X n S S6 (λe w=>Q .normal e w) (pq Q) p (Wo D o.dst) (zl e o.dst v) w) False) (λD e=>vD P T X n S S6 (λe w=>Q .normal e w) (pq Q) p (Wo D o.dst) (zl e o.dst undef) w))
   |none=>False):=h
  cases J:i3 S6 i with
  |none=>simp_all
  |some o=>
   rw[J]at h;obtain⟨h1,h2⟩:=bm h;have E:S6.toArray[i]?=some o:=by rw[Z0]at J;simpa using J
   rw[E]at b;simp only[Bool.and_eq_true]at b;obtain⟨⟨m,kh⟩,g⟩:=b;have M:∀v c a w,QA ds n Q (.panic c) (a.put o.dst v) w->QA ds n Q (.panic c) a w:=by intro v c a w L;refine⟨?_,L.2⟩;rw[<-DK a o.dst v];exact L.1
   have G:i∈Region.ready .any S6.toArray O3:=by simpa using m
   obtain⟨pi,ok',N,hSx,hw0,F,ajq⟩:∃(pi:List Nat)(ok':Bool),(∀x∈pi,x=i)∧(∀w,(pi≠[]->S w)->JK o S w)∧JK o S w∧mb S6.toArray p P7 (O3.setIfInBounds i true) (pi++f) ok=true∧(pi++f≠[]->S w):=by
    unfold JK;cases d:lkO o with
    |true=>rw[d]at g;simp only[Bool.and_eq_true]at g;exact⟨[i],ok,Zb3,λw z=>z Zb3,u g.1,g.2,λ_=>u g.1⟩
    |false=>rw[d]at g;exact⟨[],ok,Zb3,λ_ _=>trivial,trivial,g,y⟩
   obtain⟨D',e',Mh,K,⟨z,R⟩|⟨z,Z⟩⟩:=fj hs hD h2
   ·rcases yw hT R with⟨v,hv,V⟩|hf
    ·refine Kq (Sx:=JK o S) (pi:=pi) E (Region.noSelect_spec iq) (M v) N hSx P7 O3 f a w vr (Region.free_spec E kh) G (.inl ⟨z,λw' hw'=>?_⟩) hw0 y ?_
     ·grind[ol.eval]
     ·exact Jd hT iq p P7 _ _ _ _ _ w _ F (vr.set G) (Mh.put h1 v) (K.JV _ _) (Nd hd) u ajq V
    grind
   ·exact Kq (Sx:=JK o S) (pi:=pi) E (Region.noSelect_spec iq) (M undef) N hSx P7 O3 f a w vr (Region.free_spec E kh) G (.inr ⟨z,rfl⟩) hw0 y (Jd hT iq p P7 _ _ _ _ _ w _ F (vr.set G) (Mh.put h1 undef) (K.JV _ _) (Nd hd) u ajq Z)
 | .w1 i p,0,_,_,_,_,_,_,_,b,_,_,_,_,_,_,_=>by cases b
 | .w1 i p,P7+1,O3,f,ok,D,e,w,a,b,vr,hs,hD,hd,u,y,h=>by unfold mb at b;rw[Cd]at b;obtain⟨m,kh⟩:=b;have hr:=eq_of_beq m;refine ni hr Zb3 λj A=>?_;rw[Gs]at A;subst A;exact qi hT hs hD hd h λD e a w h1 h5 h2 h3 h4=>⟨λ_=>h3,Jd hT iq p P7 _ _ _ D e w a kh (vr.set (by rw[hr];simp)) h1 h5 h2 (λ_=>h3) (λ_=>h3) h4⟩
 | .w2 i p j r,0,_,_,_,_,_,_,_,b,_,_,_,_,_,_,_=>by cases b
 | .w2 i p j r,P7+1,O3,f,ok,D,e,w,a,b,vr,hs,hD,hd,u,y,h=>by
  unfold mb at b;rw[Cd,Cd]at b;obtain⟨⟨m,kh⟩,g⟩:=b;have hr:=eq_of_beq m;refine ni hr Zb3 λl d=>?_;rcases Vk.1 d with rfl|d
  ·exact aas
  ·rw[Gs]at d;subst d;exact qi hT hs hD hd h.2 λD e a w h1 h5 h2 h3 h4=>⟨λ_=>h3,Jd hT iq r P7 _ _ _ D e w a g (vr.set (by rw[hr];simp)) h1 h5 h2 (λ_=>h3) (λ_=>h3) h4⟩
 | .w3 i p j r k s,0,_,_,_,_,_,_,_,b,_,_,_,_,_,_,_=>by cases b
 | .w3 i p j r k s,P7+1,O3,f,ok,D,e,w,a,b,vr,hs,hD,hd,u,y,h=>by
  unfold mb at b;rw[Cd,Cd,Cd]at b;obtain⟨⟨⟨m,kh⟩,g⟩,F⟩:=b;have hr:=eq_of_beq m;refine ni hr Zb3 λl d=>?_;rcases Vk.1 d with rfl|d
  ·exact aas
  ·rcases Vk.1 d with rfl|d
   ·exact qi hT hs hD hd h.2.1 λD e a w h1 h5 h2 h3 h4=>⟨λ_=>h3,Jd hT iq r P7 _ _ _ D e w a g (vr.set (by rw[hr];simp)) h1 h5 h2 (λ_=>h3) (λ_=>h3) h4⟩
   ·rw[Gs]at d;subst d;exact qi hT hs hD hd h.2.2 λD e a w h1 h5 h2 h3 h4=>⟨λ_=>h3,Jd hT iq s P7 _ _ _ D e w a F (vr.set (by rw[hr];simp)) h1 h5 h2 (λ_=>h3) (λ_=>h3) h4⟩
 | .v1 i p,0,_,_,_,_,_,_,_,b,_,_,_,_,_,_,_=>by cases b
 | .v1 i p,P7+1,O3,f,ok,D,e,w,a,b,vr,hs,hD,hd,u,y,h=>by unfold mb at b;rw[Cd,Cd]at b;obtain⟨⟨m,H⟩,kh⟩:=b;have hr:=eq_of_beq m;have Y:=tE.1 H;refine ni hr Zb3 λj A=>?_;rw[Gs]at A;subst A;rw[Y];exact Kp hT hs hD hd h λD e a w h1 h5 h2 h4=>⟨λt=>absurd O t,Jd hT iq p P7 _ _ _ D e w a kh (vr.set (by rw[hr];simp)) h1 h5 h2 (λC=>by cases C) (λt=>absurd rfl t) h4⟩
 | .v2 i p j r,0,_,_,_,_,_,_,_,b,_,_,_,_,_,_,_=>by cases b
 | .v2 i p j r,P7+1,O3,f,ok,D,e,w,a,b,vr,hs,hD,hd,u,y,h=>by
  unfold mb at b;rw[Cd,Cd,Cd,Cd]at b;obtain⟨⟨⟨⟨m,H⟩,alW⟩,kh⟩,g⟩:=b;have hr:=eq_of_beq m;refine ni hr Zb3 λl d=>?_;rcases Vk.1 d with rfl|d
  ·rw[tE.1 H];exact Kp hT hs hD hd h.1 λD e a w h1 h5 h2 h4=>⟨λt=>absurd O t,Jd hT iq p P7 _ _ _ D e w a kh (vr.set (by rw[hr];simp)) h1 h5 h2 (λC=>by cases C) (λt=>absurd rfl t) h4⟩
  ·rw[Gs]at d;subst d;rw[tE.1 alW];exact Kp hT hs hD hd h.2 λD e a w h1 h5 h2 h4=>⟨λt=>absurd O t,Jd hT iq r P7 _ _ _ D e w a g (vr.set (by rw[hr];simp)) h1 h5 h2 (λC=>by cases C) (λt=>absurd rfl t) h4⟩
def xD(S6:Array Oper):Bool:=S6.all λo=>match o.op with
 | .defer _=>false
 |_=>true
theorem aeT{P:Program}{K:Act->World->Prop}{Q:Exit->Act->World->Prop}(b:∀c,o.op≠.defer c)(h:o.wp P a w K Q):o.wpIn (fw ro) 0 P a w K Q:=by
 unfold Oper.wpIn;refine⟨λ_ _=>trivial,?_⟩;rw[Oper.semAt_eq _ _ _ b];unfold Oper.wp at h;generalize(execOp a.eval o).run P w=r at h⊢;cases r with
 |ok n w'=>
  cases n<;>simp only[Oper.upon,Oper.uponIn]at h⊢
  case value=>exact h
  case skip=>exact h
  case defer=>exact h
  case enter=>exact⟨λe=>(by cases e),(callsIn_wide (n:=0)).2 h⟩
  case row=>refine⟨λe=>(by cases e),?_⟩;intro c cs _;obtain⟨v,f,d,hs⟩:=h c cs;exact⟨v,f,d,stepsIn_wide.2 hs⟩
  all_goals exact h.elim
 |halt x w'=>cases x<;>simp only[Oper.upon,Oper.uponIn]at h⊢<;>exact h
theorem Jq{P:Program}{S6:Array Oper}{ro:Option Nat}{Q:Exit->Act->World->Prop}(e:xD S6=true)(g:¬LetsOut Q):∀(d:Nat)(O3:Array Bool)(a:Act)(w:World),wpAny P .any S6 Q d O3 a w->wpAnyIn (fw ro) 0 P .any S6 Q d O3 a w
 |0,_,_,_,h=>h
 |d+1,O3,a,w,h=>⟨h.1,λi m=>by
  have b:=h.2 i m;unfold wpOp at b;unfold wpOpIn;split
  ·rename_i l;rw[l]at b;exact Jq e g d _ _ _ b
  ·rename_i o k;simp only[k]at b;have j:∀c,o.op≠.defer c:=λc n=>by grind[xD]
   split
   ·rename_i f;simp only[f,if_true]at b;rcases b with b|⟨_,b⟩
    ·exact aeT j (Oper.wp_mono (λa w=>Jq e g d _ a w) b)
    simp_all
   ·rename_i f;simp only[f]at b;exact⟨λ_ _=>trivial,Jq e g d _ _ _ b⟩⟩
def Xw(S6:Array Oper)(p:Ov):Bool:=xD S6&&Region.noSelect S6&&mb S6 p S6.size (Array.replicate S6.size false) [] true
theorem ja.D0(q:N8 P T X)(j:P.follows .mixedOrders=true){id:Nat}{e:td}{Q:Hh}{S6:Array Oper}(S:World->Prop)(p:Ov)(b:Xw S6 p=true)(r:S w.drew)
 (h:vD P T X n S S6.toList (λe w=>Q .normal e w) (pq Q) p d0 e w.drew):ja P n id S6 e w Q:=by
 unfold Xw at b;rw[Cd,Cd]at b;obtain⟨⟨c,f⟩,g⟩:=b;have b:Region.noSelect S6=true∧mb S6 p S6.size (Array.replicate S6.size false) [] true=true:=⟨f,g⟩;refine⟨λro ds a hs m=>wpIn_region_any j (Jq c (λs=>?_) _ _ _ _ (lw (S:=S) _ _ [] _ _ ?_))⟩
 ·obtain⟨_,_,h⟩:=s;exact h
 have d:DC S6 (Array.replicate S6.size false):=by intro k o i l;have:k<S6.size:=(vI.1 i).1;simp[this]at l
 have:=Jd (ds:=ds) (S6:=S6.toList) (Q:=Q) q b.1 p _ _ _ _ _ e w.drew a b.2 d hs (og.zero e) m (λ_=>r) (λt=>absurd O t) h;exact this
def eI:List (Nat×Value)->Nat->Option Value
 |[],_=>none
 |p::l,t=>match Nat.beq p.1 t with
  |true=>some p.2
  |false=>eI l t
def adu(l:List (Nat×Value))(e:td):td:=λt=>match eI l t with
 |some v=>v
 |none=>e t
theorem EO(l:List Nat)(e:td):adu (l.zip (l.map e)) e=e:=by
 funext t;unfold adu;have:∀l:List Nat,eI (l.zip (l.map e)) t=none∨eI (l.zip (l.map e)) t=some (e t):=by
  intro l;induction l with
  |nil=>exact .inl O
  |cons d l a=>
   simp only[List.map_cons,List.zip_cons_cons,eI];cases b:Nat.beq d t with
   |true=>simp_all
   |false=>exact a
 grind
theorem p5.A6(t:N8 P T X){body:Code}{e:td}{Q:Hh}(f:List Nat)(I:Nat->List Value->World->Prop)(p:Nat)(h0:I p (f.map e) w)
 (round:∀m vs w y,I m vs w->vc P T X n body (adu (f.zip vs) y) w (MQ (λz w'=>∃m',m'<m∧I m' (f.map z) w') Q)):p5 P n body e w Q:=by
 refine⟨λds a hs o b k cs=>?_⟩;have key:∀m e w a,I m (f.map e) w->ol n a e->a.defers=ds->
  ∃x j w',QA ds n Q x j w'∧Arrives P (lone (b.at a (.code body:: .inLoop body::k)) cs w) b k cs x j w':=by
  intro m;induction m using Nat.strongRecOn with
  |_ m s=>
   intro e w a u hs o;have q:=round m (f.map e) w e u;rw[EO]at q;obtain⟨x,i,g,c,d⟩:=gn t body e w _ a hs o q b (.inLoop body::k) cs;cases x with
   |normal=>obtain⟨ajA,amC,ajg,m',r,ajI⟩:=c;obtain⟨akF,amJ,akH,ajm,v⟩:=s m' r amC g i ajI ajg ajA;exact⟨akF,amJ,akH,ajm,.of_steps (Steps.trans d (.one step_inLoop)) v⟩
   |exit id=>exact⟨.exit id,i,g,c,.pass (x:= .inLoop body) O (λ_ _=> .inl Zb3) d⟩
   |goto l=>exact⟨.goto l,i,g,c,.pass (x:= .inLoop body) O (λ_ _=> .inl Zb3) d⟩
   |ret=>exact⟨.ret,i,g,c,.pass (x:= .inLoop body) O (λ_ _=> .inl Zb3) d⟩
   |panic ch=>exact⟨.panic ch,i,g,c,.pass (x:= .inLoop body) O (λ_ _=> .inl Zb3) d⟩
   |outgrown=>exact c.elim
 obtain⟨x,j,w',c,d⟩:=key p e w a h0 hs o;exact⟨x,j,w',c,.of_steps (.one step_loop) d⟩
end
structure UE(w:World)(b:Nat)(o:Obj)(w':World):Prop where
 heap:w'.heap=w.heap.setIfInBounds b o
 os:w'.os=w.os
 tape:w'.tape=w.tape
 output:w'.output=w.output
 drawn:w'.drawn=w.drawn
section
variable{o:Obj}
theorem UE.Q6(h:UE w b o w'):ua (λk=>k=b) w w':=
 ⟨by rw[h.heap];simp,λk _ a=>by rw[h.heap,Array.getElem?_setIfInBounds_ne (λe=>a e.symm)],h.os,h.tape,h.output,yq h.drawn.symm⟩
theorem UE.ob(h:UE w b o w')(a:b<w.heap.size):Ob w' b o:=⟨by rw[h.heap];simp[a]⟩
theorem UE.Qm(h:UE w b (.cells l.toArray t) w')(a:b<w.heap.size):VE w' b l t:=⟨(h.ob a).t8⟩
end
theorem nJ(h:VE w b l t)(cs:List Value):UE w b (.cells cs.toArray t) (w.setRow b cs.toArray):=by
 refine⟨?_,rfl,rfl,rfl,rfl⟩;unfold World.setRow;simp only;apply uE;intro k;have c:=h.lt;by_cases a:b=k
 ·subst a;rw[nL,S1 O,h.t8,Array.getElem?_setIfInBounds_self_of_lt c];rfl
 grind
theorem ui{P:Program}{vs:List Value}(h:VE w b l t)(k:Nat)(c:k+vs.length<=l.length)(d:vs.all (·.oneCell')=true):
 ∃w',(storeCells ⟨b,k,none⟩ vs).run P w= .ok () w'∧UE w b (.cells (m8 l k vs).toArray t) w':=by
 have:=run_storeCells_at (P:=P) b k t vs 0 l.toArray w h.t8 m4 (λv a=>Zb7);grind[vb,nJ]
theorem ST.Qm{P:Program}{k size:Nat}{K:World->Prop}(h:VE w b l t)(hs:v.cells.toList.length=size)(f:v.cells.toList.all (·.oneCell')=true)(a:Nat.ble (k+size) l.length=true)
 (c:∀w',UE w b (.cells (m8 l k v.cells.toList).toArray t) w'->K w'):ST P w ⟨b,k,none⟩ v size K:=by
 have a:=zv a;obtain⟨w',d,e⟩:=ui (P:=P) h k (vs:=v.cells.toList) m4 f;exact⟨m4,w',d,c w' e⟩
inductive Sl(w:World)(sz:Nat):Value->Nat->List Value->Prop where
 |nil:Sl w sz (.slice none 0 0) 0 []
 |row {b o n cap:Nat} {l:List Value} (hl:l.length=n*sz) (hc:∀i v,i3 l i=some v->w.cell? ⟨b,o+i,none⟩=some v):Sl w sz (.slice (some ⟨b,o,none⟩) n cap) n l
inductive Os(w:World)(e:TypeId)(sz:Nat):Value->Nat->List Value->Option Nat->Prop where
 |nil:Os w e sz (.slice none 0 0) 0 [] none
 |row {b o n cap:Nat} {pre l post:List Value} (hB:VE w b (pre++l++post) e) (ho:pre.length=o) (hl:l.length=n*sz) (hn:n<=cap) (hp:(cap-n)*sz<=post.length) (hm:cap<=maxLen):
  Os w e sz (.slice (some ⟨b,o,none⟩) n cap) n l (some b)
theorem i9(b o k:Nat):(⟨b,o,none⟩:Addr).add k=⟨b,o+k,none⟩:=by simp[Addr.add]
section
variable{w1:World}{e:TypeId}{sz:Nat}{fb:Option Nat}
theorem Os.sl(h:Os w e sz v n l fb):Sl w sz v n l:=by
 cases h with
 |nil=>exact .nil
 | @row b o n cap pre l post c f a g d j=>refine .row a λi u k=>c.cell ?_;grind[Z0]
theorem Sl.Q6{D:Nat->Prop}(h:Sl w sz v n l)(k:ua D w w1)(p:∀a m c,v= .slice (some a) m c->¬D a.block):Sl w1 sz v n l:=by
 cases h with
 |nil=>exact .nil
 | @row b o n cap l f j=>refine .row f λi u g=>?_;have d:=j i u g;have e:b<w.heap.size:=World.block_lt_of_cell? w ⟨b,o+i,none⟩ d;rw[<-d];exact World.cell?_of_block (k.cG b e (p _ _ _ O))
theorem Sl.len(h:Sl w sz v n l):l.length=n*sz:=by
 cases h with
 |nil=>simp
 |row a=>exact a
theorem Ja{P:Program}(h:Sl w sz v n l):(Builtin.firstCells sz n v).run P w= .ok l.toArray w:=by
 cases h with
 |nil=>simp[run_firstCells_none]
 |row a b=>grind[run_firstCells_some,i9,Z0]
structure Ca(P:Program)(t e:TypeId)(sz w9:Nat)(z:Value):Prop where
 t:P.underlying t=some (.slice e)
 i:∃i,P.info? e=some i∧i.zero=some z∧i.size=sz∧i.bytes=w9
 z:z.cells.size=sz
theorem eW{P:Program}{ty:TypeId}{w9:Nat}{x:Value}{m:Nat}{a:List Value}(T:Ca P t e sz w9 z)(hs:Os w e sz v n l fb)(g:Sl w sz x m a)(Q:a.all (·.oneCell')=true)
 (F:(n+m)<=1099511627776∧(n+m)*w9<=140737488355328):
 ∃d w' f,(Builtin.append_ #[t,t] ty #[v,x]).run P w= .ok d w'∧Os w' e sz d (n+m) (l++a) f∧ua (λb=>fb=some b) w w'∧(∀b,f=some b->fb=some b∨w.heap.size<=b):=by
 obtain⟨i,r,J,C,H⟩:=T.i;subst C;subst H;have X:=T.z;have hfx:=Ja (P:=P) g;have RX:=Ja (P:=P) hs.sl;have hlx:(Builtin.lenOf x).run P w= .ok m w:=by cases g<;>rfl
 have Z:=hs.sl.len;have qp:=g.len;have h63:n+m<=maxLen:=by unfold maxLen;omega
 have grow:∀N0 cap,v= .slice N0 n cap->cap<n+m->∃d w' f,(Builtin.append_ #[t,t] ty #[v,x]).run P w= .ok d w'∧Os w' e i.size d (n+m) (l++a) f∧ua (λb=>fb=some b) w w'∧(∀b,f=some b->fb=some b∨w.heap.size<=b):=by
  intro N0 cap K y;have bX:=growslice_fits (need:=n+m) (old:=cap) (bytes:=i.bytes) m4 F.2;have hge:=grownCap_ge w (n+m) cap e;have R:grownCap w (n+m) cap e<=maxLen:=grownCap_le_maxLen w (n+m) cap e h63;have k:VE (w.drew.alloc (.cells (([]++(l++a)++(Builtin.zeroCells z.cells (grownCap w (n+m) cap e-(n+m))).toList)).toArray e)) w.heap.size ([]++(l++a)++(Builtin.zeroCells z.cells (grownCap w (n+m) cap e-(n+m))).toList) e:=⟨Po w.drew _⟩;refine⟨.slice (some ⟨w.heap.size,0,none⟩) (n+m) (grownCap w (n+m) cap e),_,some w.heap.size,?_,.row k O ?_ hge ?_ R,?_,?_⟩
  ·subst K;have j:¬(n+m<=cap):=m4
   have E:¬(9223372036854775807<((n:Int)+(m:Int))):=m4
   have D:¬(281474976710656<Builtin.nextslicecap (n+m) cap*i.bytes):=m4
   have s:ua zI w w.drew:=ua.refl.drew;have M:=Ja (P:=P) (g.Q6 s (λ_ _ _ _ e=>e));have hfo:=Ja (P:=P) (hs.sl.Q6 s (λ_ _ _ _ e=>e));simp[Builtin.append_,run_underlying T.t,sizeOf,typeInfo,zeroValue,r,J,hlx,j,E,D,Question.forced,M,hfo,newRow,grownCap];congr 2;simp
  ·grind
  ·simp[size_zeroCells,X]
  ·exact(ua.refl (w:=w)).drew.alloc _
  ·simp
 cases hs with
 |nil=>
  by_cases q:m=0
  ·subst q;have j:a=[]:=Dp m4;subst j;refine⟨.slice none 0 0,w,none,?_,.nil,ua.refl,λb N=>(by cases N)⟩;simp[Builtin.append_,run_underlying T.t,sizeOf,typeInfo,r,hlx,hfx]
  grind
 | @row b o n cap pre l post k L hl j hp q=>
  by_cases u:n+m<=cap
  ·have Qd:m*i.size<=(cap-n)*i.size:=xv _ m4;have adT:(cap-(n+m))*i.size=(cap-n)*i.size-m*i.size:=by rw[<-XK];congr 1;omega
   obtain⟨w',Y,p⟩:=ui (P:=P) k (o+n*i.size) (vs:=a) Zb5 Q;have A:m8 (pre++l++post) (o+n*i.size) a=pre++(l++a)++post.drop (m*i.size):=by
    rw[vb _ _ _ Zb5];have V:(pre++l++post).take (o+n*i.size)=pre++l:=by
     have:o+n*i.size=(pre++l).length:=Zb5
     rw[this,Bq]
    have S:(pre++l++post).drop (o+n*i.size+a.length)=post.drop (m*i.size):=by
     have:o+n*i.size+a.length=(pre++l).length+m*i.size:=Zb5
     rw[this,<-du,nE]
    rw[V,S];simp
   rw[A]at p;refine⟨.slice (some ⟨b,o,none⟩) (n+m) cap,w',some b,?_,.row (p.Qm k.lt) L Zb1 u Zb5 q,p.Q6.UI (λc _ e=>by rw[e]),λc y=> .inl y⟩;have G:(⟨b,o,none⟩:Addr).add (n*i.size)=⟨b,o+n*i.size,none⟩:=i9 _ _ _;simp[Builtin.append_,run_underlying T.t,sizeOf,typeInfo,r,hlx,hfx,u,G,Y]
  simp_all
theorem A4.jI{P:Program}{dst:Option Nat}{ty:TypeId}{db:String}{af:Array Edge}{g:Option (Nat×Bool)}{a c:Operand}{PQ:Y5}{w9:Nat}{x:Value}{m:Nat}{h:List Value}
 (T:Ca P t e sz w9 z)(p:ρ a=v)(j:ρ c=x)(hs:Os w e sz v n l fb)(o:Sl w sz x m h)(y:h.all (·.oneCell')=true)(i:(n+m)<=1099511627776∧(n+m)*w9<=140737488355328)
 (k:∀d w' f,Os w' e sz d (n+m) (l++h) f->ua (λb=>fb=some b) w w'->(∀b,f=some b->fb=some b∨w.heap.size<=b)->K d w'):
 A4 P ⟨dst,.call ⟨.builtin .append,#[a,c],#[t,t]⟩,ty,db,af,g⟩ ρ w K PQ:=by
 obtain⟨d,w',f,q,u,s,r⟩:=eW (ty:=ty) T hs o y i;refine⟨?_⟩;have:(execOp ρ ⟨dst,.call ⟨.builtin .append,#[a,c],#[t,t]⟩,ty,db,af,g⟩).run P w= .ok (.value d) w':=by simp[execOp,resolve,invoke,builtin,p,j,q]
 rw[this];exact k d w' f u s r
end
section
variable{κ:Type}[DecidableEq κ]
abbrev Nj(κ:Type):=κ×Value×Nat
def Nc(d7:κ->Value)(x:Nj κ):MapEntry:={key:=d7 x.1,val:=x.2.1,born:=x.2.2}
def dh:List (Nj κ)->κ->Nat->Option (Nat×Value)
 |[],_,_=>none
 |x::r,k,i=>if k=x.1 then some (i,x.2.1)else dh r k (i+1)
def Ce:List (Nj κ)->κ->Option Value
 |[],_=>none
 |x::r,k=>if k=x.1 then some x.2.1 else Ce r k
def Eb:List (Nj κ)->κ->Value->Nat->List (Nj κ)
 |[],k,v,c=>[(k,v,c)]
 |x::r,k,v,c=>if k=x.1 then(x.1,v,x.2.2)::r else x::Eb r k v c
def qk:List (Nj κ)->κ->List (Nj κ)
 |[],_=>[]
 |x::r,k=>if k=x.1 then r else x::qk r k
def Tz(M:List (Nj κ))(k:κ)(c:Nat):Nat:=match Ce M k with
 |some _=>c
 |none=>c+1
structure Sm(P:Program)(kt:TypeId)(d7:κ->Value):Prop where
 fa:∀em k w,(Instr.checkKey em 10000 kt (d7 k)).run P w= .ok () w
 kA:∀(k:κ)(M:List (Nj κ))w,(Instr.findKey kt (d7 k) (M.map (Nc d7))).run P w= .ok (dh M k 0) w
 uc:∀k w,(Instr.keyThatStays (d7 k) (d7 k)).run P w= .ok (d7 k) w
theorem Sm.adz{P:Program}{d7:κ->Value}{d:TypeDesc}(b:P.underlying kt=some d)(e:∀f k w,(Instr.checkKey f 10000 kt (d7 k)).run P w= .ok () w)
 (c:∀k a,Instr.sameNow d (d7 k) (d7 a)=some (decide (k=a)))(hs:∀k w,(Instr.keyThatStays (d7 k) (d7 k)).run P w= .ok (d7 k) w):Sm P kt d7:=by
 refine⟨e,λk M w=>?_,hs⟩;have h:∀(M:List (Nj κ))(i:Nat),Instr.findNow d (d7 k) (M.map (Nc d7)) i=some (dh M k i):=by
  intro M;induction M with
  |nil=>intro i;rfl
  |cons x r g=>intro i;simp only[List.map_cons,Instr.findNow,Nc,c,dh];grind
 simp[Instr.findKey,run_underlying b,h]
theorem Sm.of_eq{P:Program}{d7:κ->Value}{d:TypeDesc}(b:P.underlying kt=some d)(f:∀j k w,(Instr.checkKey j 10000 kt (d7 k)).run P w= .ok () w)
 (c:∀k a,Instr.sameNow d (d7 k) (d7 a)=none)(e:∀k a w,(Op.equal kt (d7 k) (d7 a)).run P w= .ok (decide (k=a)) w)(hs:∀k w,(Instr.keyThatStays (d7 k) (d7 k)).run P w= .ok (d7 k) w):Sm P kt d7:=by
 refine⟨f,λk M w=>?_,hs⟩;have h:∀(M:List (Nj κ))(i:Nat),(Instr.findAsking kt (d7 k) (M.map (Nc d7)) i).run P w= .ok (dh M k i) w:=by
  intro M;induction M with
  |nil=>intro i;rfl
  |cons x r l=>intro i;simp only[List.map_cons,Instr.findAsking,Nc,Sem.run_bind,e,Result.andThen_ok,dh];by_cases m:k=x.1<;>simp_all
 cases M with
 |nil=>simp[Instr.findKey,run_underlying b,Instr.findNow,dh]
 |cons x r=>
  have g:Instr.findNow d (d7 k) ((x::r).map (Nc d7)) 0=none:=by simp[Instr.findNow,Nc,c]
  simp only[Instr.findKey,Sem.run_bind,run_underlying b,Result.andThen_ok,g];grind
theorem qB(M:List (Nj κ))(k:κ):∀i,(dh M k i).map (·.2)=Ce M k:=by
 induction M with
 |nil=>intro i;rfl
 |cons x r a=>intro i;unfold dh Ce<;>grind
theorem Ml{M:List (Nj κ)}{k:κ}(h:dh M k 0=none):Ce M k=none:=by grind[qB]
theorem Yp{M:List (Nj κ)}{k:κ}{i:Nat}(h:dh M k 0=some (i,v)):Ce M k=some v:=by grind[qB]
theorem Ax(d7:κ->Value)(M:List (Nj κ))(k:κ):∀(i j:Nat)(v:Value),dh M k j=some (i,v)->j<=i∧(∃x,M[i-j]?=some x∧x.1=k)∧
 (∀u,(M.map (Nc d7)).modify (i-j) (λe=>{e with key:=d7 k,val:=u})=(Eb M k u 0).map (Nc d7))∧(M.map (Nc d7)).eraseIdx (i-j)=(qk M k).map (Nc d7):=by
 induction M with
 |nil=>intro i j v h;cases h
 |cons x r b=>
  intro i j v h;unfold dh at h;by_cases a:k=x.1
  ·simp_all[Eb,Nc,qk]
  ·rw[V0 a]at h;obtain⟨g,⟨y,l,f⟩,d,c⟩:=b i (j+1) v h;have e:i-j=(i-(j+1))+1:=m4
   rw[e];refine⟨m4,⟨y,Zb1,f⟩,λu=>?_,?_⟩
   ·simp only[List.map_cons,List.modify_succ_cons,d u,Eb,if_neg a]
   ·simp only[List.map_cons,List.eraseIdx_cons_succ,c,qk,if_neg a]
theorem GS{M:List (Nj κ)}{k:κ}(h:Ce M k≠none)(c a:Nat):Eb M k v c=Eb M k v a:=by
 induction M with
 |nil=>exact absurd O h
 |cons x r b=>unfold Ce at h;unfold Eb<;>grind
theorem xn{M:List (Nj κ)}{k:κ}(h:Ce M k=none)(c:Nat):Eb M k v c=M++[(k,v,c)]:=by
 induction M with
 |nil=>rfl
 |cons x r a=>unfold Ce at h;unfold Eb<;>grind
structure CL(M:List (Nj κ))(c:Nat):Prop where
 U1:(M.map (·.1)).Nodup
 cC:(M.map (·.2.2)).Nodup
 lt:∀x∈M,x.2.2<c
omit [DecidableEq κ]in
theorem CL.nil(c:Nat):CL ([]:List (Nj κ)) c:=⟨Zb3,Zb3,λ_ h=>(by cases h)⟩
theorem ip{M:List (Nj κ)}{k:κ}:Ce M k=none↔∀x∈M,x.1≠k:=by
 induction M with
 |nil=>simp[Ce]
 |cons x r a=>unfold Ce<;>grind
theorem OO{M:List (Nj κ)}{k:κ}(h:Ce M k≠none):(Eb M k v c).map (·.1)=M.map (·.1)∧(Eb M k v c).map (·.2.2)=M.map (·.2.2):=by
 induction M with
 |nil=>exact absurd O h
 |cons x r a=>unfold Ce at h;unfold Eb<;>grind
theorem CL.set{M:List (Nj κ)}(h:CL M c)(k:κ)(v:Value):CL (Eb M k v c) (Tz M k c):=by
 unfold Tz;cases f:Ce M k with
 |none=>
  rw[xn f];have n:=ip.1 f;refine⟨?_,?_,λx d=>?_⟩
  ·rw[ic,Dq];refine⟨h.U1,Zb3,λa i b g e=>?_⟩;grind
  ·rw[ic,Dq];refine⟨h.cC,Zb3,λa i b g e=>?_⟩;obtain⟨x,d,rfl⟩:=Un.1 i;simp at g;subst g;have:=h.lt x d;omega
  ·rcases rh.1 d with d|d
   ·have:=h.lt x d;grind
   simp_all
 |some u=>obtain⟨m,j⟩:=OO (M:=M) (k:=k) (v:=v) (c:=c) (by rw[f];simp);refine⟨by rw[m];exact h.U1,by rw[j];exact h.cC,λx d=>?_⟩;have:x.2.2∈(Eb M k v c).map (·.2.2):=oz d;rw[j]at this;obtain⟨y,l,e⟩:=Un.1 this;rw[<-e];exact h.lt y l
theorem Cx(M:List (Nj κ))(k:κ):(qk M k).Sublist M:=by
 induction M with
 |nil=>exact List.Sublist.refl _
 |cons x r a=>unfold qk<;>grind
theorem CL.del{M:List (Nj κ)}(h:CL M c)(k:κ):CL (qk M k) c:=
 ⟨h.U1.sublist ((Cx M k).map _),h.cC.sublist ((Cx M k).map _),λx a=>h.lt x ((Cx M k).subset a)⟩
structure MR(d7:κ->Value)(w:World)(b:Nat)(M:List (Nj κ))(c:Nat):Prop where
 wf:CL M c
 ob:Ob w b (.map (M.map (Nc d7)).toArray c)
structure V9(P:Program)(mt kt et:TypeId)(z:Value)(d7:κ->Value):Prop where
 t:P.underlying mt=some (.map kt et)
 key:Sm P kt d7
 zero:∀w,(zeroValue et).run P w= .ok z w
section
variable{P:Program}{mt et:TypeId}{d7:κ->Value}{w1:World}{M:List (Nj κ)}
omit [DecidableEq κ]in
theorem MR.lt(h:MR d7 w b M c):b<w.heap.size:=h.ob.lt
omit [DecidableEq κ]in
theorem MR.Q6{D:Nat->Prop}(h:MR d7 w b M c)(k:ua D w w1)(a:¬D b):MR d7 w1 b M c:=⟨h.wf,h.ob.Q6 k a⟩
theorem S9{r:Nat}{o:Obj}(h:Ob w r o)(b:∀a e f,o≠.cells a e f):(getObj r).run P w= .ok o w:=by cases o<;>first|exact absurd rfl (b _ _ _)|simp only[getObj,Sem.run,h.t8]
theorem Cf{r:Nat}{o o':Obj}(h:Ob w r o)(b:∀a e f,o≠.cells a e f):(setObj r o').run P w= .ok () {w with heap:=w.heap.setIfInBounds r o'}:=by cases o<;>first|exact absurd rfl (b _ _ _)|simp only[setObj,Sem.run,h.t8]
theorem Nw(T:V9 P mt kt et z d7)(h:MR d7 w b M c)(k:κ)(ok:Bool):(Instr.lookup mt (.map (some b)) (d7 k) ok).run P w= .ok (if ok then .tuple #[(Ce M k).getD z,.bool (Ce M k).isSome]else(Ce M k).getD z) w:=by
 have d:=S9 (P:=P) h.ob Zb8;have e:=T.key.kA k M w;simp only[Instr.lookup,Sem.run_bind,run_underlying T.t,Result.andThen_ok,d,T.key.fa,Sem.run_pure];simp only[e,Result.andThen_ok];cases a:dh M k 0 with
 |none=>simp only[T.zero,Sem.run_bind,Result.andThen_ok,Sem.run_pure,Ml a];rfl
 |some q=>obtain⟨i,v⟩:=q;simp only[Yp a];rfl
theorem RD.look{K:Value->Prop}(T:V9 P mt kt et z d7)(h:MR d7 w b M c)(k:κ){ok:Bool}(a:K (if ok then .tuple #[(Ce M k).getD z,.bool (Ce M k).isSome]else(Ce M k).getD z)):
 RD P (λw'=>w'=w) (Instr.lookup mt (.map (some b)) (d7 k) ok) K:=⟨_,λ_ e=>e▸Nw T h k ok,a⟩
theorem oJ(T:V9 P mt kt et z d7)(h:MR d7 w b M c)(k:κ)(v:Value):∃w',(Instr.mapUpdate mt (.map (some b)) (d7 k) v).run P w= .ok () w'∧MR d7 w' b (Eb M k v c) (Tz M k c)∧ua (λx=>x=b) w w':=by
 have j:=S9 (P:=P) h.ob Zb8;have hs:=λo'=>Cf (P:=P) (o':=o') h.ob Zb8;have m:=T.key.kA k M w;have f:∀o',UE w b o' {w with heap:=w.heap.setIfInBounds b o'}:=λo'=>⟨rfl,rfl,rfl,rfl,rfl⟩;cases e:dh M k 0 with
 |none=>
  have d:=Ml e;refine⟨{w with heap:=w.heap.setIfInBounds b (.map ((M++[(k,v,c)]).map (Nc d7)).toArray (c+1))},?_,?_,(f _).Q6⟩
  ·simp only[Instr.mapUpdate,Sem.run_bind,run_underlying T.t,Result.andThen_ok,j,T.key.fa];simp_all[Nc]
  ·have a:=h.wf.set k v;rw[xn d]at a⊢;unfold Tz at a⊢;rw[d]at a⊢;exact⟨a,(f _).ob h.lt⟩
 |some q=>
  obtain⟨i,u⟩:=q;have d:=Yp e;obtain⟨_,⟨x,g,hxk⟩,l,_⟩:=Ax d7 M k i 0 u e;rw[Nat.sub_zero]at g l;refine⟨{w with heap:=w.heap.setIfInBounds b (.map ((Eb M k v c).map (Nc d7)).toArray c)},?_,?_,(f _).Q6⟩
  ·have ael:(((M.map (Nc d7)).toArray[i]?).map (·.key)).getD (d7 k)=d7 k:=by simp[g,Nc,hxk]
   simp only[Instr.mapUpdate,Sem.run_bind,run_underlying T.t,Result.andThen_ok,j,T.key.fa];simp only[m,e,Result.andThen_ok,Sem.run_bind,ael,T.key.uc,hs];rw[GS (by rw[d];simp) c 0,<-l v];simp
  ·have a:=h.wf.set k v;unfold Tz at a⊢;rw[d]at a⊢;exact⟨a,(f _).ob h.lt⟩
theorem A4.val{P:Program}{PQ:Y5}(h:(execOp ρ o).run P w= .ok (.value v) w')(k:K v w'):A4 P o ρ w K PQ:=⟨by rw[h];exact k⟩
theorem A4.skip{P:Program}{PQ:Y5}(h:(execOp ρ o).run P w= .ok .skip w')(k:K undef w'):A4 P o ρ w K PQ:=⟨by rw[h];exact k⟩
section
variable{dst:Option Nat}{ty:TypeId}{db:String}{af:Array Edge}{g:Option (Nat×Bool)}{PQ:Y5}{m x y:Operand}
theorem A4.set(T:V9 P mt kt et z d7)(h:MR d7 w b M c){k:κ}(i:ρ m= .map (some b))(e:ρ x=d7 k)(d:ρ y=v)
 (a:∀w',MR d7 w' b (Eb M k v c) (Tz M k c)->ua (λx=>x=b) w w'->K undef w'):A4 P ⟨dst,.mapUpdate mt m x y,ty,db,af,g⟩ ρ w K PQ:=by
 obtain⟨w',f,l,j⟩:=oJ T h k v;simp_all[A4.skip,execOp]
theorem sJ(T:V9 P mt kt et z d7)(h:MR d7 w b M c)(k:κ):∃w',(Builtin.delete_ #[mt,kt] ty #[.map (some b),d7 k]).run P w= .ok (.tuple #[]) w'∧MR d7 w' b (qk M k) c∧ua (λx=>x=b) w w':=by
 have e:=S9 (P:=P) h.ob Zb8;have hs:=λo'=>Cf (P:=P) (o':=o') h.ob Zb8;have f:=T.key.kA k M w;have d:∀o',UE w b o' {w with heap:=w.heap.setIfInBounds b o'}:=λo'=>⟨rfl,rfl,rfl,rfl,rfl⟩;refine⟨{w with heap:=w.heap.setIfInBounds b (.map ((qk M k).map (Nc d7)).toArray c)},?_,⟨h.wf.del k,(d _).ob h.lt⟩,(d _).Q6⟩;have j:(#[mt,kt]:Array TypeId)[0]?=some mt:=rfl;simp only[Builtin.delete_,j];simp;simp only[Sem.run_bind,run_underlying T.t,Result.andThen_ok,e,T.key.fa,f];cases a:dh M k 0 with
 |none=>
  have m:qk M k=M:=by
   have g:=Ml a;clear f a hs e h d;induction M with
   |nil=>rfl
   |cons x r l=>unfold Ce at g;unfold qk<;>grind
  simp[*]
 |some q=>obtain⟨i,u⟩:=q;obtain⟨_,_,_,aod⟩:=Ax d7 M k i 0 u a<;>simp_all
theorem A4.del(T:V9 P mt kt et z d7)(h:MR d7 w b M c){k:κ}(f:ρ m= .map (some b))(d:ρ x=d7 k)
 (a:∀w',MR d7 w' b (qk M k) c->ua (λx=>x=b) w w'->K (.tuple #[]) w'):A4 P ⟨dst,.call ⟨.builtin .delete,#[m,x],#[mt,kt]⟩,ty,db,af,g⟩ ρ w K PQ:=by
 obtain⟨w',e,j,i⟩:=sJ (ty:=ty) T h k;exact A4.val (by simp[execOp,resolve,invoke,builtin,f,d,e]) (a w' j i)
omit [DecidableEq κ]in
theorem RD.alG{K:Value->Prop}(a:P.underlying mt=some (.map kt et))(h:MR d7 w b M c)(d:K (.int .i64 M.length)):RD P (λw'=>w'=w) (Builtin.len_ #[mt] ty #[.map (some b)]) K:=by refine⟨_,λ_ e=>?_,d⟩;subst e;have f:=S9 (P:=P) h.ob Zb8;simp[Builtin.len_,run_underlying a,f,goInt]
omit [DecidableEq κ]in
theorem A4.JV(e:P.underlying mt=some (.map kt et))(h:MR d7 w b M c)(f:ρ m= .map (some b))
 (d:∀w',MR d7 w' b [] c->ua (λx=>x=b) w w'->K (.tuple #[]) w'):A4 P ⟨dst,.call ⟨.builtin .clear,#[m],#[mt]⟩,ty,db,af,g⟩ ρ w K PQ:=by
 have i:=S9 (P:=P) h.ob Zb8;have hs:=λo'=>Cf (P:=P) (o':=o') h.ob Zb8;have a:∀o',UE w b o' {w with heap:=w.heap.setIfInBounds b o'}:=λo'=>⟨rfl,rfl,rfl,rfl,rfl⟩;refine A4.val (w':={w with heap:=w.heap.setIfInBounds b (.map #[] c)}) ?_ (d _ ⟨CL.nil _,(a _).ob h.lt⟩ (a _).Q6);simp[execOp,resolve,invoke,builtin,f,Builtin.clear_,run_underlying e,i,hs]
omit [DecidableEq κ]in
structure It(w:World)(it b c:Nat)(seen:List (Nj κ)):Prop where
 ob:Ob w it (.mapIter (some b) c (seen.map (·.2.2)).toArray c)
omit [DecidableEq κ]in
def zG(a b c:Nat)(seen:Array Nat):Option (Option MapEntry)->Sem Value
 |some (some e)=>do
  setObj a (.mapIter (some b) c (seen.push e.born) c)
  pure (.tuple #[.bool true,e.key,e.val])
 |some none=>pure (.tuple #[.bool false])
 |none=>stuck "Next: no such candidate"
omit [DecidableEq κ]in
theorem A4.nxt{a:Nat}{seen:List (Nj κ)}(h:MR d7 w b M c)(o:It w a b c seen)(n:ρ m= .pointer (some ⟨a,0,none⟩))
 (E:(∀x∈M,x.2.2∈seen.map (·.2.2))->K (.tuple #[.bool false]) w)
 (D:∀x∈M,x.2.2∉seen.map (·.2.2)->∀w',It w' a b c (seen++[x])->ua (λk=>k=a) w w'->K (.tuple #[.bool true,d7 x.1,x.2.1]) w'):
 A4 P ⟨dst,.next m false,ty,db,af,g⟩ ρ w K PQ:=by
 have p:=S9 (P:=P) h.ob Zb8;have hgi:=S9 (P:=P) o.ob Zb8;obtain⟨L,A⟩:∃L,L=M.filter (λx=>!(seen.map (·.2.2)).contains x.2.2):=⟨_,rfl⟩;have t:∀x,x∈L↔x∈M∧x.2.2∉seen.map (·.2.2):=by intro x;rw[A,Aq];simp only[Bool.not_eq_true',<-Bool.not_eq_true,List.contains_iff_mem]
 have f:((M.map (Nc d7)).toArray.filter λe=>!((seen.map (·.2.2)).toArray).contains e.born)=(L.map (Nc d7)).toArray:=by rw[A,iL,List.filter_map];congr 1;congr 1;apply List.filter_congr;intro x _;simp only[Function.comp,Nc];rw[List.contains_toArray]
 have l:((L.map (Nc d7)).toArray.filter λe=>decide (e.born<c))=(L.map (Nc d7)).toArray:=by rw[iL];congr 1;rw[zz];intro e q;obtain⟨x,d,rfl⟩:=Un.1 q;have:=h.wf.lt x ((t x).1 d).1;exact Si this
 have j:((L.map (Nc d7)).toArray.filter λe=>decide (e.born>=c))= #[]:=by rw[iL];congr 1;rw[HE];intro e q;obtain⟨x,d,rfl⟩:=Un.1 q;have:=h.wf.lt x ((t x).1 d).1;simp[Nc];omega
 have s:(!(seen.map (·.2.2)).toArray.isEmpty&& !(M.map (Nc d7)).toArray.isEmpty&&(M.map (Nc d7)).toArray.all (λe=>decide (e.born>=c)))=false:=by
  cases H:M with
  |nil=>simp
  |cons x r=>have:=h.wf.lt x (by rw[H];simp);grind[Nc]
 cases hLc:L with
 |nil=>
  refine A4.val (w':=w) ?_ (E λx d=>?_)
  ·rw[hLc]at f l j;simp only[execOp,n,Instr.next,Sem.run_bind,hgi,p,Result.andThen_ok];simp only[s,f,l,j];simp[choose,Sem.run,Question.forced]
  grind
 |cons y r=>
  have u:0<L.length:=by rw[hLc];simp
  have R:(L.map (Nc d7)).toArray.isEmpty=false:=by rw[hLc];simp
  have pick:∀i w1,i<L.length->ua zI w w1->Ob w1 a (.mapIter (some b) c (seen.map (·.2.2)).toArray c)->
   (execOp ρ ⟨dst,.next m false,ty,db,af,g⟩).run P w=((zG a b c (seen.map (·.2.2)).toArray (L.map λx=>some (Nc d7 x))[i]?).run P w1).andThen (λv w'=> .ok (.value v) w')->A4 P ⟨dst,.next m false,ty,db,af,g⟩ ρ w K PQ:=by
   intro i w1 J G F Q;have d:=(t L[i]).1 Zb3;have hs:=Cf (P:=P) (o':= .mapIter (some b) c ((seen.map (·.2.2)).toArray.push L[i].2.2) c) F Zb8;have N:UE w1 a (.mapIter (some b) c ((seen.map (·.2.2)).toArray.push L[i].2.2) c) {w1 with heap:=w1.heap.setIfInBounds a (.mapIter (some b) c ((seen.map (·.2.2)).toArray.push L[i].2.2) c)}:=⟨rfl,rfl,rfl,rfl,rfl⟩;have amk:(L.map λx=>some (Nc d7 x))[i]?=some (some (Nc d7 L[i])):=by simp[J]
   rw[amk]at Q;refine A4.val (v:= .tuple #[.bool true,d7 L[i].1,L[i].2.1]) ?_ (D _ d.1 d.2 _ ⟨?_⟩ ((G.UI (λ_ _ e=>e.elim)).trans N.Q6 (λ_ _ e=>e)))
   ·grind[Nc,zG,Sem.run_bind,Result.andThen_ok,Sem.run_pure]
   ·grind[UE.ob,Ob.lt]
  have aaa:((if(L.map (Nc d7)).toArray.isEmpty then #[none]else #[])++((L.map (Nc d7)).toArray++ #[]).map some:Array (Option MapEntry))=(L.map λx=>some (Nc d7 x)).toArray:=by rw[R];simp
  by_cases z:(Question.mapNext (L.map λx=>some (Nc d7 x)).toArray.size).forced=true
  ·refine pick 0 w u ua.refl o.ob ?_;simp only[execOp,n,Instr.next,Sem.run_bind,hgi,p,Result.andThen_ok];simp only[s,f,l,j];simp only[aaa,Bool.false_eq_true,if_false,Sem.run_bind,run_choose_drew,z,if_true,Result.andThen_ok,List.getElem?_toArray];rfl
  ·have C:(Question.mapNext (L.map λx=>some (Nc d7 x)).toArray.size).cut (w.tape w.drawn (Question.mapNext (L.map λx=>some (Nc d7 x)).toArray.size))<L.length:=by
    unfold Question.cut;simp only[List.size_toArray,List.length_map];exact kE _ u
   refine pick _ w.drew C (ua.refl (w:=w)).drew ⟨o.ob.t8⟩ ?_;simp only[execOp,n,Instr.next,Sem.run_bind,hgi,p,Result.andThen_ok];simp only[s,f,l,j];simp only[aaa,Bool.false_eq_true,if_false,Sem.run_bind,run_choose_drew,z,Result.andThen_ok,List.getElem?_toArray];rfl
end
end
end
end Go.Proofs.YtaaihojmcfaejaaGreatDoor
