/- Lemmas for the tops: the walk of the house and its laws. No condition is added. -/
import Derived.Test.YtaaihojmcfaejaaGreatDoorQad
set_option linter.all false
namespace Go.Proofs.YtaaihojmcfaejaaGreatDoor
open Go Go.RowKit Tryz
variable{ok:Bool}{L L':List HP}{l:List Value}{b m o p sz:Nat}{a:Option Addr}{i:TI}{α β σ:Type}{e t:TypeId}{K:Value->Prop}{c w w':World}{x:α}{s:σ}
theorem kB(b:ty t=some i)(c:Dh i.desc=false){cs:Array Value}{off:Nat}{v:Value}(a:i3 cs.toList off=some v)(w:World):(Go.part t cs off).run prog w= .ok v w:=Fl kn b c cs off a w
theorem Jg{d:TypeDesc}(b:prog.underlying t=some d){v:Value}(c:MapKept.IsKey d v)(a:Bool)(n:Nat)(w:World):(Instr.checkKey a (n+1) t v).run prog w= .ok () w:=MapKept.run_checkKey b c a n
theorem ZT{f g:Field}(q:prog.underlying t=some (.struct #[f,g])){j:TI}(h:ty f.type=some i)(e:ty g.type=some j)(n:Dh i.desc=false)(m:Dh j.desc=false)(d:f.offset=0∧g.offset=1){a b:Value}(l:MapKept.IsKey i.desc a)(k:MapKept.IsKey j.desc b)(c:Bool)(w:World):
 (Instr.checkKey c 10000 t (.agg #[a,b])).run prog w= .ok () w:=by
 show(Instr.checkKey c (9998+1+1) t (.agg #[a,b])).run prog w= .ok () w;have p:=kB h n (cs:= #[a,b]) (off:=f.offset) (v:=a) (by rw[d.1];rfl) w;have o:=kB e m (cs:= #[a,b]) (off:=g.offset) (v:=b) (by rw[d.2];rfl) w;have c1:=Jg (kn.desc _ _ h) l c 9998 w;have c2:=Jg (kn.desc _ _ e) k c 9998 w;rw[Instr.checkKey];simp_all[run_underlying]
theorem aeC(p:prog.underlying t=some (.array 4 e))(c:ty e=some i)(f:Dh i.desc=false)(hs:i.Xf.size=1){a b x y:Value}(k:MapKept.IsKey i.desc a)(j:MapKept.IsKey i.desc b)(h:MapKept.IsKey i.desc x)(g:MapKept.IsKey i.desc y)(d:Bool)(w:World):
 (Instr.checkKey d 10000 t (.agg #[a,b,x,y])).run prog w= .ok () w:=by
 show(Instr.checkKey d (9998+1+1) t (.agg #[a,b,x,y])).run prog w= .ok () w;have z:(sizeOf e).run prog w= .ok 1 w:=Pa kn (by simp_all[Rb]) w;have o:=kB c f (cs:= #[a,b,x,y]) (off:=0) (v:=a) O w;have n:=kB c f (cs:= #[a,b,x,y]) (off:=1) (v:=b) O w;have m:=kB c f (cs:= #[a,b,x,y]) (off:=2) (v:=x) O w;have l:=kB c f (cs:= #[a,b,x,y]) (off:=3) (v:=y) O w;have q:=Jg (kn.desc _ _ c) k d 9998 w;have c1:=Jg (kn.desc _ _ c) j d 9998 w;have c2:=Jg (kn.desc _ _ c) h d 9998 w;have c3:=Jg (kn.desc _ _ c) g d 9998 w;rw[Instr.checkKey];simp_all[run_underlying,List.range'_succ]
structure End where
 E0:Int
 dir:Int
deriving DecidableEq
def End.f(e:End):List Value:=[I e.E0,I e.dir]
abbrev End.v(e:End):Value:= .agg e.f.toArray
theorem isI(n:Int):MapKept.IsKey Tryz.t3.desc (I n):=show IntKind.i64=IntKind.i64 from rfl
theorem isB(b:Bool):MapKept.IsKey Tryz.t4.desc (.bool b):=trivial
theorem FW(n:Nat):MapKept.IsKey Tryz.t5.desc (U8 n):=show IntKind.u8=IntKind.u8 from rfl
theorem eqD(a b:Int):(a==b)=decide (a=b):=Zb1
theorem akd(a b:Bool):(a==b)=decide (a=b):=Zb1
theorem aiL:Sm prog 133 End.v:=by
 refine Sm.cells (kn.desc 133 _ O) Zb2 O (λ_ _=>rfl) (λb k w=>ZT (kn.desc 133 _ O) O O O O ⟨rfl,rfl⟩ (isI _) (isI _) b w) (λk a=>⟨_,rfl,?_⟩) λk=>?_
 ·cases k;cases a;simp[sg,eqD]
 ·simp[End.f,Instr.sameBits]
structure lu where
 E0:Int
 up:Bool
deriving DecidableEq
def lu.f(e:lu):List Value:=[I e.E0,.bool e.up]
abbrev lu.v(e:lu):Value:= .agg e.f.toArray
theorem aiM:Sm prog 119 lu.v:=by
 refine Sm.cells (kn.desc 119 _ O) Zb2 O (λ_ _=>rfl) (λb k w=>ZT (kn.desc 119 _ O) O O O O ⟨rfl,rfl⟩ (isI _) (isB _) b w) (λk a=>⟨_,rfl,?_⟩) λk=>?_
 ·cases k;cases a;simp[sg,eqD,akd]
 ·simp[lu.f,Instr.sameBits]
structure w4 where
 a:BitVec 8
 b:BitVec 8
 x:BitVec 8
 y:BitVec 8
deriving DecidableEq
def w4.f(k:w4):List Value:=[B8 k.a,B8 k.b,B8 k.x,B8 k.y]
abbrev w4.v(k:w4):Value:= .agg k.f.toArray
theorem adM:Sm prog 35 w4.v:=by
 refine Sm.cells (kn.desc 35 _ O) Zb2 O (λ_ _=>rfl) (λb k w=>aeC (kn.desc 35 _ O) O O O (FW _) (FW _) (FW _) (FW _) b w) (λk a=>⟨_,rfl,?_⟩) λk=>?_
 ·cases k;cases a;simp[sg,eqD,Int.ofNat_inj,BitVec.toNat_inj]
 ·simp[w4.f,Instr.sameBits]
theorem V9.of{κ:Type}[DecidableEq κ]{mt kt et:TypeId}{z:Value}{K:κ->Value}{j:TI}(e:ty mt=some i)(d:i.desc= .map kt et)(a:Sm prog kt K)(c:ty et=some j)(b:j.Xf.zero=some z):V9 prog mt kt et z K:=
 ⟨Vi e d,a,VX c b⟩
abbrev jk:Value:= .pointer none
theorem tW:V9 prog 98 3 3 (I 0) I:=V9.int O O O O
theorem CG:V9 prog 115 119 113 jk lu.v:=V9.of O O aiM O O
theorem Nu:V9 prog 127 133 123 jk End.v:=V9.of O O aiL O O
theorem Mu:V9 prog 145 3 143 (.agg #[.int .u16 0,I 0,I 0]) I:=V9.int O O O O
theorem wm:V9 prog 160 3 329 jk I:=V9.int O O O O
theorem Ad:V9 prog 165 3 163 jk I:=V9.int O O O O
theorem oB:V9 prog 220 35 40 (.agg #[.bool false,I 0]) w4.v:=V9.of O O adM O O
theorem BG:V9 prog 247 3 256 jk I:=V9.int O O O O
theorem GZ:V9 prog 276 3 288 (.agg (List.replicate 32 (U8 0)).toArray) I:=V9.int O O O O
theorem eb:V9 prog 319 3 322 jk I:=V9.int O O O O
theorem nB:V9 prog 429 35 436 jk w4.v:=V9.of O O adM O O
theorem Lh:V9 prog 430 3 35 (.agg #[U8 0,U8 0,U8 0,U8 0]) I:=V9.int O O O O
theorem FZ:V9 prog 443 35 3 (I 0) w4.v:=V9.of O O adM O O
abbrev B:=BitVec 8
structure R9 where
 A0:Int
 F0:Int
 L0:Int
deriving DecidableEq
structure jc where
 Vs:BitVec 64
 BA:BitVec 64
structure Ba where
 K3:Bool
 n:Int
deriving DecidableEq
structure E2 where
 key:w4
 val:Ba
deriving DecidableEq
structure A5 where
 W0:Int
 tx:Int
 J0:BitVec 16
 key:w4
 old:Ba
 new:Ba
deriving DecidableEq
structure Op where
 W0:Int
 tx:Int
 key:w4
 n:Int
deriving DecidableEq
def X0:Ba:=⟨false,0⟩
def Y3:w4:=⟨0#8,0#8,0#8,0#8⟩
def Xi:A5:=⟨0,0,0#16,Y3,X0,X0⟩
def R9.K6(p:R9)(t:Int):Int:=ce p.A0 t
def R9.M8(p:R9)(b:Int):Int:=po p.A0 b p.F0
def R9.E5(p:R9)(b:Int):Int:=po p.A0 b p.L0
def Lk(n:Int):BitVec 16:=1#16<<<n.toNat
structure DL where
 J0:BitVec 16
 E5:Int
 r9:Int
structure M9 where
 Zq:BitVec 64
 B0:List (Int×DL)
def M9.U6(g:M9)(tx:Int)(J0:BitVec 16)(a:Int):Int×M9:=
 if tx<1∨tx>1048576∨a<0∨a>1099511627776 then(11,g)
 else if(J0.toNat:Int)=0∨¬((J0&&& ~~~63#16).toNat:Int)=0 then(10,g)
 else if(K0 g.B0 tx).isSome=true then(13,g)
 else if(g.B0.length:Int)>=64 then(16,g)
 else(0,{g with B0:=R1 g.B0 tx ⟨J0,a,0⟩})
def M9.put(g:M9)(tx:Int)(s9:Bool):Int×M9:=match K0 g.B0 tx with
 |none=>(12,g)
 |some r=>if¬r.r9=0∧¬r.r9=(if s9 then 2 else 1)then(13,g)else(0,{g with B0:=R1 g.B0 tx ⟨r.J0,r.E5,if s9 then 2 else 1⟩})
def M9.o9(g:M9)(tx E0 C0:Int):Int×Int:=match K0 g.B0 tx with
 |none=>(0,12)
 |some r=>
  if Qe (W r.J0) E0=false then(0,12)
  else if C0<r.E5∨r.r9=0 then(0,17)
  else if r.r9=2 then(1,0)
  else(0,0)
structure Yk where
 Ro:jc
 rd:List P9
 room:Int
def wx:P9:=⟨0,0,0,0⟩
def jc.flows(a b:jc)(o:BitVec 64):Bool:=Go.Proofs.YtaaihojmcfaejaaGreatDoor.flows a.Vs a.BA b.Vs b.BA o
def Yk.put(b:Yk)(aad:jc)(o:BitVec 64)(m:P9):Bool×Int×Yk:=
 if m.right=false then(false,10,b)
 else if aad.flows b.Ro o=false then(false,14,b)
 else if(b.rd.length:Int)<b.room then(true,0,{b with rd:=b.rd++[m]})
 else if b.Ro.flows aad o=true then(false,15,b)
 else(false,0,b)
def pj(l:List α)(i:Nat):List α:=l.take i++l.drop (i+1)
def Yk.take(b:Yk)(to:jc)(o:BitVec 64)(i:Int):P9×Int×Yk:=
 if b.Ro.flows to o=false then(wx,14,b)
 else if i<0∨i>=b.rd.length then(wx,12,b)
 else(b.rd.getD i.toNat wx,0,{b with rd:=pj b.rd i.toNat})
def Yk.P0(b:Yk)(to:jc)(o:BitVec 64):List P9×Int:=if b.Ro.flows to o=false then([],14)else(b.rd,0)
structure O6 where
 S8:List (lu×List P9)
def O6.new(A0:Nat):O6:=⟨(List.range A0).flatMap λ(n:Nat)=>[(⟨(n:Int),true⟩,[]),(⟨(n:Int),false⟩,[])]⟩
def O6.put(l:O6)(E0:Int)(up:Bool)(P0:List P9):Int×Int×O6:=match K0 l.S8 ⟨E0,up⟩with
 |none=>(0,11,l)
 |some b=>
  let right:=P0.filter (·.right);let n:Int:=min (right.length:Int) (16-b.length);let l':O6:=⟨R1 l.S8 ⟨E0,up⟩ (b++right.take n.toNat)⟩
  if n<right.length then(n,15,l')else(n,0,l')
def O6.take(l:O6)(E0:Int)(up:Bool)(i:Int)(a:Bool):P9×Int×O6:=match K0 l.S8 ⟨E0,up⟩with
 |none=>(wx,11,l)
 |some b=>
  if i<0∨i>=b.length then(wx,12,l)
  else(b.getD i.toNat wx,0,if a then l else⟨R1 l.S8 ⟨E0,up⟩ (pj b i.toNat)⟩)
def O6.Ot(l:O6)(E0:Int)(up:Bool):List P9:=(K0 l.S8 ⟨E0,up⟩).getD []
structure Pc where
 Z3:Int
 I1:Int
 J0:BitVec 16
def Ft:Pc:=⟨0,0,0#16⟩
structure E9 where
 D0:R9
 P0:List Pc
 ba:List Int
def E9.entry(d:E9)(tx:Int):Pc×Bool:=if tx<1∨tx>d.P0.length then(Ft,false)else(d.P0.getD (tx-1).toNat Ft,true)
def E9.of(d:E9)(a C0:Int):Int×Bool:=
 if a<0∨a>=8 then(0,false)else
 let tx:=d.ba.getD a.toNat 0
 if(d.entry tx).2=false∨d.D0.E5 (d.entry tx).1.I1<=C0 then(0,false)else(tx,true)
def E9.I1(d:E9)(a:Int)(J0:BitVec 16)(C0:Int):Int×Int×E9:=
 if(a<0∨a>=8)∨C0<0∨C0>1099511627776 then(0,11,d)
 else if(J0.toNat:Int)=0∨¬((J0>>>d.D0.A0.toNat).toNat:Int)=0 then(0,10,d)
 else if(d.of a C0).2=true then(0,13,d)
 else if(d.P0.length:Int)>=64 then(0,16,d)
 else(d.P0.length+1,0,{d with P0:=d.P0++[⟨a,C0,J0⟩],ba:=d.ba.set a.toNat (d.P0.length+1)})
def E9.Um(d:E9)(a E0 C0:Int):Int×Int:=
 let tx:=(d.of a C0).1;let e:=(d.entry tx).1
 if(d.of a C0).2=false then(0,12)
 else if Qe (W e.J0) E0=false then(0,14)
 else if d.D0.M8 e.I1<=C0 then(0,19)
 else(tx,0)
def E9.De(d:E9)(E0:Int):List Int:=(d.P0.zipIdx.filter λ(x:Pc×Nat)=>Qe (W x.1.J0) E0).map λ(x:Pc×Nat)=>(x.2:Int)+1
structure Way where
 r9:List P9
 box:Yk
structure J2 where
 D0:R9
 R4:M9
 Kd:List jc
 all:BitVec 64
 ways:List (End×Way)
def End.up(e:End):Bool:=decide (e.dir=1)
def Uz:jc:=⟨0#64,0#64⟩
def Ke(n:Nat):BitVec 64:=BitVec.ofNat 64 (2^n-1)
def J2.new(p:R9):J2:=
 let n:=p.A0.toNat;let a:=λ(i:Nat)=>(⟨1#64<<<i,0#64⟩:jc)
 ⟨p,⟨Ke n,[]⟩,(List.range n).map a++[⟨Ke n,0#64⟩],Ke n,
  (List.range n).flatMap λ(i:Nat)=>[(⟨(i:Int),0⟩,⟨[],⟨a i,[],8⟩⟩),(⟨(i:Int),1⟩,⟨[],⟨a i,[],8⟩⟩)]⟩
def J2.K3(k:J2)(N3:Int):Bool:=decide (0<=N3)&&decide (N3<=k.D0.A0)
def J2.Ia(k:J2)(N3:Int):Bool:=decide (N3=k.D0.A0)
def J2.Ro(k:J2)(N3:Int):jc:=k.Kd.getD N3.toNat Uz
def J2.Zq(k:J2)(N3:Int):BitVec 64:=if k.Ia N3 then k.all&&&(0#64|||k.R4.Zq)else 0#64
def J2.Er(k:J2)(a b:Int):Bool:=k.K3 a&&k.K3 b&&(k.Ro a).flows (k.Ro b) (k.Zq a)
def End.ra(e:End)(m:P9):Bool:=m.right&&decide (m.E0=e.E0)&&(m.up==e.up)
def Ec(up:Bool):Int:=if up then 1 else 0
def J2.Z6(k:J2)(N3 to:Int)(m:P9)(C0:Int):Int×J2:=
 if k.K3 N3=false∨k.K3 to=false∨N3=to then(11,k)
 else if¬k.D0.K6 C0=N3 then(23,k)
 else if k.Er N3 to=false then(14,k)
 else
  let e:End:=if k.Ia N3 then⟨to,0⟩else⟨N3,1⟩
  if e.ra m=false then(10,k)
  else match K0 k.ways e with
   |none=>(0,k)
   |some w=>(0,{k with ways:=R1 k.ways e {w with r9:=w.r9++[m]}})
def J2.Za(k:J2)(E0:Int)(up:Bool):List P9×J2:=match K0 k.ways ⟨E0,Ec up⟩with
 |none=>([],k)
 |some w=>(w.r9,{k with ways:=R1 k.ways ⟨E0,Ec up⟩ {w with r9:=[]}})
def J2.A9(k:J2)(E0:Int)(up:Bool)(m:P9):Bool×J2:=match K0 k.ways ⟨E0,Ec up⟩with
 |none=>(false,k)
 |some w=>
  if(⟨E0,Ec up⟩:End).ra m=false then(false,k)
  else
   let r:=w.box.put (k.Ro E0) 0#64 m
   (r.1,{k with ways:=R1 k.ways ⟨E0,Ec up⟩ {w with box:=r.2.2}})
def J2.J6(k:J2)(N3 E0 i C0:Int):P9×Int×J2:=match K0 k.ways ⟨E0,Ec (k.Ia N3)⟩with
 |none=>(wx,11,k)
 |some w=>
  if k.K3 N3=false then(wx,11,k)
  else if¬k.D0.K6 C0=N3 then(wx,23,k)
  else
   let r:=w.box.take (k.Ro N3) 0#64 i
   (r.1,r.2.1,{k with ways:=R1 k.ways ⟨E0,Ec (k.Ia N3)⟩ {w with box:=r.2.2}})
def J2.C8(k:J2)(E0:Int)(up:Bool):List P9:=match K0 k.ways ⟨E0,Ec up⟩with
 |none=>[]
 |some w=>(w.box.P0 (k.Ro E0) 0#64).1
def Way.clear(w:Way)(amE a:Bool):Way:=
 let w:=if amE then{w with box:={w.box with rd:=[]}}else w
 if a then{w with r9:=[]}else w
def J2.clear(k:J2)(N3:Int):J2:=
 {k with ways:=k.ways.map λ(x:End×Way)=>(x.1,if x.1.up then x.2.clear (k.Ia N3) (decide (x.1.E0=N3))else x.2.clear (decide (x.1.E0=N3)) (k.Ia N3))}
abbrev oa:={l:List B//l.length=32}
def kc:oa:=⟨List.replicate 32 0#8,Zb3⟩
def Z'(l:List B):oa:=if h:l.length=32 then⟨l,h⟩else kc
structure U2 where
 P1:List oa
 L4:List (Int×oa)
 C0:List (Int×oa)
def U2.new(n:Nat):U2:=⟨List.replicate n kc,[],[]⟩
def U2.U'(d:U2)(i:Int):Bool:=decide (0<=i)&&decide (i<d.P1.length)
def U2.o9(d:U2)(i:Int):List B×Int:=if d.U' i=false then([],11)else(((K0 d.C0 i).getD (d.P1.getD i.toNat kc)).1,0)
def U2.x7(d:U2)(i:Int)(b:List B):Int×U2:=
 if d.U' i=false then(11,d)
 else if¬b.length=32 then(10,d)
 else(0,{d with L4:=d.L4++[(i,Z' b)],C0:=R1 d.C0 i (Z' b)})
def U2.X8(d:U2)(Q6:Nat):U2:=⟨(d.L4.take Q6).foldl (λs x=>s.set x.1.toNat x.2) d.P1,[],[]⟩
def U2.iy(d:U2):U2:=d.X8 d.L4.length
def pa(old new:oa)(n:Nat):oa:=Z' (new.1.take n++old.1.drop n)
def cg(x a b:Int):Int:=min (max x a) b
def U2.N6(d:U2)(Q6 O8:Int):U2:=
 let k:=cg Q6 0 d.L4.length;let e:=d.X8 k.toNat
 match d.L4.drop k.toNat with
 |[]=>e
 |w::_=>{e with P1:=e.P1.set w.1.toNat (pa (e.P1.getD w.1.toNat kc) w.2 (cg O8 0 31).toNat)}
def bytesLE(u:BitVec 64):Nat->List B
 |0=>[]
 |n+1=>u.setWidth 8::bytesLE (u>>>8) n
def U5(u:BitVec 64)(n:Nat):List B:=if u>>>(8*n)=0#64 then bytesLE u n else[]
def an:List B->BitVec 64
 |[]=>0#64
 |b::l=>(an l<<<8)|||b.setWidth 64
def HC(n:Int):BitVec 64:=(BitVec.ofInt 64 n<<<1)^^^BitVec.ofInt 64 (n.fdiv (2^63))
def zag(u:BitVec 64):Int:=((u>>>1)^^^(0#64-(u&&&1#64))).toInt
def Jt(s:Int):Int:=if s*2>16777215 then dg .xor .i64 (s*2) 25578747 else s*2
def Jy:Nat->Int->Int
 |0,s=>s
 |n+1,s=>Jy n (Jt s)
def Eo(s:Int)(l:List B):Int:=l.foldl (λ(s:Int)(b:B)=>Jy 8 (dg .xor .i64 s (b.toNat*65536))) s
def Td(l:List B):Int:=Eo 11994318 l
def Mf(s:Int):List B:=[BitVec.ofInt 8 (s.fdiv 65536),BitVec.ofInt 8 (s.fdiv 256),BitVec.ofInt 8 s]
def Rf(l:List B):List B:=l++Mf (Td l)
def Vc(l:List B):Option (List B):=
 if l.length<3 then none
 else if Mf (Td (l.take (l.length-3)))=l.drop (l.length-3)then some (l.take (l.length-3))else none
def Ba.right(v:Ba):Bool:=v.K3||decide (v.n=0)
def A5.E0(r:A5):A5:=
 if r.W0=1 then⟨r.W0,r.tx,0#16,r.key,r.old,r.new⟩
 else if r.W0=2 then⟨r.W0,r.tx,r.J0,Y3,X0,X0⟩
 else if r.W0=7 then⟨r.W0,0,0#16,r.key,X0,r.new⟩
 else if r.W0=8 then⟨r.W0,0,r.J0,Y3,X0,X0⟩
 else⟨r.W0,r.tx,0#16,Y3,X0,X0⟩
def A5.right(r:A5):Bool:=
 if r.W0<1∨r.W0>8∨¬r.E0=r then false
 else
  let a:=decide (r.tx>=1)&&decide (r.tx<=1048576)
  if r.W0=1 then a&&r.old.right&&r.new.right
  else if r.W0=2 then a&&decide (¬(r.J0.toNat:Int)=0)
  else if r.W0=7 then r.new.K3
  else if r.W0=8 then decide ((r.J0.toNat:Int)<=64)
  else a
def df(u:BitVec 64):Nat->Nat->Nat
 |0,n=>n
 |f+1,n=>if u>>>(8*n)=0#64 then n else df u f (n+1)
def F4(v:Ba):List B:=if v.K3=false then[]else U5 (HC v.n) (df (HC v.n) 8 1)
def Kc:List (Nat×Int)->Option (BitVec 64)
 |[]=>some 0#64
 |(n,v)::l=>match Kc l with
  |none=>none
  |some u=>if BitVec.ofInt 64 v>>>n=0#64 then some ((u<<<n)|||BitVec.ofInt 64 v)else none
def Rc:List Nat->BitVec 64->Option (List Int)
 |[],u=>if u=0#64 then some []else none
 |n::l,u=>match Rc l (u>>>n)with
  |none=>none
  |some r=>some (((u&&&((1#64<<<n)-1#64)).toNat:Int)::r)
def Mk(b:Bool):Int:=if b then 1 else 0
def Tf(k:Int):Bool:=decide (k=2)||decide (k=8)
def Ci(k:Int):Bool:=decide (k=1)||decide (k=7)
def w4.bytes(k:w4):List B:=[k.a,k.b,k.x,k.y]
def P8(r:A5):Option (List B):=
 if r.right=false then none else
 let r9:=U5 ((Kc [(3,r.W0-1),(21,r.tx)]).getD 0#64) 3
 if Tf r.W0 then some (r9++U5 (W r.J0) 2)
 else if Ci r.W0 then
  let a:=F4 r.old;let b:=F4 r.new;let f:=(Kc [(1,Mk r.old.K3),(1,Mk r.new.K3),(3,max ((a.length:Int)-1) 0),(3,max ((b.length:Int)-1) 0)]).getD 0#64
  some (r9++r.key.bytes++[f.setWidth 8]++a++b)
 else some r9
structure Tk where
 V5:List B
 Dx:Bool
def Tk.take(t:Tk)(n:Nat):BitVec 64×Tk:=if n>t.V5.length then(0#64,{t with Dx:=true})else(an (t.V5.take n),{t with V5:=t.V5.drop n})
def Tk.val(t:Tk)(a size:Int):Ba×Tk:=if a=0 then(X0,t)else
 let x:=t.take (size+1).toNat
 (⟨true,zag x.1⟩,x.2)
def Tk.tf(t:Tk):A5×Tk:=
 let x:=t.take 3;let h:=(Rc [3,21] x.1).getD [0,0];let r:A5:={Xi with W0:=h.getD 0 0+1,tx:=h.getD 1 0}
 if Tf r.W0 then
  let y:=x.2.take 2
  ({r with J0:=y.1.setWidth 16},y.2)
 else if Ci r.W0 then
  let d:=x.2.take 1;let c:=d.2.take 1;let b:=c.2.take 1;let a:=b.2.take 1;let y:=a.2.take 1;let f:=(Rc [1,1,3,3] y.1).getD [0,0,0,0];let o:=y.2.val (f.getD 0 0) (f.getD 2 0);let n:=o.2.val (f.getD 1 0) (f.getD 3 0)
  ({r with key:=⟨d.1.setWidth 8,c.1.setWidth 8,b.1.setWidth 8,a.1.setWidth 8⟩,old:=o.1,new:=n.1},n.2)
 else(r,x.2)
def rb(b:List B):A5×Nat:=
 let x:=Tk.tf ⟨b,false⟩;let n:=b.length-x.2.V5.length
 if x.2.Dx then(Xi,0)
 else match P8 x.1 with
  |none=>(Xi,0)
  |some Up=>if Up=b.take n then(x.1,n)else(Xi,0)
def s8:Nat->List B->List A5×List B
 |0,b=>([],b)
 |f+1,b=>
  let x:=rb b
  if x.2=0 then([],b)else
  let y:=s8 f (b.drop x.2)
  (x.1::y.1,y.2)
def N5:List A5->Option (List B)
 |[]=>some []
 |r::l=>match P8 r,N5 l with
  |some b,some c=>some (b++c)
  |_,_=>none
structure T6 where
 num:Int
 first:Int
 Fc:Bool
 data:List B
def qm:T6:=⟨0,0,false,[]⟩
def T6.bytes(s:T6):List B:=
 let a:B:=BitVec.ofNat 8 s.data.length|||(if s.Fc then 128#8 else 0#8)
 let head:=U5 (BitVec.ofInt 64 s.num) 4++U5 (BitVec.ofInt 64 s.first) 4++[a]++s.data
 Rf (head++List.replicate (16-s.data.length) 0#8)++head.take 4
def p7(b:List B):Int:=(an b).toInt
def I8(b:List B):Option T6:=
 let e:=b.length-4
 match Vc (b.take e)with
 |none=>none
 |some x=>
  if¬x.length=25∨¬p7 (x.take 4)=p7 (b.drop e)then none else
  let c:B:=x.getD 8 0#8;let n:Nat:=(c&&& ~~~128#8).toNat
  if n>16∨(x.drop (min (9+n) x.length)).any (λc=>decide (¬c=0#8))=true then none
  else some ⟨p7 (x.take 4),p7 ((x.take 8).drop 4),decide (¬c&&&128#8=0#8),(x.take (9+n)).drop 9⟩
structure N7 where
 next:Int
 first:Int
 wj:Int
def W9(n:Int)(d:U2):Int:=(n-1).tmod d.P1.length
def t6(d:U2)(i:Int):T6×Bool:=match I8 (d.o9 i).1 with
 |none=>(qm,false)
 |some s=>(s,decide (s.num>=1)&&decide (W9 s.num d=i))
def Vf(d:U2):T6:=(List.range d.P1.length).foldl (λ(r9:T6)(i:Nat)=>
 let s:=t6 d (i:Int)
 if s.2=true∧s.1.num>r9.num then s.1 else r9) qm
def va(d:U2):Nat->Int->List (List B)->Option (List (List B))
 |0,_,r9=>some r9
 |k+1,n,r9=>
  let s:=t6 d (W9 n d)
  if s.2=false∨¬s.1.num=n then none else
  let r9:=if s.1.Fc then r9++[[]]else r9
  va d k (n+1) (r9.dropLast++[r9.getLastD []++s.1.data])
def Y7:List (List B)->Option (List A5)
 |[]=>some []
 |row::l=>
  let x:=s8 row.length row
  if x.2.length>23 then none else(Y7 l).map (x.1++·)
def I'(d:U2):Option (N7×List A5):=
 let s:=Vf d
 if s.num>0 then
  if s.first<1∨s.first>s.num∨s.num-s.first>=d.P1.length then none
  else match va d (s.num-s.first+1).toNat s.first [[]]with
   |none=>none
   |some B0=>match Y7 B0 with
    |none=>none
    |some r9=>some (⟨s.num+1,s.first,s.first⟩,r9)
 else some (⟨1,1,1⟩,[])
def N7.free(l:N7)(d:U2):Int:=d.P1.length-l.next+l.wj
def zd(b:List B):Int:=((b.length:Int)+16-1).tdiv 16
def N7.ra(l:N7)(d:U2)(P0:List A5)(p9 O2:Int):List B×Int:=match N5 P0 with
 |none=>([],10)
 |some b=>
  let n:=zd b+p9
  if O2<0 then([],11)
  else if l.free d-n<O2∨l.next>4294967296-n then([],15)
  else(b,0)
def N7.Gx(l:N7)(d:U2)(data:List B)(a:Bool):N7×U2:=
 ({l with next:=l.next+1},(d.x7 (W9 l.next d) (T6.bytes ⟨l.next,l.first,a,data⟩)).2)
def N7.x7(l:N7)(d:U2):Nat->Bool->List B->N7×U2
 |0,_,_=>(l,d)
 |f+1,first,b=>if b=[]then(l,d)else
  let x:=l.Gx d (b.take 16) first
  N7.x7 x.1 x.2 f false (b.drop 16)
def N7.append(l:N7)(d:U2)(P0:List A5)(O2:Int):Int×N7×U2:=
 let x:=l.ra d P0 0 O2
 if x.2=0 then(x.2,l.x7 d x.1.length true x.1)else(x.2,l,d)
def N7.Z8(l:N7)(d:U2):N7×U2:=({l with wj:=l.first},d.iy)
def N7.T0(l:N7)(d:U2)(P0:List A5)(O2:Int):Int×N7×U2:=
 let x:=l.ra d P0 1 O2
 if¬x.2=0 then(x.2,l,d)else
 let y:=l.x7 d x.1.length true x.1;let z:=N7.Gx {y.1 with first:=l.next} y.2 [] true
 (0,z.1,z.2)
def w4.cmp(a b:w4):Int:=
 if¬a.a=b.a then(if a.a.toNat<b.a.toNat then -1 else 1)
 else if¬a.b=b.b then(if a.b.toNat<b.b.toNat then -1 else 1)
 else if¬a.x=b.x then(if a.x.toNat<b.x.toNat then -1 else 1)
 else if¬a.y=b.y then(if a.y.toNat<b.y.toNat then -1 else 1)
 else 0
def uk{α:Type}(le:α->α->Bool)(x:α):List α->List α
 |[]=>[x]
 |y::l=>if le x y then x::y::l else y::uk le x l
def J7{α:Type}(le:α->α->Bool):List α->List α
 |[]=>[]
 |x::l=>uk le x (J7 le l)
def Fx(a b:w4):Bool:=decide (a.cmp b<=0)
def aa(a b:E2):Bool:=Fx a.key b.key
def Kt{α:Type}(eq:α->α->Bool):α->List α->List α
 |x,[]=>[x]
 |x,y::l=>if eq x y then Kt eq x l else x::Kt eq y l
def D6(eq:α->α->Bool):List α->List α
 |[]=>[]
 |x::l=>Kt eq x l
theorem cB1(eq:α->α->Bool)(x:α):D6 eq [x]=[x]:=rfl
theorem cB2(eq:α->α->Bool)(x y:α)(l:List α):D6 eq (x::y::l)=if eq x y then D6 eq (x::l)else x::D6 eq (y::l):=rfl
def gc(l:List E2):List E2:=(D6 (λa b=>decide (a.key=b.key)) (J7 aa l.reverse)).filter (λp=>p.val.K3)
abbrev C6:=List (w4×Ba)
def C6.put(d:C6)(k:w4)(v:Ba):Int×C6:=
 if v.right=false then(10,d)
 else if(K0 d k).isSome=false∧(d.length:Int)>=16 then(16,d)
 else(0,R1 d k v)
def Z2(d:List (w4×Ba)):List E2:=J7 aa (d.map λ(x:w4×Ba)=>⟨x.1,x.2⟩)
def Yl(k:w4):List E2->Ba
 |[]=>X0
 |p::l=>if p.key=k then p.val else Yl k l
def Hb(N0:List E2)(k:w4):Ba:=Yl k N0.reverse
def Nn(d:C6)(N0:List E2):List E2:=gc (N0++Z2 d)
def Mi(d:C6)(tx:Int)(N0:List E2):List A5:=(Z2 d).map λ(p:E2)=>
 let old:=Hb N0 p.key
 ⟨1,tx,0#16,p.key,if old.right then old else X0,p.val⟩
structure xf where
 n:Int
 J0:BitVec 16
 T1:Bool
 K2:List E2
structure x8 where
 N0:List E2
 L5:List xf
structure ib where
 J0:BitVec 16
 T1:Bool
 K2:List (w4×Ba)
def zg:ib:=⟨0#16,false,[]⟩
structure Z1 where
 N0:List E2
 G0:List (Int×ib)
 left:Int
 H9:List E2
def Z1.of(p:Z1)(tx:Int):ib×Z1:=match K0 p.G0 tx with
 |some w=>(w,p)
 |none=>(zg,{p with G0:=R1 p.G0 tx zg})
def Z1.bb(p:Z1):Z1:=if p.left=0 then{p with N0:=gc p.H9,left:= -1,G0:=[]}else p
def Z1.Zf(p:Z1)(tx:Int)(w:ib):Z1:=
 if(w.J0.toNat:Int)=0∨w.T1=true then p
 else{p with N0:=gc (p.N0++Z2 w.K2),G0:=R1 p.G0 tx {w with T1:=true,K2:=[]}}
def Z1.one(p:Z1)(r:A5):Z1:=
 if r.W0=8 then Z1.bb {p with left:=(r.J0.toNat:Int),H9:=[]}
 else if r.W0=7 then(if p.left>0 then Z1.bb {p with left:=p.left-1,H9:=p.H9++[⟨r.key,r.new⟩]}else p)
 else
  let p:={p with left:= -1}
  if r.W0=1 then
   let x:=p.of r.tx
   if(x.1.J0.toNat:Int)=0 then{x.2 with G0:=R1 x.2.G0 r.tx {x.1 with K2:=R1 x.1.K2 r.key r.new}}else x.2
  else if r.W0=2 then
   let x:=p.of r.tx
   if(x.1.J0.toNat:Int)=0 then{x.2 with G0:=R1 x.2.G0 r.tx {x.1 with J0:=r.J0}}else x.2
  else if r.W0=4 then
   let x:=p.of r.tx
   x.2.Zf r.tx x.1
  else if r.W0=5∨r.W0=6 then{p with G0:=U7 p.G0 r.tx}
  else p
def Pe(a b:Int):Bool:=decide (a<=b)
def T3(m:List (Int×β)):List Int:=J7 Pe (m.map (·.1))
def P6(l:List A5):x8:=
 let p:=l.foldl (λ(p:Z1)(r:A5)=>if r.right then p.one r else p) ⟨[],[],-1,[]⟩
 ⟨p.N0,(T3 p.G0).filterMap λ(n:Int)=>match K0 p.G0 n with
  |none=>none
  |some w=>if(w.J0.toNat:Int)=0 then none else some ⟨n,w.J0,w.T1,Z2 w.K2⟩⟩
def J8:List E2->Bool
 |x::y::l=>decide (x.key.cmp y.key<0)&&J8 (y::l)
 |_=>true
def xf.right(x:xf)(Sn:Int):Bool:=
 decide (x.n>Sn)&&decide (x.n<=1048576)&&decide (¬(x.J0.toNat:Int)=0)&&(!x.T1||decide (x.K2.length=0))&&J8 x.K2&& !(x.K2.any λp=>!p.val.K3&&decide (¬p.val.n=0))
def Ie:Int->List xf->Bool
 |_,[]=>true
 |ba,x::l=>x.right ba&&Ie x.n l
def x8.right(s:x8):Bool:= !(decide ((s.N0.length:Int)>64)|| !J8 s.N0||s.N0.any λp=>!p.val.K3)&&Ie 0 s.L5
def xf.S0(x:xf)(N0:List E2):List A5:=
 (x.K2.map λ(p:E2)=>(⟨1,x.n,0#16,p.key,Hb N0 p.key,p.val⟩:A5))++[⟨2,x.n,x.J0,Y3,X0,X0⟩]++(if x.T1 then[⟨4,x.n,0#16,Y3,X0,X0⟩]else[])
def x8.S0(s:x8):Option (List A5):=
 if s.right=false then none
 else some ([⟨8,0,BitVec.ofNat 16 s.N0.length,Y3,X0,X0⟩]++(s.N0.map λ(p:E2)=>(⟨7,0,0#16,p.key,X0,p.val⟩:A5))++s.L5.flatMap λ(x:xf)=>x.S0 s.N0)
def x8.dr(s:x8)(T1:Bool):List Int:=(s.L5.filter λx=>x.T1==T1).map (·.n)
structure W5 where
 tx:Int
 T8:Bool
 ec:Int
 Oe:Bool
structure R5 where
 N4:List W5
 R3:List W5
def ya:R5:=⟨[],[]⟩
def idxOf{α:Type}(p:α->Bool):List α->Int
 |[]=> -1
 |x::l=>if p x then 0 else(let i:=idxOf p l;if i<0 then -1 else i+1)
def R5.Bk(r:R5)(tx:Int):Int:=idxOf (λw=>decide (w.tx=tx)) r.N4
def R5.Um(r:R5)(w:W5):Bool:= !(r.N4.any λh=>decide (¬h.tx=w.tx)&&(h.T8||w.T8))
def R5.VM(r:R5)(w:W5):R5:=
 let i:=r.Bk w.tx
 if i>=0 then{r with N4:=r.N4.modify i.toNat λh=>{h with T8:=true}}
 else{r with N4:=r.N4++[w]}
def R5.R0(r:R5)(w:W5):R5:=
 let i:=idxOf (λ(x:W5)=>!x.Oe) r.R3;let a:Nat:=if w.Oe then(if i<0 then r.R3.length else i.toNat)else r.R3.length
 {r with R3:=r.R3.take a++[w]++r.R3.drop a}
def R5.on:Nat->R5->R5
 |0,r=>r
 |f+1,r=>match r.R3 with
  |[]=>r
  |w::q=>if r.Um w then R5.on f (R5.VM ⟨r.N4,q⟩ w)else r
structure L3 where
 S5:Int
 B0:List (w4×R5)
 B5:List (Int×w4)
def L3.row(t:L3)(k:w4):R5×L3:=match K0 t.B0 k with
 |some r=>(r,t)
 |none=>(ya,{t with B0:=R1 t.B0 k ya})
def L3.N4(t:L3)(tx:Int)(k:w4):Int:=match K0 t.B0 k with
 |none=>0
 |some r=>
  let i:=r.Bk tx
  if i<0 then 0 else if(r.N4.getD i.toNat ⟨0,false,0,false⟩).T8 then 2 else 1
def L3.ask(t:L3)(tx:Int)(k:w4)(b:Bool)(C0:Int):Int×L3:=
 if tx<1∨tx>1048576∨C0<0∨C0>1099511627776 then(11,t)else
 let a:=t.N4 tx k
 if a=2∨(a=1∧b=false)then(0,t)else
 match K0 t.B5 tx with
 |some c=>if c=k then(17,t)else(13,t)
 |none=>
  let x:=t.row k;let w:W5:=⟨tx,b,C0,decide (a=1)⟩
  if x.1.Um w=true∧(x.1.R3.length=0∨w.Oe=true)then(0,{x.2 with B0:=R1 x.2.B0 k (x.1.VM w)})
  else(17,{x.2 with B0:=R1 x.2.B0 k (x.1.R0 w),B5:=R1 x.2.B5 tx k})
def L3.on(t:L3)(k:w4):L3:=
 let x:=t.row k;let r:=R5.on x.1.R3.length x.1;let amz:=x.1.R3.take (x.1.R3.length-r.R3.length);let B5:=amz.foldl (λ(m:List (Int×w4))(w:W5)=>U7 m w.tx) x.2.B5
 {x.2 with B5:=B5,B0:=if r.N4.length+r.R3.length=0 then U7 x.2.B0 k else R1 x.2.B0 k r}
def Gg(l:List W5)(tx:Int):List W5:=l.filter λw=>decide (¬w.tx=tx)
def L3.Vq(t:L3)(tx:Int):Bool×L3:=match K0 t.B5 tx with
 |none=>(false,t)
 |some k=>
  let x:=L3.row {t with B5:=U7 t.B5 tx} k
  (true,L3.on {x.2 with B0:=R1 x.2.B0 k {x.1 with R3:=Gg x.1.R3 tx}} k)
def X7(l:List w4):List w4:=J7 Fx l
def L3.WS(t:L3)(is:R5->Bool):List w4:=X7 ((t.B0.filter λ(x:w4×R5)=>is x.2).map (·.1))
def L3.U1(t:L3)(tx:Int):List w4:=t.WS λr=>decide (r.Bk tx>=0)
def L3.Cc(t:L3):List w4:=t.WS λr=>decide ((r.N4.length:Int)>0)
def L3.Fh(t:L3)(tx:Int)(k:w4):L3:=
 let x:=t.row k
 {x.2 with B0:=R1 x.2.B0 k ⟨Gg x.1.N4 tx,Gg x.1.R3 tx⟩}
def L3.free(t:L3)(tx:Int):L3:=
 let ks:=t.U1 tx;let ks':=D6 (λ(a b:w4)=>decide (a=b)) (X7 (match K0 t.B5 tx with
  |some k=>ks++[k]
  |none=>ks))
 let t:={t with B5:=U7 t.B5 tx};let t:=ks'.foldl (λ(t:L3)(k:w4)=>t.Fh tx k) t
 ks'.foldl (λ(t:L3)(k:w4)=>t.on k) t
def L3.Q9(t:L3)(C0:Int):List Int:=J7 Pe (t.B0.flatMap λ(x:w4×R5)=>(x.2.R3.filter λw=>decide (C0>=w.ec+t.S5)).map (·.tx))
structure I7 where
 B4:Int
 Ge:Int
 I3:C6
structure E1 where
 N0:List E2
 S3:L3
 G0:List (Int×I7)
def E1.new(R0:Int)(N0:List E2):Option E1:=
 if R0<1∨R0>1000 then none else
 let b:=gc N0
 if(b.length:Int)>64 then none else some ⟨b,⟨R0,[],[]⟩,[]⟩
def E1.Um(s:E1)(tx:Int):Int:=
 if tx<1∨tx>1048576 then 11
 else if(K0 s.G0 tx).isSome=true then 13
 else if(s.G0.length:Int)>=8 then 16 else 0
def E1.I1(s:E1)(tx:Int):Int×E1:=
 let e:=s.Um tx
 if e=0 then(0,{s with G0:=R1 s.G0 tx ⟨1,0,[]⟩})else(e,s)
def I4(m:List (w4×Int))(l:List E2):List (w4×Int):=l.foldl (λm p=>if p.val.K3 then R1 m p.key ((K0 m p.key).getD 0+1)else m) m
def E1.fx(s:E1)(p9:List E2):Bool:=
 let m:=I4 (I4 [] s.N0) p9;let m:=s.G0.foldl (λm(x:Int×I7)=>I4 m (Z2 x.2.I3)) m;decide ((m.length:Int)>64)
def wa(w:Option I7)(W0:Int):Int:=
 if W0<1∨W0>4 then 10
 else match w with
  |none=>12
  |some w=>if w.B4=3 then 20 else w.Ge
def E1.ajR(s:E1)(w:I7)(k:w4):Ba:=match K0 w.I3 k with
 |some v=>v
 |none=>Hb s.N0 k
def E1.qb(s:E1)(tx:Int)(e:Int):Bool×E1:=match K0 s.G0 tx with
 |none=>(false,s)
 |some w=>if¬w.B4=1∨e=0 then(false,s)else(true,{s with G0:=R1 s.G0 tx ⟨2,e,w.I3⟩,S3:=(s.S3.Vq tx).2})
def E1.Yg(s:E1)(tx:Int)(w:I7)(k:w4)(v:Ba):Int×E1:=
 if v.K3=true∧s.fx [⟨k,v⟩]=true then(16,s)else
 let x:=C6.put w.I3 k v
 (x.1,{s with G0:=R1 s.G0 tx {w with I3:=x.2}})
structure Rep where
 Ge:Int
 val:Ba
def E1.t7(s:E1)(op:Op)(C0:Int):Rep×E1:=match wa (K0 s.G0 op.tx) op.W0,K0 s.G0 op.tx with
 |e,none=>(⟨e,X0⟩,s)
 |e,some w=>
  if¬e=0 then(⟨e,X0⟩,s)
  else if op.W0=4 then(⟨0,X0⟩,(s.qb op.tx 19).2)
  else
   let x:=s.S3.ask op.tx op.key (decide (¬op.W0=1)) C0;let s:={s with S3:=x.2}
   if¬x.1=0 then(⟨x.1,X0⟩,s)
   else if op.W0=1 then(⟨0,s.ajR w op.key⟩,s)
   else
    let y:=s.Yg op.tx w op.key (if op.W0=2 then⟨true,op.n⟩else X0)
    (⟨y.1,X0⟩,(y.2.qb op.tx y.1).2)
def E1.Q9(s:E1)(C0:Int):List Int×E1:=
 let l:=s.S3.Q9 C0
 (l,l.foldl (λ(s:E1)(tx:Int)=>(s.qb tx 18).2) s)
def E1.K7(s:E1)(tx:Int):E1:={s with G0:=U7 s.G0 tx,S3:=s.S3.free tx}
def E1.Y4(s:E1)(tx:Int)(J0:BitVec 16):Int×List A5×Int×E1:=match K0 s.G0 tx with
 |none=>(0,[],12,s)
 |some w=>
  if w.B4=3 then(0,[],20,s)
  else if(J0.toNat:Int)=0 then(0,[],10,s)
  else if w.B4=2∨(K0 s.S3.B5 tx).isSome=true then(0,[],0,s.K7 tx)
  else if w.I3.length=0 then(2,[],0,s.K7 tx)
  else(1,Mi w.I3 tx s.N0++[⟨2,tx,J0,Y3,X0,X0⟩],0,{s with G0:=R1 s.G0 tx {w with B4:=3}})
def E1.xe(s:E1)(tx:Int)(a:Bool):Int×E1:=match K0 s.G0 tx with
 |none=>(12,s)
 |some w=>
  if a=true∧¬w.B4=3 then(19,s)
  else(0,E1.K7 (if a then{s with N0:=Nn w.I3 s.N0}else s) tx)
def i':List E2->C6->Option w4->Option C6
 |[],d,_=>some d
 |p::l,d,ba=>
  let x:=C6.put d p.key p.val
  if¬x.1=0∨(match ba with|some k=>decide (k.cmp p.key>=0)|none=>false)=true then none
  else i' l x.2 (some p.key)
def E1.i7(s:E1)(tx:Int)(P0:List E2):Int×E1:=
 let e:=s.Um tx
 if¬e=0 then(e,s)else
 match(if P0=[]then none else i' P0 [] none)with
 |none=>(10,s)
 |some d=>
  let a:=s.S3.Cc
  if P0.any (λp=>a.contains p.key)=true then(17,s)
  else if s.fx P0=true then(16,s)
  else(0,{s with G0:=R1 s.G0 tx ⟨3,0,d⟩,S3:=P0.foldl (λ(t:L3)(p:E2)=>(t.ask tx p.key true 0).2) s.S3})
def E1.N9(s:E1)(tx:Int):Int:=match K0 s.G0 tx with
 |none=>0
 |some w=>w.B4
def E1.rc(s:E1)(tx:Int):List E2:=match K0 s.G0 tx with
 |none=>[]
 |some w=>Z2 w.I3
structure E6 where
 J0:BitVec 16
 I1:Int
 Y4:Int
 N2:Int
 z7:Bool
 Dn:Bool
 qt:Bool
structure d4 where
 me:Int
 X9:N7
 U1:E1
 B0:List (Int×E6)
structure PW where
 E0:d4
 O0:J2
 M6:U2
def d4.new(me R0:Int)(d:U2):Option d4:=match I' d with
 |none=>none
 |some (l,S0)=>
  let st:=P6 S0
  match E1.new R0 st.N0 with
  |none=>none
  |some s=>st.L5.foldl (λ(o:Option d4)(x:xf)=>match o with
   |none=>none
   |some p=>if x.T1 then some p else
    let r:=p.U1.i7 x.n x.K2
    if¬r.1=0 then none else some {p with U1:=r.2,B0:=R1 p.B0 x.n ⟨x.J0,0,1,0,true,false,false⟩}) (some ⟨me,l,s,[]⟩)
def Nf(R0:Int):Int:=if R0<1∨R0>1000 then 11 else 16
def Wc:d4->List xf->Int
 |_,[]=>0
 |p,x::l=>if x.T1 then Wc p l else
  let r:=p.U1.i7 x.n x.K2
  if¬r.1=0 then r.1 else Wc {p with U1:=r.2,B0:=R1 p.B0 x.n ⟨x.J0,0,1,0,true,false,false⟩} l
def Bj(me R0:Int)(d:U2):Int:=match I' d with
 |none=>21
 |some (l,S0)=>match E1.new R0 (P6 S0).N0 with
  |none=>Nf R0
  |some s=>Wc ⟨me,l,s,[]⟩ (P6 S0).L5
def d4.V2(p:d4)(tx:Int)(J0:BitVec 16)(I1 C0:Int):Int×d4:=
 if Qe (W J0) p.me=false then(0,p)else
 match K0 p.B0 tx with
 |some r=>(0,{p with B0:=R1 p.B0 tx {r with I1:=I1}})
 |none=>
  if¬I1=C0 then(0,{p with B0:=R1 p.B0 tx ⟨J0,I1,0,0,false,false,false⟩})else
  let x:=p.U1.I1 tx
  (x.1,{p with U1:=x.2,B0:=R1 p.B0 tx ⟨J0,I1,0,0,false,false,decide (x.1=0)⟩})
def d4.t7(p:d4)(pl:R9)(op:Op)(C0:Int):Rep×d4:=
 if¬pl.K6 C0=p.me then(⟨23,X0⟩,p)else
 match K0 p.B0 op.tx with
 |none=>(⟨12,X0⟩,p)
 |some r=>
  if r.z7=true∨C0>=pl.M8 r.I1 then(⟨19,X0⟩,p)else
  let x:=p.U1.t7 op C0
  (x.1,{p with U1:=x.2})
def PW.Z8(x:PW)(O2:Int)(P0:List A5):Int×PW:=
 let y:=x.E0.X9.append x.M6 P0 O2
 if y.1=0 then
  let z:=y.2.1.Z8 y.2.2
  (0,{x with E0:={x.E0 with X9:=z.1},M6:=z.2})
 else(y.1,{x with E0:={x.E0 with X9:=y.2.1},M6:=y.2.2})
def PW.Y4(x:PW)(tx:Int)(r:E6):PW:=
 let y:=x.E0.U1.Y4 tx r.J0;let x:={x with E0:={x.E0 with U1:=y.2.2.2}};let v:=if¬y.2.2.1=0 then 0 else y.1
 let z:=if v=1 then
  let f:=x.Z8 12 y.2.1
  if¬f.1=0 then((0:Int),{f.2 with E0:={f.2.E0 with U1:=(f.2.E0.U1.xe tx false).2}})else(v,f.2)
  else(v,x)
 {z.2 with E0:={z.2.E0 with B0:=R1 z.2.E0.B0 tx {r with Y4:=z.1,z7:=true}}}
def PW.decide(x:PW)(tx:Int)(r:E6)(s9:Bool):Int×PW:=
 let P0:List A5:=if s9 then[⟨4,tx,0#16,Y3,X0,X0⟩,⟨6,tx,0#16,Y3,X0,X0⟩]else[⟨5,tx,0#16,Y3,X0,X0⟩]
 let f:=x.Z8 0 P0
 if¬f.1=0 then f else
 let e:=f.2.E0.U1.xe tx s9
 (e.1,{f.2 with E0:={f.2.E0 with U1:=e.2,B0:=R1 f.2.E0.B0 tx {r with N2:=if s9 then 2 else 1}}})
def PW.Z6(x:PW)(W0 tx H8 C0:Int):PW:={x with O0:=(x.O0.Z6 x.E0.me x.O0.D0.A0 ⟨W0,x.E0.me,tx,H8⟩ C0).2}
def PW.take(x:PW)(m:P9)(C0:Int):Int×PW:=match K0 x.E0.B0 m.tx with
 |none=>(0,x)
 |some r=>
  if m.W0=5 then(0,{x with E0:={x.E0 with B0:=R1 x.E0.B0 m.tx {r with Dn:=r.z7}}})
  else if m.W0=4 then
   if x.E0.U1.N9 m.tx=3 then
    let d:=x.decide m.tx r (Decidable.decide (m.H8=1))
    if¬d.1=0 then d else(0,d.2.Z6 3 m.tx 0 C0)
   else(0,x.Z6 3 m.tx 0 C0)
  else(0,x)
def PW.jb(x:PW)(tx:Int)(r:E6)(C0:Int):PW:=
 let a:=Decidable.decide (C0>=x.O0.D0.E5 r.I1)
 if r.z7=true∧r.Dn=false∧a=false then x.Z6 1 tx r.Y4 C0
 else if a=true∧x.E0.U1.N9 tx=3 then x.Z6 2 tx 0 C0
 else x
def Cb:E6:=⟨0#16,0,0,0,false,false,false⟩
def Y8{ρ:Type}(B0:σ->List (Int×ρ))(r0:ρ)(f:σ->Int->ρ->σ)(s:σ):σ:=(T3 (B0 s)).foldl (λ(s:σ)(tx:Int)=>f s tx ((K0 (B0 s) tx).getD r0)) s
def PW.run(x:PW)(C0:Int):Int×PW:=
 if¬x.O0.D0.K6 C0=x.E0.me then(23,x)else
 let x:={x with E0:={x.E0 with U1:=(x.E0.U1.Q9 C0).2}};let x:=Y8 (λ(x:PW)=>x.E0.B0) Cb (λ(x:PW)(tx:Int)(r:E6)=>if r.z7=false∧C0>=x.O0.D0.M8 r.I1 then x.Y4 tx r else x) x;let m:=x.O0.J6 x.E0.me x.E0.me 0 C0;let x:={x with O0:=m.2.2};let y:=if m.2.1=0 then x.take m.1 C0 else(0,x)
 (y.1,Y8 (λ(x:PW)=>x.E0.B0) Cb (λ(x:PW)(tx:Int)(r:E6)=>x.jb tx r C0) y.2)
def PW.T0(x:PW)(C0:Int):Int×PW:=
 if¬x.O0.D0.K6 C0=x.E0.me then(23,x)else
 let st:x8:=⟨x.E0.U1.N0,(T3 x.E0.B0).filterMap λ(tx:Int)=>if x.E0.U1.N9 tx=3 then some ⟨tx,((K0 x.E0.B0 tx).getD Cb).J0,false,x.E0.U1.rc tx⟩else none⟩
 match st.S0 with
 |none=>(10,x)
 |some S0=>
  let y:=x.E0.X9.T0 x.M6 S0 0
  if y.1=0 then
   let z:=y.2.1.Z8 y.2.2
   (0,{x with E0:={x.E0 with X9:=z.1},M6:=z.2})
  else(y.1,{x with E0:={x.E0 with X9:=y.2.1},M6:=y.2.2})
structure T4 where
 J0:BitVec 16
 ka:BitVec 16
 done:BitVec 16
 need:BitVec 16
 I1:Int
 N2:Int
 V3:List Int
 Qc:Bool
 G':Bool
structure D8 where
 X9:N7
 B0:List (Int×T4)
structure CW where
 O1:D8
 O0:J2
 M6:U2
def T4.new(A0:Int)(J0:BitVec 16)(a:Int):T4:=⟨J0,0#16,0#16,0#16,a,0,List.replicate A0.toNat (-1),false,false⟩
def T4.Gh(r:T4):Bool:= !(r.V3.zipIdx.any λ(x:Int×Nat)=>Qe (W r.J0) (x.2:Int)&&Decidable.decide (¬x.1=1)&&Decidable.decide (¬x.1=2))
def T4.s9(r:T4):BitVec 16:=r.V3.zipIdx.foldl (λ(o:BitVec 16)(x:Int×Nat)=>if x.1=1 then o|||Lk (x.2:Int)else o) 0#16
def D8.new(A0:Int)(d:U2):Option D8:=match I' d with
 |none=>none
 |some (l,S0)=>some ⟨l,(P6 S0).L5.foldl (λ(B0:List (Int×T4))(x:xf)=>
  if x.T1 then R1 B0 x.n {T4.new A0 x.J0 0 with N2:=2,need:=x.J0}else B0) []⟩
def leastOf(m:BitVec 16):Int:=((List.range 16).find? λ(i:Nat)=>m.getLsbD i).elim 64 λ(i:Nat)=>(i:Int)
def CW.V2(x:CW)(tx:Int)(J0:BitVec 16)(I1:Int):Int×CW:=
 let ok:=(K0 x.O1.B0 tx).isSome;let r:=(K0 x.O1.B0 tx).getD (T4.new x.O0.D0.A0 J0 I1);let r:={r with J0:=J0,I1:=I1};let g:=x.O0.R4.U6 tx J0 (x.O0.D0.E5 I1);let ain:=if ok then R1 x.O1.B0 tx r else x.O1.B0
 let x:={x with O0:={x.O0 with R4:=g.2}}
 if¬g.1=0∧¬g.1=13 then(g.1,{x with O1:={x.O1 with B0:=ain}})else
 let v:=x.O0.R4.o9 tx (leastOf J0) 2199023255552
 if¬v.2=0 then(0,{x with O1:={x.O1 with B0:=R1 x.O1.B0 tx r}})
 else
  let r:=if v.1=1 then{r with N2:=2,ka:=J0}else{r with N2:=1}
  (0,{x with O1:={x.O1 with B0:=R1 x.O1.B0 tx {r with G':=r.G'|| !ok}}})
def CW.Xa(x:CW)(tx C0:Int):Int×CW:=match K0 x.O1.B0 tx with
 |none=>(12,x)
 |some r=>if¬r.N2=0∨C0>=x.O0.D0.E5 r.I1 then(19,x)else(0,{x with O1:={x.O1 with B0:=R1 x.O1.B0 tx {r with Qc:=true}}})
def CW.T9(x:CW)(tx C0:Int):Int×Int:=match K0 x.O1.B0 tx with
 |none=>(0,12)
 |some r=>x.O0.R4.o9 tx (leastOf r.J0) C0
def CW.Z6(x:CW)(E0 W0 tx H8 C0:Int):CW:={x with O0:=(x.O0.Z6 x.O0.D0.A0 E0 ⟨W0,E0,tx,H8⟩ C0).2}
def CW.setRow(x:CW)(tx:Int)(r:T4):CW:={x with O1:={x.O1 with B0:=R1 x.O1.B0 tx r}}
def CW.z7(x:CW)(r:T4)(m:P9)(C0:Int):CW:=
 let r:=if r.N2=0∧r.V3.getD m.E0.toNat 0= -1 then{r with V3:=r.V3.set m.E0.toNat m.H8}else r
 let x:=(x.setRow m.tx r).Z6 m.E0 5 m.tx 0 C0
 if¬r.N2=0∧m.H8=1∧Qe (W r.done) m.E0=false then x.setRow m.tx {r with ka:=r.ka|||Lk m.E0}else x
def CW.done(x:CW)(r:T4)(m:P9):CW:=
 let r:={r with done:=r.done|||Lk m.E0,ka:=r.ka&&& ~~~(Lk m.E0)}
 if¬r.N2=2∨r.G'=true∨¬((r.need&&& ~~~r.done).toNat:Int)=0 then x.setRow m.tx r else
 let y:=x.O1.X9.append x.M6 [⟨6,m.tx,0#16,Y3,X0,X0⟩] 0
 CW.setRow {x with O1:={x.O1 with X9:=y.2.1},M6:=y.2.2} m.tx {r with G':=Decidable.decide (y.1=0)}
def CW.take(x:CW)(m:P9)(C0:Int):CW:=match K0 x.O1.B0 m.tx with
 |none=>x
 |some r=>
  if Qe (W r.J0) m.E0=false then x
  else if m.W0=1 then x.z7 r m C0
  else if m.W0=2 then(if¬r.N2=0 then x.setRow m.tx {r with ka:=r.ka|||Lk m.E0}else x)
  else if m.W0=3 then x.done r m
  else x
def CW.Uf(x:CW)(tx:Int)(r:T4):Bool×T4×CW:=
 let need:=r.s9;let P0:List A5:=if(need.toNat:Int)=0 then[⟨2,tx,r.J0,Y3,X0,X0⟩,⟨4,tx,0#16,Y3,X0,X0⟩,⟨6,tx,0#16,Y3,X0,X0⟩]
  else[⟨2,tx,need,Y3,X0,X0⟩,⟨4,tx,0#16,Y3,X0,X0⟩]
 let y:=x.O1.X9.append x.M6 P0 4;let x:={x with O1:={x.O1 with X9:=y.2.1},M6:=y.2.2}
 if¬y.1=0 then(false,r,x)else
 let z:=x.O1.X9.Z8 x.M6
 (true,{r with need:=need,G':=Decidable.decide ((need.toNat:Int)=0)},{x with O1:={x.O1 with X9:=z.1},M6:=z.2})
def CW.decide(x:CW)(tx:Int)(r:T4):CW:=
 let r:={r with N2:=1};let y:=if r.Qc=true∧r.Gh=true then x.Uf tx r else(false,r,x)
 let r:=if y.1 then{y.2.1 with N2:=2}else y.2.1
 let x:=y.2.2;let x:={x with O0:={x.O0 with R4:=(x.O0.R4.put tx (Decidable.decide (r.N2=2))).2}}
 x.setRow tx {r with ka:=r.s9}
def qj:T4:=⟨0#16,0#16,0#16,0#16,0,0,[],false,false⟩
def CW.ka(x:CW)(E0 C0:Int):CW:=Y8 (λ(x:CW)=>x.O1.B0) qj (λ(x:CW)(tx:Int)(r:T4)=>
 if Qe (W r.ka) E0=false then x else
 let v:=x.O0.R4.o9 tx E0 C0
 if v.2=0 then x.Z6 E0 4 tx v.1 C0 else x) x
def m6(n:Int)(f:σ->Int->σ)(s:σ):σ:=(List.range n.toNat).foldl (λ(s:σ)(i:Nat)=>f s (i:Int)) s
def CW.run(x:CW)(C0:Int):Int×CW:=
 let me:=x.O0.D0.A0
 if¬x.O0.D0.K6 C0=me then(23,x)else
 let x:=m6 me (λ(x:CW)(p:Int)=>
  let m:=x.O0.J6 x.O0.D0.A0 p 0 C0;let x:={x with O0:=m.2.2}
  if m.2.1=0 then x.take m.1 C0 else x) x
 let x:=Y8 (λ(x:CW)=>x.O1.B0) qj (λ(x:CW)(tx:Int)(r:T4)=>if r.N2=0∧C0>=x.O0.D0.E5 r.I1 then x.decide tx r else x) x
 (0,m6 me (λ(x:CW)(p:Int)=>x.ka p C0) x)
def CW.T0(x:CW)(C0:Int):Int×CW:=
 if¬x.O0.D0.K6 C0=x.O0.D0.A0 then(23,x)else
 let st:x8:=⟨[],(T3 x.O1.B0).filterMap λ(tx:Int)=>
  let r:=(K0 x.O1.B0 tx).getD qj
  if r.N2=2∧r.G'=false then some ⟨tx,r.need,true,[]⟩else none⟩
 match st.S0 with
 |none=>(10,x)
 |some S0=>
  let y:=x.O1.X9.T0 x.M6 S0 0
  if y.1=0 then
   let z:=y.2.1.Z8 y.2.2
   (0,{x with O1:={x.O1 with X9:=z.1},M6:=z.2})
  else(y.1,{x with O1:={x.O1 with X9:=y.2.1},M6:=y.2.2})
structure Ev where
 W0:Int
 Z3:Int
 N3:Int
 tx:Int
 t8:Int
 Q6:Int
 O8:Int
 J0:BitVec 16
 up:Bool
 uc:Bool
 op:Op
structure Wk where
 W0:Int
 zb:Int
 Z3:Int
 N3:Int
 tx:Int
 op:Op
 Ge:Int
 val:Ba
structure I0 where
 D0:R9
 R0:Int
 C0:Int
 O0:J2
 p6:O6
 P2:E9
 s7:List U2
 A0:List (Option d4)
 O1:Option D8
 M3:List Wk
def xH:U2:=⟨[],[],[]⟩
def I0.U4(h:I0)(n:Int):U2:=h.s7.getD n.toNat xH
def I0.G5(h:I0)(n:Int):Option d4:=h.A0.getD n.toNat none
def I0.cw(h:I0)(c:D8):CW:=⟨c,h.O0,h.U4 h.D0.A0⟩
def I0.pw(h:I0)(n:Int)(p:d4):PW:=⟨p,h.O0,h.U4 n⟩
def I0.G7(h:I0)(x:CW):I0:={h with O1:=some x.O1,O0:=x.O0,s7:=h.s7.set h.D0.A0.toNat x.M6}
def I0.qg(h:I0)(n:Int)(x:PW):I0:={h with A0:=h.A0.set n.toNat (some x.E0),O0:=x.O0,s7:=h.s7.set n.toNat x.M6}
def I0.L6(h:I0)(n:Int):Int×I0:=
 if n=h.D0.A0 then match D8.new h.D0.A0 (h.U4 n)with
  |none=>(21,h)
  |some c=>(0,{h with O1:=some c})
 else match d4.new n h.R0 (h.U4 n)with
  |none=>(Bj n h.R0 (h.U4 n),h)
  |some p=>(0,{h with A0:=h.A0.set n.toNat (some p)})
def I0.start(p:R9)(a R0:Int):I0:=
 let h:I0:=⟨p,R0,0,J2.new p,O6.new p.A0.toNat,⟨p,[],List.replicate 8 0⟩,List.replicate (p.A0.toNat+1) (U2.new a.toNat),List.replicate p.A0.toNat none,none,[]⟩
 (List.range (p.A0.toNat+1)).foldl (λ(h:I0)(n:Nat)=>(h.L6 (n:Int)).2) h
def I0.up(h:I0)(n:Int):Bool:=if n=h.D0.A0 then h.O1.isSome else(h.G5 n).isSome
def I0.Vg(h:I0)(n:Int):Bool:=Decidable.decide (n>=0)&&Decidable.decide (n<=h.D0.A0)
structure QI where
 Ge:Int
 tx:Int
 val:Ba
def oA:QI:=⟨0,0,X0⟩
def ma(e:Int):QI:=⟨e,0,X0⟩
def I0.I1(h:I0)(ev:Ev):QI×I0:=
 let x:=h.P2.I1 ev.Z3 ev.J0 h.C0
 if¬x.2.1=0 then(ma x.2.1,h)else
 let h:={h with P2:=x.2.2,A0:=h.A0.map λ(p:Option d4)=>p.map λ(p:d4)=>(p.V2 x.1 ev.J0 h.C0 h.C0).2}
 (⟨0,x.1,X0⟩,match h.O1 with
  |none=>h
  |some c=>h.G7 ((h.cw c).V2 x.1 ev.J0 h.C0).2)
def I0.op(h:I0)(ev:Ev):QI×I0:=
 if¬(ev.N3>=0∧ev.N3<h.D0.A0)then(ma 11,h)else
 let x:=h.P2.Um ev.Z3 ev.N3 h.C0
 if¬x.2=0 then(ma x.2,h)else
 match h.G5 ev.N3 with
 |none=>(⟨22,x.1,X0⟩,h)
 |some p=>
  let y:=p.t7 h.O0.D0 {ev.op with tx:=x.1} h.C0
  (⟨y.1.Ge,x.1,y.1.val⟩,{h with A0:=h.A0.set ev.N3.toNat (some y.2)})
def I0.Xa(h:I0)(ev:Ev):QI×I0:=
 let x:=h.P2.of ev.Z3 h.C0
 if x.2=false then(ma 12,h)else
 match h.O1 with
 |none=>(⟨22,x.1,X0⟩,h)
 |some c=>
  let y:=(h.cw c).Xa x.1 h.C0
  (⟨y.1,x.1,X0⟩,h.G7 y.2)
def I0.T9(h:I0)(ev:Ev):QI×I0:=
 if(h.P2.entry ev.tx).2=false then(⟨12,ev.tx,X0⟩,h)else
 match h.O1 with
 |none=>(⟨22,ev.tx,X0⟩,h)
 |some c=>
  let v:=(h.cw c).T9 ev.tx h.C0
  if¬v.2=0 then(⟨v.2,ev.tx,X0⟩,h)else(⟨0,ev.tx,⟨true,v.1⟩⟩,h)
def I0.pass(h:I0)(p:Int)(up:Bool):I0:=
 let o:=h.O0.Za p up
 {h with O0:=o.2,p6:=(h.p6.put p up o.1).2.2}
def I0.vj(h:I0):QI×I0:=
 let n:=h.D0.K6 h.C0
 if n=h.D0.A0 then match h.O1 with
  |none=>(ma 22,h)
  |some c=>
   let y:=(h.cw c).run h.C0
   (ma y.1,m6 (h.A0.length:Int) (λ(h:I0)(p:Int)=>h.pass p false) (h.G7 y.2))
 else match h.G5 n with
  |none=>(ma 22,h)
  |some p=>
   let y:=(h.pw n p).run h.C0
   (ma y.1,m6 (h.A0.length:Int) (λ(h:I0)(p:Int)=>if n=p then h.pass p true else h) (h.qg n y.2))
def I0.zb(h:I0):QI×I0:=if h.C0<1099511627776 then(oA,{h with C0:=h.C0+1})else(ma 11,h)
def I0.A9(h:I0)(ev:Ev):QI×I0:=
 let x:=h.p6.take ev.N3 ev.up ev.t8 ev.uc;let h:={h with p6:=x.2.2}
 if¬x.2.1=0 then(ma x.2.1,h)else
 if h.up (if ev.up then h.D0.A0 else ev.N3)=false then(ma 22,h)else
 let y:=h.O0.A9 ev.N3 ev.up x.1
 (if y.1 then oA else ma 15,{h with O0:=y.2})
def I0.Gd(h:I0)(n:Int)(ev:Ev):I0:=
 let h:={h with s7:=h.s7.set n.toNat ((h.U4 n).N6 ev.Q6 ev.O8),O0:=h.O0.clear n}
 if n=h.D0.A0 then{h with O1:=none}else{h with A0:=h.A0.set n.toNat none}
def I0.N6(h:I0)(ev:Ev):QI×I0:=
 if ev.W0=9 then
  if h.Vg ev.N3=false then(ma 11,h)
  else if h.up ev.N3=false then(ma 22,h)
  else(oA,h.Gd ev.N3 ev)
 else(oA,m6 (h.s7.length:Int) (λ(h:I0)(n:Int)=>if h.up n then h.Gd n ev else h) h)
def I0.xd(h:I0)(ev:Ev):QI×I0:=
 if h.Vg ev.N3=false then(ma 11,h)
 else if h.up ev.N3=true then(ma 13,h)
 else
  let o:=h.L6 ev.N3
  if¬o.1=0 then(ma o.1,h)else
  (oA,m6 (h.P2.P0.length:Int) (λ(h:I0)(n:Int)=>
   let x:=(h.P2.entry (n+1)).1
   if ev.N3=h.D0.A0 then match h.O1 with
    |none=>h
    |some c=>h.G7 ((h.cw c).V2 (n+1) x.J0 x.I1).2
   else match h.G5 ev.N3 with
    |none=>h
    |some p=>{h with A0:=h.A0.set ev.N3.toNat (some (p.V2 (n+1) x.J0 x.I1 (-1)).2)}) o.2)
def I0.fa(h:I0):QI×I0:=
 let n:=h.D0.K6 h.C0
 if n=h.D0.A0 then match h.O1 with
  |none=>(ma 22,h)
  |some c=>let y:=(h.cw c).T0 h.C0;(ma y.1,h.G7 y.2)
 else match h.G5 n with
  |none=>(ma 22,h)
  |some p=>let y:=(h.pw n p).T0 h.C0;(ma y.1,h.qg n y.2)
def I0.di(h:I0)(ev:Ev):QI×I0:=
 if ev.W0=1 then h.I1 ev
 else if ev.W0=2 then h.op ev
 else if ev.W0=3 then h.Xa ev
 else if ev.W0=4 then h.T9 ev
 else if ev.W0=5 then h.vj
 else if ev.W0=6 then h.zb
 else if ev.W0=7 then h.A9 ev
 else if ev.W0=8 then
  let x:=h.p6.take ev.N3 ev.up ev.t8 false
  (ma x.2.1,{h with p6:=x.2.2})
 else if ev.W0=9∨ev.W0=10 then h.N6 ev
 else if ev.W0=11 then h.xd ev
 else if ev.W0=12 then h.fa
 else(ma 10,h)
def I0.da(h:I0)(ev:Ev):Wk×I0:=
 let x:=h.di ev;let r:Wk:=⟨ev.W0,h.C0,ev.Z3,ev.N3,x.1.tx,ev.op,x.1.Ge,x.1.val⟩
 (r,{x.2 with M3:=x.2.M3++[r]})
def op0:Op:=⟨0,0,Y3,0⟩
def tH:Ev:=⟨0,0,0,0,0,0,0,0#16,false,false,op0⟩
def Zi{σ:Type}(f:σ->σ):Nat->σ->σ
 |0,s=>s
 |n+1,s=>Zi f n (f s)
def I0.all(h:I0)(p:Int)(up:Bool):I0:=Zi (λ(h:I0)=>(h.da {tH with W0:=7,N3:=p,up:=up}).2) (h.p6.Ot p up).length h
def I0.yd(h:I0):I0:=
 let n:=h.D0.K6 h.C0;let h:=if h.up n then h else(h.da {tH with W0:=11,N3:=n}).2
 let h:=(h.da {tH with W0:=5}).2;let h:=m6 (h.A0.length:Int) (λ(h:I0)(p:Int)=>(h.all p true).all p false) h
 (h.da {tH with W0:=6}).2
def I0.X8(h:I0)(adk:Int):I0:=Zi I0.yd (adk*(h.D0.A0+1)).toNat h
def Xj(h:I0)(n:Int):List A5×Bool:=match I' (h.U4 n)with
 |none=>([],false)
 |some x=>(x.2,true)
def K8(h:I0)(n:Int):List Int:=
 let S0:=(Xj h n).1
 (P6 S0).dr true++(S0.filter λ(r:A5)=>Decidable.decide (r.W0=4)).map (·.tx)
def wc(h:I0)(tx:Int)(e:Pc):Nat->Int->Bool
 |0,_=>false
 |f+1,p=>
  let v:=h.O0.R4.o9 tx p 2199023255552
  if e.J0.getLsbD p.toNat=true∧v.2=0 then Decidable.decide (v.1=1)else wc h tx e f (p+1)
def T7(h:I0):List Int:=
 let all:=(List.range h.s7.length).flatMap λ(n:Nat)=>K8 h (n:Int);let r9:=((List.range h.P2.P0.length).map λ(n:Nat)=>(n:Int)+1).filter λ(tx:Int)=>all.contains tx||wc h tx (h.P2.entry tx).1 6 0
 J7 (λ(a b:Int)=>Decidable.decide ((h.P2.entry a).1.I1<=(h.P2.entry b).1.I1)) r9
def Dg(h:I0)(E0:Int):List Int:=(h.P2.De E0).map λ(tx:Int)=>
 let v:=h.O0.R4.o9 tx E0 h.C0
 if v.2=0 then v.1+1 else 0
def aom(h:I0)(E0:Int):List E2×List Int×Bool:=
 if E0<0∨E0>=h.O0.D0.A0 then([],[],false)else
 let r:=Xj h E0
 if r.2=false then([],[],false)else
 let s:=P6 r.1
 (s.N0,s.dr false,true)
def iE:I0×Wk:=
 let h:=I0.start ⟨1,1,3⟩ 32 5;let h:=(h.da {tH with W0:=1,J0:=1#16}).2;let r:=h.da {tH with W0:=2,op:=⟨2,0,Y3,5⟩};let h:=(r.2.da {tH with W0:=3}).2
 (h.X8 6,r.1)
def nU:Bool:=
 let h:=iE.1;let r:=iE.2
 Decidable.decide (r.Ge=0)&&Decidable.decide (r.tx=1)&&(match h.G5 0 with|some p=>Decidable.decide (p.U1.N0.length=1)|none=>false)&&Decidable.decide (T7 h=[1])&&Decidable.decide (Dg h 0=[2])
theorem nI:nU=true:=by decide+kernel
section
variable{R:Nat->σ->HP}
def ea(R:Nat->σ->HP)(xs:List (Nat×σ)):HP:=C5 (xs.map λx=>R x.1 x.2)
theorem Hp.rq{l1 l2:List (Nat×σ)}{x:Nat×σ}(h:Hp c w (ea R (l1++x::l2)::L)):Hp c w (R x.1 x.2::ea R (l1++l2)::L):=by have a:=h.R6;rw[ic,Kb]at a;have d:Hp c w (R x.1 x.2::(((l1++l2).map λx=>R x.1 x.2)++L)):=a.Od Zb3;have b:Hp c w (((l1++l2).map λx=>R x.1 x.2)++(R x.1 x.2::L)):=d.Od List.perm_middle.symm;exact b.C3.Od (List.Perm.swap _ _ _)
theorem Hp.Xu{l1 l2:List (Nat×σ)}{x:Nat×σ}(h:Hp c w (R x.1 x.2::ea R (l1++l2)::L)):Hp c w (ea R (l1++x::l2)::L):=by have b:Hp c w (ea R (l1++l2)::R x.1 x.2::L):=h.Od (List.Perm.swap _ _ _);have a:=b.R6;refine Hp.C3 (A:=(l1++x::l2).map λx=>R x.1 x.2) (a.Od ?_);rw[ic,ic,Kb,N',N'];exact List.perm_middle.append_left _
theorem Hp.aez(h:Hp c w L):Hp c w (ea R []::L):=Hp.C3 (A:=[]) h
end
section
variable{κ:Type}[DecidableEq κ]{K:κ->Value}{R:Nat->σ->HP}{xs:List (κ×σ)}
abbrev kp(q:List (κ×Nat×σ)):List (κ×Nat):=q.map λx=>(x.1,x.2.1)
abbrev ks(q:List (κ×Nat×σ)):List (κ×σ):=q.map λx=>(x.1,x.2.2)
abbrev ps(q:List (κ×Nat×σ)):List (Nat×σ):=q.map λx=>x.2
def mr(K:κ->Value)(R:Nat->σ->HP)(b:Nat)(xs:List (κ×σ)):HP:=sf λq=>C5 [d6 (ks q=xs),mo K Pt b (kp q),ea R (ps q)]
def mh(K:κ->Value)(R:Nat->σ->HP)(b:Nat)(xs:List (κ×σ))(k:κ)(p:Nat):HP:=
 sf λ(q:List (κ×Nat×σ)×σ×List (κ×Nat×σ))=>C5 [d6 (ks q.1++(k,q.2.1)::ks q.2.2=xs∧K0 (ks q.1) k=none),mo K Pt b (kp q.1++(k,p)::kp q.2.2),ea R (ps q.1++ps q.2.2)]
theorem wq{β:Type}:∀{xs:List (κ×β)}{k:κ}{v:β},K0 xs k=some v->∃l1 l2,xs=l1++(k,v)::l2∧K0 l1 k=none
 |[],k,v,h=>by cases h
 |x::r,k,v,h=>by
  unfold K0 at h;by_cases a:k=x.1
  ·rw[S1 a]at h;injection h with h;exact⟨[],r,Zb1,rfl⟩
  ·rw[V0 a]at h;obtain⟨l1,l2,rfl,b⟩:=wq h;exact⟨x::l1,l2,rfl,by simp_all[K0]⟩
theorem Ri{l1 l2:List (κ×β)}{k:κ}(h:K0 l1 k=none):K0 (l1++l2) k=K0 l2 k:=by
 induction l1 with
 |nil=>rfl
 |cons x r a=>
  unfold K0 at h;by_cases b:k=x.1
  ·simp_all
  simp_all[K0]
theorem es{l1 l2:List (κ×β)}{k:κ}{v u:β}(h:K0 l1 k=none):R1 (l1++(k,u)::l2) k v=l1++(k,v)::l2:=by
 induction l1 with
 |nil=>simp[R1]
 |cons x r a=>
  unfold K0 at h;by_cases b:k=x.1
  ·simp_all
  simp_all[R1]
theorem oI{l1 l2:List (κ×β)}{k:κ}{u:β}(h:K0 l1 k=none):U7 (l1++(k,u)::l2) k=l1++l2:=by
 induction l1 with
 |nil=>simp[U7]
 |cons x r a=>
  unfold K0 at h;by_cases b:k=x.1
  ·simp_all
  simp_all[U7]
theorem Gc{l:List (κ×β)}{k:κ}{v:β}(h:K0 l k=none):R1 l k v=l++[(k,v)]:=by
 induction l with
 |nil=>rfl
 |cons x r a=>
  unfold K0 at h;by_cases b:k=x.1
  ·simp_all
  simp_all[R1]
theorem oU{a:Type}{l:List (κ×β×a)}{k:κ}(f:β×a->β)(g:β×a->a):K0 (l.map λx=>(x.1,f x.2)) k=none↔K0 (l.map λx=>(x.1,g x.2)) k=none:=by
 induction l with
 |nil=>simp[K0]
 |cons x r b=>simp only[List.map_cons,K0];grind
theorem Ol{q:List (κ×Nat×σ)}{k:κ}:K0 (kp q) k=none↔K0 (ks q) k=none:=oU (λx=>x.1) (λx=>x.2)
omit [DecidableEq κ]in
theorem Hp.Xc(h:Hp c w (mr K R b xs::L)):∃q:List (κ×Nat×σ),xs=ks q∧Hp c w (mo K Pt b (kp q)::ea R (ps q)::L):=by obtain⟨q,h0⟩:=h.ex;obtain⟨e,a⟩:=h0.R6.uf;exact⟨q,e.symm,a⟩
omit [DecidableEq κ]in
theorem Hp.Bd{q:List (κ×Nat×σ)}(h:Hp c w (mo K Pt b (kp q)::ea R (ps q)::L)):Hp c w (mr K R b (ks q)::L):=
 Hp.R8 q (Hp.C3 (Hp.T' O h))
theorem Hp.IS(h:Hp c w (mr K R b xs::L)){k:κ}(hs:K0 xs k=some s):∃p,Hp c w (R p s::mh K R b xs k p::L):=by
 obtain⟨q,e,y⟩:=h.Xc;subst e;obtain⟨l1,l2,n,m⟩:=wq hs;obtain⟨a,z,rfl,rfl,v⟩:=rL.1 n;obtain⟨x,i,rfl,l,rfl⟩:=CE.1 v;obtain⟨d,p,j⟩:=x;simp only[Prod.mk.injEq]at l;obtain⟨rfl,rfl⟩:=l;refine⟨p,?_⟩;have u:Hp c w (ea R (ps a++(p,j)::ps i)::mo K Pt b (kp a++(d,p)::kp i)::L):=by have:=y.g [1] O;simpa [kp,ps] using this
 have t:=u.rq.g [2,1] O;have r:Hp c w (C5 [d6 (ks a++(d,j)::ks i=ks (a++(d,p,j)::i)∧K0 (ks a) d=none),mo K Pt b (kp a++(d,p)::kp i),ea R (ps a++ps i)]::R p j::L):=
  Hp.C3 (Hp.T' ⟨by simp[ks],m⟩ t)
 have o:=Hp.R8 (f:=λ(q:List (κ×Nat×σ)×σ×List (κ×Nat×σ))=>C5 [d6 (ks q.1++(d,q.2.1)::ks q.2.2=ks (a++(d,p,j)::i)∧K0 (ks q.1) d=none),mo K Pt b (kp q.1++(d,p)::kp q.2.2),ea R (ps q.1++ps q.2.2)]) (a,j,i) r;exact o.g [1] O
theorem Hp.jr{k:κ}(h:Hp c w (mh K R b xs k p::L)):∃(a d:List (κ×Nat×σ))(s:σ),xs=ks a++(k,s)::ks d∧K0 (ks a) k=none∧Hp c w (mo K Pt b (kp a++(k,p)::kp d)::ea R (ps a++ps d)::L):=by obtain⟨q,h0⟩:=h.ex;obtain⟨⟨e,f⟩,h⟩:=h0.R6.uf;exact⟨q.1,q.2.2,q.2.1,e.symm,f,h⟩
theorem Hp.V'{k:κ}(h:Hp c w (R p s::mh K R b xs k p::L)):Hp c w (mr K R b (R1 xs k s)::L):=by
 obtain⟨d,a,m,rfl,e,l⟩:=(h.g [1] rfl).jr;rw[es e];have j:Hp c w (R (p,s).1 (p,s).2::ea R (ps d++ps a)::mo K Pt b (kp d++(k,p)::kp a)::L):=l.g [2,1] O;have i:=j.Xu.g [1] O;have f:Hp c w (mo K Pt b (kp (d++(k,p,s)::a))::ea R (ps (d++(k,p,s)::a))::L):=by simpa [kp,ps] using i
 have:=f.Bd;simp_all
theorem E'{l:List (κ×β)}{k:κ}{v:β}(h:K0 l k=some v):R1 l k v=l:=by obtain⟨l1,l2,rfl,a⟩:=wq h;rw[es a]
theorem Hp.F6{k:κ}(hs:K0 xs k=some s)(h:Hp c w (R p s::mh K R b xs k p::L)):Hp c w (mr K R b xs::L):=by have h:=h.V';simp_all[E']
theorem Hp.adE{k:κ}{q:List (κ×Nat×σ)}(a:K0 (ks q) k=none)(h:Hp c w (mo K Pt b (R1 (kp q) k p)::ea R (ps q)::R p s::L)):Hp c w (mr K R b (R1 (ks q) k s)::L):=by
 rw[Gc a];rw[Gc (Ol.2 a)]at h;have f:=Hp.Xu (l1:=ps q) (l2:=[]) (x:=(p,s)) (by simpa using h.g [2,1] O);have e:=f.g [1] O;have d:Hp c w (mo K Pt b (kp (q++[(k,p,s)]))::ea R (ps (q++[(k,p,s)]))::L):=by simpa [kp,ps] using e
 have:=d.Bd;simp_all
omit [DecidableEq κ]in
theorem Hp.yn(h:Hp c w (mo K Pt b ([]:List (κ×Nat))::L)):Hp c w (mr K R b ([]:List (κ×σ))::L):=
 Hp.Bd (q:=[]) (Hp.aez h|>.g [1] O)
section
variable{P:Program}{mt kt et:TypeId}
theorem RD.Fv{Q:Value->Prop}(T:V9 P mt kt et jk K)(h:Hp c w L)(j:Nat)(l:i3 L j=some (mr K R b xs))(k:κ)(h0:K0 xs k=none->Q (if ok then .tuple #[jk,.bool false]else jk))
 (n:∀s p,K0 xs k=some s->Hp c w (R p s::mh K R b xs k p::i6 L j)->Q (if ok then .tuple #[Pt p,.bool true]else Pt p)):RD P (λw'=>w'=w) (Instr.lookup mt (.map (some b)) (K k) ok) Q:=by
 have f:=h.pick j l;cases a:K0 xs k with
 |none=>obtain⟨q,e,d⟩:=f.Xc;subst e;exact RD.wK T d 0 O k (Ol.2 a) (h0 a)
 |some s=>obtain⟨p,d⟩:=f.IS a;obtain⟨t,r,o,_,i,m⟩:=(d.g [1] rfl).jr;exact RD.lH T m 0 O k (v:=p) (by rw[Ri (Ol.2 i)];simp[K0]) (n s p a d)
theorem RD.tn{Q:Value->Prop}(T:V9 P mt kt et jk K)(h:Hp c w L)(j:Nat)(a:i3 L j=some (mr K R b xs))(k:κ)(d:K0 xs k=none)(h0:Q (if ok then .tuple #[jk,.bool false]else jk)):
 RD P (λw'=>w'=w) (Instr.lookup mt (.map (some b)) (K k) ok) Q:=RD.Fv T h j a k (λ_=>h0) (λs p e=>Zb7)
theorem RD.Ed{Q:Value->Prop}(T:V9 P mt kt et jk K)(h:Hp c w L)(j:Nat)(a:i3 L j=some (mr K R b xs))(k:κ)(f:K0 xs k=some s)
 (i:∀p,Hp c w (R p s::mh K R b xs k p::i6 L j)->Q (if ok then .tuple #[Pt p,.bool true]else Pt p)):RD P (λw'=>w'=w) (Instr.lookup mt (.map (some b)) (K k) ok) Q:=
 RD.Fv T h j a k (λe=>Zb7) (λd p e g=>Zb7)
theorem RD.alz{Q:Value->Prop}(a:P.underlying mt=some (.map kt et))(h:Hp c w L)(j:Nat)(d:i3 L j=some (mr K R b xs)){ty:TypeId}(g:Q (.int .i64 xs.length)):RD P (λw'=>w'=w) (Builtin.len_ #[mt] ty #[.map (some b)]) Q:=by obtain⟨q,e,f⟩:=(h.pick j d).Xc;subst e;exact RD.DG a f 0 O Zb7
variable{dst:Option Nat}{ty:TypeId}{db:String}{af:Array Edge}{g:Option (Nat×Bool)}{ρ:Operand->Value}{Q:Value->World->Prop}{PQ:Y5}{m x y:Operand}
theorem A4.EM{a:β->List Value}{z:Value}{ys:List (κ×β)}{l':List Value}(T:V9 P mt kt et z K)(h:Hp c w L)(j:Nat)(i:i3 L j=some (mo K (λv=> .agg (a v).toArray) b ys))(k:κ)(v:β)(f:ρ m= .map (some b))(e:ρ x=K k)
 (o:ρ y= .agg l.toArray)(p:Ej l=some l')(q:l'=a v)(n:G7 L j (mo K (λv=> .agg (a v).toArray) b (R1 ys k v))=some L')
 (d:∀w',Hp c w' L'->Q undef w'):A4 P ⟨dst,.mapUpdate mt m x y,ty,db,af,g⟩ ρ w Q PQ:=
 A4.Eb T h j i k v f e (by grind[wo]) n d
theorem A4.lG(T:V9 P mt kt et jk K)(h:Hp c w (mr K R b xs::R p s::L))(k:κ)(i:K0 xs k=none)(j:ρ m= .map (some b))(f:ρ x=K k)(d:ρ y=Pt p)
 (a:∀w',Hp c w' (mr K R b (R1 xs k s)::L)->Q undef w'):A4 P ⟨dst,.mapUpdate mt m x y,ty,db,af,g⟩ ρ w Q PQ:=by
 obtain⟨q,e,n⟩:=h.Xc;subst e;exact A4.Eb T n 0 O k p j f d O λw' l=>a w' (Hp.adE i l)
theorem A4.air{k:κ}(T:V9 P mt kt et jk K)(h:Hp c w (mh K R b xs k p::L))(l:ρ m= .map (some b))(j:ρ x=K k)
 (e:∀w',Hp c w' (mr K R b (U7 xs k)::L)->Q (.tuple #[]) w'):A4 P ⟨dst,.call ⟨.builtin .delete,#[m,x],#[mt,kt]⟩,ty,db,af,g⟩ ρ w Q PQ:=by
 obtain⟨d,a,q,rfl,f,o⟩:=h.jr;rw[oI f]at e;refine A4.qk T o 0 O k l j O λw' i=>e w' ?_;rw[oI (Ol.2 f)]at i;have n:Hp c w' (mo K Pt b (kp (d++a))::ea R (ps (d++a))::L):=by simpa [kp,ps] using i
 have:=n.Bd;simp_all
end
end
section
variable{C:World->Prop}{K:Bool->Prop}{i:TypeInfo}
theorem iD{x y:Value}{r:Bool}(h:∀w,(Op.equalIn (9999+1) t x y).run prog w= .ok r w)(k:K r):tg prog C t x y K:=⟨r,λw _=>h w,k⟩
theorem tg.un(b:ty t=some ⟨.pointer e,i⟩)(k:K a.isNone):tg prog C t (.pointer a) (.pointer none) K:=
 iD (λw=>by rw[Op.equalIn];cases a<;>simp[run_underlying (kn.desc _ _ b)]) k
theorem tg.EI{n n' m':Nat}(b:ty t=some ⟨.slice e,i⟩)(k:K a.isNone):tg prog C t (.slice a n m) (.slice none n' m') K:=
 iD (λw=>by rw[Op.equalIn];cases a<;>simp[run_underlying (kn.desc _ _ b)]) k
theorem tg.bool{a b:Bool}(c:ty t=some ⟨.bool,i⟩)(k:K (a==b)):tg prog C t (.bool a) (.bool b) K:=
 iD (λw=>by rw[Op.equalIn];simp[run_underlying (kn.desc _ _ c)]) k
end
structure Sx{α:Type}(E:Qb α)(c:World)(a:Option Addr)(n cap:Nat)(xs:List α):Prop where
 sl:Sl c E.sz (.slice a n cap) n (E.P3 xs)
 len:xs.length=n
 cap:n<=cap
section
variable{E:Qb α}{n cap:Nat}{xs:List α}{M:List HP}
theorem Hp.H6(h:Hp c w L)(a:Hp w w' M):Hp c w' (M++L):=by
 refine⟨a.os.trans h.os,a.tape.trans h.tape,a.output.trans h.output,j9 h.drawn a.drawn,?_⟩;obtain⟨x,y,f,d,g,e⟩:=a.A0;have b:x=Up w:=f;have j:C5 (Zy c::L) x:=by rw[b];exact h.A0
 have i:C5 ((Zy c::L)++M) (Up w'):=(Qf _ _ _).2 ⟨x,y,j,d,g,e⟩;refine Xg ?_ i;simp[List.perm_append_comm]
theorem Hp.G4(e:TypeId)(E:Qb α)(h:Hp c w L):Hp c w (so e E none 0 []::L):=
 h.map λm k=>⟨emp,m,.inl ⟨rfl,rfl,rfl⟩,k,Li _,rfl⟩
theorem Hp.vg(xs:List α)(h:Hp c w (bk b l e::L))(d:l=E.P3 xs)(a:xs.length<=maxLen):Hp c w (so e E (some ⟨b,0,none⟩) xs.length xs::L):=
 h.imp λm k=> .inr ⟨b,[],[],rfl,Zb7,V7 _,Zb3,a⟩
theorem Hp.Z4(h:Hp c w L)(j:Nat)(d:i3 L j=some (so e E a cap xs)):Sx E w a xs.length cap xs:=by refine⟨h.Ew j d,rfl,?_⟩;obtain⟨m,f,g⟩:=Bb (i:=j+1) h.A0 d;rcases f with⟨_,l,rfl⟩|⟨b,pre,post,_,_,k,_⟩<;>grind
theorem Hp.Ib(xs:List α)(h:Hp c w L)(j:Nat)(f:i3 L j=some (bk b l e))(d:l=E.P3 xs)(a:m=xs.length):Sx E w (some ⟨b,0,none⟩) m m xs:=by subst a;exact⟨by grind[aah,Qb.p8],rfl,V7 _⟩
theorem Hp.cell(h:Hp c w L){k:Nat}{v:Value}(a:c.cell? ⟨b,k,none⟩=some v):w.cell? ⟨b,k,none⟩=some v:=by have d:b<c.heap.size:=World.block_lt_of_cell? c ⟨b,k,none⟩ a;rw[<-a];have e:c.heap[b]?=some c.heap[b]:=uI d;exact World.cell?_of_block ((h.old e).trans e.symm)
theorem Sl.up{v:Value}(hs:Sl c sz v n l)(h:Hp c w L):Sl w sz v n l:=by
 cases hs with
 |nil=>exact .nil
 |row a d=>exact .row a λi u b=>h.cell (d i u b)
theorem Sx.up(hs:Sx E c a n cap xs)(h:Hp c w L):Sx E w a n cap xs:=⟨hs.sl.up h,hs.len,hs.cap⟩
theorem Sl.cells(hs:Sl c sz (.slice a n cap) n l)(d:a=some ⟨b,o,none⟩){i:Nat}{v:Value}(f:i3 l i=some v):c.cell? ⟨b,o+i,none⟩=some v:=by
 cases hs with
 |nil=>cases d
 |row e g=>simp_all
theorem Sl.A6(h:Sl w sz (.slice a n cap) n l):(a=none∧n=0∧cap=0∧l=[])∨∃b o,a=some ⟨b,o,none⟩∧l.length=n*sz∧∀i v,i3 l i=some v->w.cell? ⟨b,o+i,none⟩=some v:=by
 cases h with
 |nil=>simp
 |row c d=>grind
theorem Sx.cut(hs:Sx E c a n cap xs){l:Nat}(s:l<=m∧m<=n):Sx E c (if cap=l then a else a.map (·.add (l*E.sz))) (m-l) (cap-l) ((xs.take m).drop l):=by
 obtain⟨f,q,p⟩:=hs;have e:((xs.take m).drop l).length=m-l:=Zb5
 refine⟨?_,e,m4⟩;by_cases hc0:cap=l
 ·rw[S1 hc0];have:m-l=0:=m4
  have k:(xs.take m).drop l=[]:=Dp m4;rw[k,this];rcases f.A6 with⟨rfl,_,rfl,_⟩|⟨b,o,rfl,_,_⟩
  ·grind
  ·exact .row (by simp[Qb.P3]) (λi v d=>by cases i<;>cases d)
 ·rw[V0 hc0];rcases f.A6 with⟨rfl,h0,t,_⟩|⟨b,o,rfl,r,j⟩
  ·omega
  ·skip
   ·skip;show Sl c E.sz (.slice (some ((⟨b,o,none⟩:Addr).add (l*E.sz))) (m-l) (cap-l)) (m-l) _;rw[i9];refine .row (by rw[E.p8,e]) λi v d=>?_;rw[wz];refine j _ v ?_;have g:xs=(xs.take m).take l++(((xs.take m).drop l)++xs.drop m):=by rw[<-N',Vd,Vd]
    rw[g,E.Z9,E.Z9,Z0];rw[Z0]at d;have u:(E.P3 ((xs.take m).take l)).length=l*E.sz:=by rw[E.p8,Ga,Ga];congr 1;omega
    grind
theorem Jc.ro{i:Int}(hs:Sx E c a n cap xs)(d:0<=i∧i<n)(k:∀b o,a=some ⟨b,o,none⟩->K (.pointer (some ⟨b,o+i.toNat*E.sz,none⟩))):Jc a n i E.sz K:=by
 obtain⟨e,g,f⟩:=hs;rcases e.A6 with⟨_,h0,_,_⟩|⟨b,o,rfl,h,j⟩
 ·omega
 ·refine⟨_,rfl,d.1,d.2,?_⟩;rw[i9];grind
theorem Lz{i:Int}(hs:Sx E c a n cap xs)(k:∀b o,a=some ⟨b,o,none⟩->K (.pointer (some ⟨b,o+i.toNat*E.sz,none⟩)))(d:0<=i∧i<n:=by omega):Jc a n i E.sz K:=Jc.ro hs d k
theorem qM(h:Hp c w L)(hs:Sx E c a n cap xs){k:Nat}(g:a=some ⟨b,o,none⟩){v:Value}(d:i3 xs m=some x)(e:i3 (E.f x) k=some v):w.cell? ⟨b,o+m*E.sz+k,none⟩=some v:=by have i:=E.nj xs m k x v d e;rw[wz];exact h.cell (hs.sl.cells g i)
theorem Oa.ro(h:Hp c w L)(hs:Sx E c a n cap xs)(k:a=some ⟨b,o,none⟩)(g:i3 xs m=some x)(d:K (.agg (E.f x).toArray)):
 Oa (λw'=>w'=w) ⟨b,o+m*E.sz,none⟩ E.sz K:=by
 refine⟨E.f x,E.len x,λw' e i v j=>?_,d⟩;grind[i9,qM]
theorem LD.ro{k:Nat}{v:Value}(h:Hp c w L)(hs:Sx E c a n cap xs)(j:a=some ⟨b,o,none⟩)(d:i3 xs m=some x)(g:i3 (E.f x) k=some v)(i:K v):
 LD (λw'=>w'=w) ⟨b,o+m*E.sz+k,none⟩ K:=by
 refine⟨v,λw' e=>?_,i⟩;subst e;exact qM h hs j d g
theorem LD.rM{v:Value}(h:Hp c w L)(hs:Sx E c a n cap xs)(i:a=some ⟨b,o,none⟩)(d:i3 xs m=some x)(e:i3 (E.f x) 0=some v)(g:K v):
 LD (λw'=>w'=w) ⟨b,o+m*E.sz,none⟩ K:=LD.ro (k:=0) h hs i d e g
theorem Eh{i:Nat}(h:i<xs.length):i3 xs i=some xs[i]:=by rw[Z0];simp
end
def O5:Qb Int:=⟨λn=>[I n],1,λ_=>rfl,λ_=>rfl⟩
def eB:Qb (BitVec 8):=⟨λn=>[B8 n],1,λ_=>rfl,λ_=>rfl⟩
def nh:Qb w4:=⟨w4.f,4,λ_=>rfl,λ_=>rfl⟩
end Go.Proofs.YtaaihojmcfaejaaGreatDoor
