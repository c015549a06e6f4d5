/- Lemmas for the tops: the walk of the house and its laws. No condition is added. -/
import Derived.Test.YtaaihojmcfaejaaGreatDoorQae
import Derived.Test.YtaaihojmcfaejaaGreatDoorQad
set_option linter.all false
namespace Go.Proofs.YtaaihojmcfaejaaGreatDoor
open Go Go.RowKit Tryz
variable{af:Array Edge}{Oq:BitVec 16}{o:BitVec 64}{M:HP}{i tx:Int}{L R:List HP}{lb:List Value}{F' b cap d it k m n sz w9:Nat}{ρ:Operand->Value}{g:Option (Nat×Bool)}{a:Option Addr}{dst:Option Nat}{db:String}{α β κ:Type}{t:TypeId}{z:Value}{K:Value->Prop}{c w:World}{PQ:Y5}{x:Yk}{Oj:_}{left:List (κ×β)}{E:Qb α}{p:α->Bool}
theorem qI{P:Prop}(h:P:=by obtain⟨g,h⟩:=h.ex;exact⟨g.1,g.2,h.R6⟩):P:=h
theorem pI{P:Prop}(h:P:=by obtain⟨g,h⟩:=h.ex;exact⟨g,h.R6⟩):P:=h
theorem xU{P:Prop}(h:P:=by obtain⟨g,h⟩:=h.ex;exact⟨g.1,g.2.1,g.2.2.1,g.2.2.2,h.R6⟩):P:=h
def jc.f(l:jc):List Value:=[U l.Vs,U l.BA]
abbrev Ba.v(v:Ba):Value:= .agg #[.bool v.K3,I v.n]
def E2.f(p:E2):List Value:=[B8 p.key.a,B8 p.key.b,B8 p.key.x,B8 p.key.y,.bool p.val.K3,I p.val.n]
abbrev E2.v(p:E2):Value:= .agg #[B8 p.key.a,B8 p.key.b,B8 p.key.x,B8 p.key.y,.bool p.val.K3,I p.val.n]
def A5.f(r:A5):List Value:=[I r.W0,I r.tx,gb r.J0,B8 r.key.a,B8 r.key.b,B8 r.key.x,B8 r.key.y,.bool r.old.K3,I r.old.n,.bool r.new.K3,I r.new.n]
abbrev A5.v(r:A5):Value:= .agg #[I r.W0,I r.tx,gb r.J0,B8 r.key.a,B8 r.key.b,B8 r.key.x,B8 r.key.y,.bool r.old.K3,I r.old.n,.bool r.new.K3,I r.new.n]
def Pc.f(e:Pc):List Value:=[I e.Z3,I e.I1,gb e.J0]
abbrev Pc.v(e:Pc):Value:= .agg #[I e.Z3,I e.I1,gb e.J0]
def W5.f(x:W5):List Value:=[I x.tx,.bool x.T8,I x.ec,.bool x.Oe]
abbrev W5.v(x:W5):Value:= .agg #[I x.tx,.bool x.T8,I x.ec,.bool x.Oe]
abbrev DL.v(r:DL):Value:= .agg #[gb r.J0,I r.E5,I r.r9]
def Wk.f(r:Wk):List Value:=[I r.W0,I r.zb,I r.Z3,I r.N3,I r.tx,I r.op.W0,I r.op.tx,B8 r.op.key.a,B8 r.op.key.b,B8 r.op.key.x,B8 r.op.key.y,I r.op.n,I r.Ge,.bool r.val.K3,I r.val.n]
def Ev.f(e:Ev):List Value:=[I e.W0,I e.Z3,I e.N3,I e.tx,I e.t8,I e.Q6,I e.O8,gb e.J0,.bool e.up,.bool e.uc,I e.op.W0,I e.op.tx,B8 e.op.key.a,B8 e.op.key.b,B8 e.op.key.x,B8 e.op.key.y,I e.op.n]
def oa.f(s:oa):List Value:=s.1.map λb=>B8 b
abbrev oa.v(s:oa):Value:= .agg (oa.f s).toArray
def Om:Qb jc:=⟨jc.f,2,λ_=>rfl,λ_=>rfl⟩
def F2:Qb E2:=⟨E2.f,6,λ_=>rfl,λ_=>rfl⟩
def za:Qb A5:=⟨A5.f,11,λ_=>rfl,λ_=>rfl⟩
def sP:Qb Pc:=⟨Pc.f,3,λ_=>rfl,λ_=>rfl⟩
def J4:Qb W5:=⟨W5.f,4,λ_=>rfl,λ_=>rfl⟩
def I9:Qb Wk:=⟨Wk.f,15,λ_=>rfl,λ_=>rfl⟩
def eEv:Qb Ev:=⟨Ev.f,17,λ_=>rfl,λ_=>rfl⟩
theorem oa.Bm(s:oa):(oa.f s).length=32:=by grind[oa.f]
theorem oa.uy(s:oa):(oa.f s).all (·.oneCell')=true:=by unfold oa.f;rw[List.all_map];exact ZK.2 λ_ _=>rfl
def mA:Qb oa:=⟨oa.f,32,oa.Bm,oa.uy⟩
def uH:Qb (Int×oa):=⟨λx=>I x.1::oa.f x.2,33,λx=>by rw[ze,oa.Bm],λx=>by rw[List.all_cons,oa.uy];rfl⟩
def Ef:E2:=⟨Y3,X0⟩
def Ma(b:Nat)(s:M9):HP:=sf λ(g:Nat)=>C5 [bk b [(U s.Zq),(.map (some g))] 147,mo I DL.v g s.B0]
theorem Hp.om{s:M9}(h:Hp c w (Ma b s::L)):∃(F':Nat),Hp c w (bk b [(U s.Zq),(.map (some F'))] 147::mo I DL.v F' s.B0::L):=by exact pI
theorem Hp.ld{a:BitVec 64}(h:Hp c w (bk b [(U a),(.map (some F'))] 147::mo I DL.v F' Oj::L)):Hp c w (Ma b (⟨a,Oj⟩:M9)::L):=
 Hp.R8 (F') (Hp.C3 h)
def Kj(b:Nat)(s:Yk):HP:=sf λ(g:Option Addr×Nat)=>C5 [bk b [(U s.Ro.Vs),(U s.Ro.BA),(.slice g.1 s.rd.length g.2),(I s.room)] 218,so 55 j8 g.1 g.2 s.rd]
theorem Hp.Xk{s:Yk}(h:Hp c w (Kj b s::L)):∃(a:Option Addr)(d:Nat),Hp c w (bk b [(U s.Ro.Vs),(U s.Ro.BA),(.slice a s.rd.length d),(I s.room)] 218::so 55 j8 a d s.rd::L):=by exact qI
theorem Hp.te{a:Option Addr}{d:Nat}{e:BitVec 64}{f:BitVec 64}{g:Int}{rF:_}(h:Hp c w (bk b [(U e),(U f),(.slice a rF.length d),(I g)] 218::so 55 j8 a d rF::L)):Hp c w (Kj b (⟨⟨e,f⟩,rF,g⟩:Yk)::L):=
 Hp.R8 (a,d) (Hp.C3 h)
def GL(b:Nat)(s:List P9):HP:=sf λ(g:Option Addr×Nat)=>C5 [bk b [.slice g.1 s.length g.2] 122,so 55 j8 g.1 g.2 s]
theorem Hp.ou{s:List P9}(h:Hp c w (GL b s::L)):∃(a:Option Addr)(cap:Nat),Hp c w (bk b [.slice a s.length cap] 122::so 55 j8 a cap s::L):=by exact qI
theorem Hp.If{vs:List P9}(h:Hp c w (bk b [.slice a vs.length cap] 122::so 55 j8 a cap vs::L)):Hp c w (GL b vs::L):=Hp.R8 (a,cap) (Hp.C3 h)
def x5(b:Nat)(s:O6):HP:=sf λ(g:Nat)=>C5 [bk b [(.map (some g))] 117,mr lu.v GL g s.S8]
theorem Hp.Fq{s:O6}(h:Hp c w (x5 b s::L)):∃(a:Nat),Hp c w (bk b [(.map (some a))] 117::mr lu.v GL a s.S8::L):=by exact pI
theorem Hp.cc{a:Nat}{d:_}(h:Hp c w (bk b [(.map (some a))] 117::mr lu.v GL a d::L)):Hp c w (x5 b (⟨d⟩:O6)::L):=
 Hp.R8 (a) (Hp.C3 h)
def cj(b:Nat)(s:Way):HP:=sf λ(g:Option Addr×Nat×Nat)=>C5 [bk b [(.slice g.1 s.r9.length g.2.1),(Pt g.2.2)] 137,so 55 j8 g.1 g.2.1 s.r9,Kj g.2.2 s.box]
theorem Hp.Hf{s:Way}(h:Hp c w (cj b s::L)):∃(d:Option Addr)(a:Nat)(e:Nat),Hp c w (bk b [(.slice d s.r9.length a),(Pt e)] 137::so 55 j8 d a s.r9::Kj e s.box::L):=by obtain⟨g,h⟩:=h.ex;exact⟨g.1,g.2.1,g.2.2,h.R6⟩
theorem Hp.vd{d:Option Addr}{a:Nat}{e:Nat}{oF:_}{afb:_}(h:Hp c w (bk b [(.slice d oF.length a),(Pt e)] 137::so 55 j8 d a oF::Kj e afb::L)):Hp c w (cj b (⟨oF,afb⟩:Way)::L):=
 Hp.R8 (d,a,e) (Hp.C3 h)
def K1(b:Nat)(s:J2):HP:=sf λ(g:Nat×Option Addr×Nat×Nat)=>C5 [bk b [(I s.D0.A0),(I s.D0.F0),(I s.D0.L0),(Pt g.1),(.slice g.2.1 s.Kd.length g.2.2.1),(U s.all),(.map (some g.2.2.2))] 129,Ma g.1 s.R4,so 140 Om g.2.1 g.2.2.1 s.Kd,mr End.v cj g.2.2.2 s.ways]
theorem Hp.d5{s:J2}(h:Hp c w (K1 b s::L)):∃(e:Nat)(d:Option Addr)(f:Nat)(a:Nat),Hp c w (bk b [(I s.D0.A0),(I s.D0.F0),(I s.D0.L0),(Pt e),(.slice d s.Kd.length f),(U s.all),(.map (some a))] 129::Ma e s.R4::so 140 Om d f s.Kd::mr End.v cj a s.ways::L):=by exact xU
theorem Hp.F3{f:Nat}{e:Option Addr}{g:Nat}{d:Nat}{j:Int}{k:Int}{i:Int}{afc:BitVec 64}{l:_}{a:_}{m:_}(h:Hp c w (bk b [(I j),(I k),(I i),(Pt f),(.slice e a.length g),(U afc),(.map (some d))] 129::Ma f l::so 140 Om e g a::mr End.v cj d m::L)):Hp c w (K1 b (⟨⟨j,k,i⟩,l,a,afc,m⟩:J2)::L):=
 Hp.R8 (f,e,g,d) (Hp.C3 h)
def M1(b:Nat)(s:U2):HP:=sf λ(g:Option Addr×Nat×Option Addr×Nat×Nat)=>C5 [bk b [(.slice g.1 s.P1.length g.2.1),(.slice g.2.2.1 s.L4.length g.2.2.2.1),(.map (some g.2.2.2.2))] 279,so 288 mA g.1 g.2.1 s.P1,so 457 uH g.2.2.1 g.2.2.2.1 s.L4,mo I oa.v g.2.2.2.2 s.C0]
theorem Hp.md{s:U2}(h:Hp c w (M1 b s::L)):∃(a:Option Addr)(f:Nat)(d:Option Addr)(i:Nat)(e:Nat),Hp c w (bk b [(.slice a s.P1.length f),(.slice d s.L4.length i),(.map (some e))] 279::so 288 mA a f s.P1::so 457 uH d i s.L4::mo I oa.v e s.C0::L):=by obtain⟨g,h⟩:=h.ex;exact⟨g.1,g.2.1,g.2.2.1,g.2.2.2.1,g.2.2.2.2,h.R6⟩
theorem Hp.Xd{d:Option Addr}{g:Nat}{e:Option Addr}{i:Nat}{f:Nat}{a:_}{TC:_}{acD:_}(h:Hp c w (bk b [(.slice d a.length g),(.slice e TC.length i),(.map (some f))] 279::so 288 mA d g a::so 457 uH e i TC::mo I oa.v f acD::L)):Hp c w (M1 b (⟨a,TC,acD⟩:U2)::L):=
 Hp.R8 (d,g,e,i,f) (Hp.C3 h)
def J5(d:Nat)(b:Nat)(s:N7):HP:=C5 [bk b [(Pt d),(I s.next),(I s.first),(I s.wj)] 299]
theorem Hp.D9{s:N7}(h:Hp c w (J5 d b s::L)):Hp c w (bk b [(Pt d),(I s.next),(I s.first),(I s.wj)] 299::L):=h.R6
theorem Hp.W8{a:Int}{f:Int}{e:Int}(h:Hp c w (bk b [(Pt d),(I a),(I f),(I e)] 299::L)):Hp c w (J5 d b (⟨a,f,e⟩:N7)::L):=Hp.C3 h
def ub(b:Nat)(s:List (w4×Ba)):HP:=sf λ(g:Nat)=>C5 [bk b [.map (some g)] 222,mo w4.v Ba.v g s]
theorem Hp.vh{s:List (w4×Ba)}(h:Hp c w (ub b s::L)):∃(m:Nat),Hp c w (bk b [.map (some m)] 222::mo w4.v Ba.v m s::L):=by exact pI
theorem Hp.uh{s:List (w4×Ba)}(h:Hp c w (bk b [.map (some m)] 222::mo w4.v Ba.v m s::L)):Hp c w (ub b s::L):=Hp.R8 m (Hp.C3 h)
def P5(b:Nat)(s:I7):HP:=sf λ(g:Nat)=>C5 [bk b [(I s.B4),(I s.Ge),(Pt g)] 170,ub g s.I3]
theorem Hp.w8{s:I7}(h:Hp c w (P5 b s::L)):∃(a:Nat),Hp c w (bk b [(I s.B4),(I s.Ge),(Pt a)] 170::ub a s.I3::L):=by exact pI
theorem Hp.X5{a:Nat}{d:Int}{afa:Int}{ZI:_}(h:Hp c w (bk b [(I d),(I afa),(Pt a)] 170::ub a ZI::L)):Hp c w (P5 b (⟨d,afa,ZI⟩:I7)::L):=
 Hp.R8 (a) (Hp.C3 h)
def Pb(b:Nat)(s:R5):HP:=sf λ(g:Option Addr×Nat×Option Addr×Nat)=>C5 [bk b [(.slice g.1 s.N4.length g.2.1),(.slice g.2.2.1 s.R3.length g.2.2.2)] 439,so 448 J4 g.1 g.2.1 s.N4,so 448 J4 g.2.2.1 g.2.2.2 s.R3]
theorem Hp.Va{s:R5}(h:Hp c w (Pb b s::L)):∃(a:Option Addr)(e:Nat)(d:Option Addr)(f:Nat),Hp c w (bk b [(.slice a s.N4.length e),(.slice d s.R3.length f)] 439::so 448 J4 a e s.N4::so 448 J4 d f s.R3::L):=by exact xU
theorem Hp.z8{a:Option Addr}{e:Nat}{d:Option Addr}{f:Nat}{SC:_}{PC:_}(h:Hp c w (bk b [(.slice a SC.length e),(.slice d PC.length f)] 439::so 448 J4 a e SC::so 448 J4 d f PC::L)):Hp c w (Pb b (⟨SC,PC⟩:R5)::L):=
 Hp.R8 (a,e,d,f) (Hp.C3 h)
def W7(b:Nat)(s:L3):HP:=sf λ(g:Nat×Nat)=>C5 [bk b [(I s.S5),(.map (some g.1)),(.map (some g.2))] 432,mr w4.v Pb g.1 s.B0,mo I w4.v g.2 s.B5]
theorem Hp.W6{s:L3}(h:Hp c w (W7 b s::L)):∃(F':Nat)(a:Nat),Hp c w (bk b [(I s.S5),(.map (some F')),(.map (some a))] 432::mr w4.v Pb F' s.B0::mo I w4.v a s.B5::L):=by exact qI
theorem Hp.V6{a:Nat}{d:Int}{VI:_}(h:Hp c w (bk b [(I d),(.map (some F')),(.map (some a))] 432::mr w4.v Pb F' Oj::mo I w4.v a VI::L)):Hp c w (W7 b (⟨d,Oj,VI⟩:L3)::L):=
 Hp.R8 (F',a) (Hp.C3 h)
def T2(b:Nat)(s:E1):HP:=sf λ(g:Option Addr×Nat×Nat×Nat)=>C5 [bk b [(.slice g.1 s.N0.length g.2.1),(Pt g.2.2.1),(.map (some g.2.2.2))] 167,so 157 F2 g.1 g.2.1 s.N0,W7 g.2.2.1 s.S3,mr I P5 g.2.2.2 s.G0]
theorem Hp.I5{s:E1}(h:Hp c w (T2 b s::L)):∃(e:Option Addr)(a:Nat)(d:Nat)(f:Nat),Hp c w (bk b [(.slice e s.N0.length a),(Pt d),(.map (some f))] 167::so 157 F2 e a s.N0::W7 d s.S3::mr I P5 f s.G0::L):=by exact xU
theorem Hp.Q4{e:Option Addr}{a:Nat}{d:Nat}{f:Nat}{su:_}{g:_}{Gp:_}(h:Hp c w (bk b [(.slice e su.length a),(Pt d),(.map (some f))] 167::so 157 F2 e a su::W7 d g::mr I P5 f Gp::L)):Hp c w (T2 b (⟨su,g,Gp⟩:E1)::L):=
 Hp.R8 (e,a,d,f) (Hp.C3 h)
def r5(b:Nat)(s:E6):HP:=C5 [bk b [(gb s.J0),(I s.I1),(I s.Y4),(I s.N2),(.bool s.z7),(.bool s.Dn),(.bool s.qt)] 331]
theorem Hp.L7{s:E6}(h:Hp c w (r5 b s::L)):Hp c w (bk b [(gb s.J0),(I s.I1),(I s.Y4),(I s.N2),(.bool s.z7),(.bool s.Dn),(.bool s.qt)] 331::L):=h.R6
theorem Hp.Z5{f:Int}{d:Int}{e:Int}{a:Bool}{i:Bool}{g:Bool}(h:Hp c w (bk b [(gb Oq),(I f),(I d),(I e),(.bool a),(.bool i),(.bool g)] 331::L)):Hp c w (r5 b (⟨Oq,f,d,e,a,i,g⟩:E6)::L):=Hp.C3 h
def B7(k:Nat)(d:Nat)(n:Nat)(b:Nat)(s:d4):HP:=sf λ(g:Nat×Nat×Nat×Option Addr×Nat×List P9)=>C5 [bk b [(Pt k),(I s.me),(Pt g.1),(Pt g.2.1),(.map (some g.2.2.1)),(.slice g.2.2.2.1 g.2.2.2.2.2.length g.2.2.2.2.1)] 162,J5 d g.1 s.X9,T2 g.2.1 s.U1,mr I r5 g.2.2.1 s.B0,so 55 j8 g.2.2.2.1 g.2.2.2.2.1 g.2.2.2.2.2,d6 (g.2.2.2.2.2.length<=n)]
theorem Hp.Lg{s:d4}(h:Hp c w (B7 k d n b s::L)):∃(e:Nat)(a:Nat)(F':Nat)(f:Option Addr)(i:Nat)(Hd:List P9),Hp c w (bk b [(Pt k),(I s.me),(Pt e),(Pt a),(.map (some F')),(.slice f Hd.length i)] 162::J5 d e s.X9::T2 a s.U1::mr I r5 F' s.B0::so 55 j8 f i Hd::d6 (Hd.length<=n)::L):=by obtain⟨g,h⟩:=h.ex;exact⟨g.1,g.2.1,g.2.2.1,g.2.2.2.1,g.2.2.2.2.1,g.2.2.2.2.2,h.R6⟩
theorem Hp.yf{e:Nat}{a:Nat}{f:Option Addr}{g:Nat}{Hd:List P9}{vme:Int}{i:_}{j:_}(h:Hp c w (bk b [(Pt k),(I vme),(Pt e),(Pt a),(.map (some F')),(.slice f Hd.length g)] 162::J5 d e i::T2 a j::mr I r5 F' Oj::so 55 j8 f g Hd::d6 (Hd.length<=n)::L)):Hp c w (B7 k d n b (⟨vme,i,j,Oj⟩:d4)::L):=
 Hp.R8 (e,a,F',f,g,Hd) (Hp.C3 h)
def M5(b:Nat)(s:T4):HP:=sf λ(g:Option Addr×Nat)=>C5 [bk b [(gb s.J0),(gb s.ka),(gb s.done),(gb s.need),(I s.I1),(I s.N2),(.slice g.1 s.V3.length g.2),(.bool s.Qc),(.bool s.G')] 325,so 3 O5 g.1 g.2 s.V3]
theorem Hp.w5{s:T4}(h:Hp c w (M5 b s::L)):∃(a:Option Addr)(d:Nat),Hp c w (bk b [(gb s.J0),(gb s.ka),(gb s.done),(gb s.need),(I s.I1),(I s.N2),(.slice a s.V3.length d),(.bool s.Qc),(.bool s.G')] 325::so 3 O5 a d s.V3::L):=by exact qI
theorem Hp.E3{d:Option Addr}{e:Nat}{i:BitVec 16}{f:BitVec 16}{g:BitVec 16}{k:Int}{j:Int}{l:Bool}{m:Bool}{a:_}(h:Hp c w (bk b [(gb Oq),(gb i),(gb f),(gb g),(I k),(I j),(.slice d a.length e),(.bool l),(.bool m)] 325::so 3 O5 d e a::L)):Hp c w (M5 b (⟨Oq,i,f,g,k,j,a,l,m⟩:T4)::L):=
 Hp.R8 (d,e) (Hp.C3 h)
def r6(k:Nat)(d:Nat)(b:Nat)(s:D8):HP:=sf λ(g:Nat×Nat)=>C5 [bk b [(Pt k),(Pt g.1),(.map (some g.2))] 321,J5 d g.1 s.X9,mr I M5 g.2 s.B0]
theorem Hp.zh{s:D8}(h:Hp c w (r6 k d b s::L)):∃(a:Nat)(F':Nat),Hp c w (bk b [(Pt k),(Pt a),(.map (some F'))] 321::J5 d a s.X9::mr I M5 F' s.B0::L):=by exact qI
theorem Hp.yh{a:Nat}{e:_}(h:Hp c w (bk b [(Pt k),(Pt a),(.map (some F'))] 321::J5 d a e::mr I M5 F' Oj::L)):Hp c w (r6 k d b (⟨e,Oj⟩:D8)::L):=
 Hp.R8 (a,F') (Hp.C3 h)
def Hc(b:Nat)(s:ib):HP:=sf λ(g:Nat)=>C5 [bk b [(gb s.J0),(.bool s.T1),(.map (some g))] 258,mo w4.v Ba.v g s.K2]
theorem Hp.Mb{s:ib}(h:Hp c w (Hc b s::L)):∃(a:Nat),Hp c w (bk b [(gb s.J0),(.bool s.T1),(.map (some a))] 258::mo w4.v Ba.v a s.K2::L):=by exact pI
theorem Hp.La{a:Nat}{d:Bool}{OC:_}(h:Hp c w (bk b [(gb Oq),(.bool d),(.map (some a))] 258::mo w4.v Ba.v a OC::L)):Hp c w (Hc b (⟨Oq,d,OC⟩:ib)::L):=
 Hp.R8 (a) (Hp.C3 h)
def Sg(b:Nat)(s:Z1):HP:=sf λ(g:Option Addr×Nat×Nat×Option Addr×Nat)=>C5 [bk b [(.slice g.1 s.N0.length g.2.1),(.map (some g.2.2.1)),(I s.left),(.slice g.2.2.2.1 s.H9.length g.2.2.2.2)] 249,so 157 F2 g.1 g.2.1 s.N0,mr I Hc g.2.2.1 s.G0,so 157 F2 g.2.2.2.1 g.2.2.2.2 s.H9]
theorem Hp.re{s:Z1}(h:Hp c w (Sg b s::L)):∃(e:Option Addr)(a:Nat)(i:Nat)(d:Option Addr)(f:Nat),Hp c w (bk b [(.slice e s.N0.length a),(.map (some i)),(I s.left),(.slice d s.H9.length f)] 249::so 157 F2 e a s.N0::mr I Hc i s.G0::so 157 F2 d f s.H9::L):=by obtain⟨g,h⟩:=h.ex;exact⟨g.1,g.2.1,g.2.2.1,g.2.2.2.1,g.2.2.2.2,h.R6⟩
theorem Hp.Nb{e:Option Addr}{a:Nat}{g:Nat}{d:Option Addr}{f:Nat}{i:Int}{su:_}{Gp:_}{sw:_}(h:Hp c w (bk b [(.slice e su.length a),(.map (some g)),(I i),(.slice d sw.length f)] 249::so 157 F2 e a su::mr I Hc g Gp::so 157 F2 d f sw::L)):Hp c w (Sg b (⟨su,Gp,i,sw⟩:Z1)::L):=
 Hp.R8 (e,a,g,d,f) (Hp.C3 h)
theorem aaF{P:Prop}(h:P:=by simp[execOp,resolve,invoke,builtin,Builtin.append_,run_underlying T.t,run_underlying GI,sizeOf,typeInfo,zeroValue,hi,hz,hv,hy,asInt,asIntOf,hw,bF,Lx,Gz,hx3,dH,jK,Question.forced,Builtin.firstCells,newRow,<-hq,grownCap]):P:=h
theorem aaE{P:Prop}(h:P:=by show(if _ then _ else _)=_;rw[S1 (.inr (by rw[q8];simp))];exact(xk.Qm hB.lt).t8):P:=h
section
variable{e:TypeId}{xs:List α}{w':World}{L':List HP}
theorem so_take{c:Sub}{i:Nat}(d:i<=xs.length)(f:so e E a cap xs c):so e E a cap (xs.take i) c:=by
 rcases f with⟨rfl,rfl,rfl⟩|⟨b,pre,post,rfl,l,k,j,g⟩
 ·exact .inl ⟨rfl,rfl,Zb3⟩
 ·refine .inr ⟨b,pre,E.P3 (xs.drop i)++post,rfl,?_,Zb5,?_,g⟩
  ·grind[Qb.Z9,List.take_append_drop]
  ·rw[Ga,Ue d,j7,E.p8,Ve];have:cap-i=(xs.length-i)+(cap-xs.length):=m4
   grind[Nat.add_mul]
theorem Hp.so_take(h:Hp c w L)(j:Nat)(i:Nat)(b:i3 L j=some (so e E a cap xs))(f:i<=xs.length)(g:G7 L j (so e E a cap (xs.take i))=some L'):Hp c w L':=by rw[Qv g];exact(h.Od (Ac b)).imp (λm d=>Go.Proofs.YtaaihojmcfaejaaGreatDoor.so_take f d)|>.Od (Rj b).symm
theorem Hp.Ch(h:Hp c w L)(j:Nat)(d:i3 L j=some (so e E a cap xs)):xs.length<=cap∧cap<=maxLen:=by obtain⟨m,f,g⟩:=Bb (i:=j+1) h.A0 d;rcases f with⟨_,rfl,rfl⟩|⟨b,pre,post,_,_,l,_,k⟩<;>grind
theorem K5{i:Nat}{d:α}(h:i<xs.length):i3 xs i=some (xs.getD i d):=by rw[Z0,Xo,d8 h];rfl
theorem Xr(h:0<=i):fF (some (I i)) d=some ((i.toNat:Nat):Int):=by show some i=_;grind
theorem RD.aki{P:Program}{T:Wm}{X:Nat->Bool}(p:N8 P T X){C:World->Prop}{j:TypeInfo}{l x:Nat}{b:Option Value}{g c:Value}(z:T t=some ⟨.slice e,j⟩)(hs:Rb T e=some sz)
 (D:fF b 0=some (l:Int))(A:fF (some g) n=some (m:Int))(s:fF (some c) 0=some (x:Int))(J:l<=m∧m<=x∧x<=cap∧n<=cap)(k:K (.slice (if x=l then a else a.map (·.add (l*sz))) (m-l) (x-l))):RD P C (Instr.sliceAt t (.slice a n cap) b (some g) (some c)) K:=by
 refine⟨_,λw _=>?_,k⟩;have o:∀(v:Option Value)(d q y:Nat)(code:BoundsCode),fF v d=some (q:Int)->q<=y->(match v with|some v=>Instr.sliceBound v y code|none=>pure d).run P w= .ok q w:=by
  intro v d q y code f H;cases v with
  |none=>
   unfold fF at f;injection f with f;have:d=q:=m4
   simp[*]
  |some v=>
   cases v with
   |int G i=>simp_all[fF,run_sliceBound]
   |_=>cases f
 have h0:=o (some c) 0 x cap .slice3Acap s m4;have F:=o (some g) n m x .slice3B A m4;have L:=o b 0 l m .slice3C D m4;have E:(Instr.sliceBounds true n cap b (some g) (some c)).run P w= .ok (l,m,x) w:=by
  unfold Instr.sliceBounds;simp only at h0 F;cases b with
  |none=>simp_all
  |some v=>simp[*]
 have u:=J' p z w;have r:=Pa p hs w;simp[Instr.sliceAt,Instr.slice,u,E,r]
theorem RD.Vh{P:Program}{T:Wm}{X:Nat->Bool}(i:N8 P T X){C:World->Prop}{j:TypeInfo}{b c:Option Value}(f:T t=some ⟨.slice e,j⟩)(hs:Rb T e=some sz)
 (h:fF b 0=some (0:Int))(g:fF c n=some (m:Int))(d:m<=cap∧n<=cap)(k:K (.slice a m cap)):RD P C (Instr.sliceAt t (.slice a n cap) b c none) K:=by
 refine RD.cut (l:=0) (m:=m) i f hs h g ⟨ye _,d.1,d.2⟩ ?_;have o:(if cap=0 then a else a.map (·.add (0*sz)))=a:=by
  split
  ·rfl
  ·simp[Addr.add]
 grind
theorem Sl.lenOf{P:Program}{v:Value}{l:List Value}(h:Sl w sz v n l):(Builtin.lenOf v).run P w= .ok n w:=by cases h<;>rfl
theorem A4.aeI{P:Program}{ty:TypeId}{x y:Operand}{K:Value->World->Prop}{v:Value}{ys:List α}
 (T:Ca P t e E.sz w9 z)(h:Hp c w L)(j:Nat)(f:i3 L j=some (so e E a cap xs))(p:ρ x= .slice a xs.length cap)(o:ρ y=v)(m:Sl w E.sz v ys.length (E.P3 ys))
 (s:xs.length+ys.length<=cap)(l:G7 L j (so e E a cap (xs++ys))=some L')
 (k:∀w',Hp c w' L'->K (.slice a (xs++ys).length cap) w'):
 A4 P ⟨dst,.call ⟨.builtin .append,#[x,y],#[t,t]⟩,ty,db,af,g⟩ ρ w K PQ:=by
 obtain⟨i,q,hz,n,X⟩:=T.i;have hfx:=Ja (P:=P) m;have hlx:(Builtin.lenOf v).run P w= .ok ys.length w:=m.lenOf;have Y:=m.len;obtain⟨N,H,G⟩:=Bb (i:=j+1) h.A0 f;rcases H with⟨rfl,rfl,rfl⟩|⟨b,pre,post,rfl,M,h3,h4,J⟩
 ·have F:ys=[]:=Dp m4;subst F;refine A4.val (v:= .slice none 0 0) (w':=w) ?_ (k w (by rw[fD f]at l;injection l with l;rw[<-l];exact h.Od ((Ac f).trans (Rj (y:=so e E none 0 ([]++[])) f).symm)));simp at hlx hfx;simp[execOp,resolve,invoke,builtin,Builtin.append_,run_underlying T.t,sizeOf,typeInfo,q,n,hlx,hfx,p,o,Qb.Fr]
 ·have A:N b=some _:=M;have hB:VE w b (pre++E.P3 xs++post) e:=⟨G b _ A⟩;have Qd:ys.length*E.sz<=(cap-xs.length)*E.sz:=xv _ m4;have dA:=E.p8 xs;obtain⟨w',V,xk⟩:=ui (P:=P) hB (pre.length+xs.length*E.sz) (vs:=E.P3 ys) Zb5 (E.Ji ys);have r:m8 (pre++E.P3 xs++post) (pre.length+xs.length*E.sz) (E.P3 ys)=pre++E.P3 (xs++ys)++post.drop (ys.length*E.sz):=by
   rw[vb _ _ _ Zb5];have S:(pre++E.P3 xs++post).take (pre.length+xs.length*E.sz)=pre++E.P3 xs:=by
    have:pre.length+xs.length*E.sz=(pre++E.P3 xs).length:=Zb5
    rw[this,Bq]
   have R:(pre++E.P3 xs++post).drop (pre.length+xs.length*E.sz+(E.P3 ys).length)=post.drop (ys.length*E.sz):=by
    have:pre.length+xs.length*E.sz+(E.P3 ys).length=(pre++E.P3 xs).length+ys.length*E.sz:=Zb5
    rw[this,<-du,nE]
   rw[S,R,E.Z9];simp
  rw[r]at xk;have u:(⟨b,pre.length,none⟩:Addr).add (xs.length*E.sz)=⟨b,pre.length+xs.length*E.sz,none⟩:=i9 _ _ _;refine A4.val (v:= .slice (some ⟨b,pre.length,none⟩) (xs++ys).length cap) (w':=w') ?_ (k w' (h.Tm f xk.Q6 (λQ hP2 bj=>?_) l))
  ·simp[execOp,resolve,invoke,builtin,Builtin.append_,run_underlying T.t,sizeOf,typeInfo,q,n,hlx,hfx,p,o,s,u,V]
  ·rcases hP2 with⟨d,_,_⟩|⟨b2,jW,aB,d,D,q3,q4,q5⟩
   ·cases d
   ·injection d with d;injection d with C Z;subst C;have q8:Q b=some _:=D;refine⟨λk hk=>Zb1,.inr ⟨b,pre,post.drop (ys.length*E.sz),rfl,?_,Zb6,?_,J⟩⟩
    ·exact aaE
    ·rw[j7,Ve];have:(cap-(xs.length+ys.length))*E.sz=(cap-xs.length)*E.sz-ys.length*E.sz:=by rw[<-XK];congr 1;omega
     omega
theorem Nz(z:Array Value)(n:Nat)(h:z.toList.all (·.oneCell')=true):(Builtin.zeroCells z n).toList.all (·.oneCell')=true:=by
 unfold Builtin.zeroCells;rw[ZK]at h⊢;intro v a;simp at a;obtain⟨i,b,rfl⟩:=a;by_cases h0:i%z.size<z.size
 ·simp[*]
 ·rw[getElem!_neg z _ h0];rfl
theorem A4.FX{P:Program}{ty:TypeId}{x:Operand}{K:Value->World->Prop}
 (T:Ca P t e E.sz w9 z)(h1z:z.cells.toList.all (·.oneCell')=true)(h:Hp c w L)(j:Nat)(o:i3 L j=some (so e E a cap xs))(f:ρ x= .slice (if cap=xs.length then a else a.map (·.add (xs.length*E.sz))) n (cap-xs.length))(hn:xs.length+n<=cap)
 (k:∀w',Hp c w' L->K (.tuple #[]) w'):
 A4 P ⟨dst,.call ⟨.builtin .clear,#[x],#[t]⟩,ty,db,af,g⟩ ρ w K PQ:=by
 obtain⟨i,F,A,zm,rK⟩:=T.i;have ajj:G7 L j (so e E a cap xs)=some L:=by
  have:∀(L:List HP)(j:Nat)(x:HP),i3 L j=some x->G7 L j x=some L:=by
   intro L;induction L with
   |nil=>intro j x h;cases j<;>cases h
   |cons y l u=>
    intro j x h;cases j with
    |zero=>unfold i3 at h;injection h with h;subst h;rfl
    |succ j=>unfold G7;rw[u j x h]
  exact this L j _ o
 by_cases X:n=0
 ·subst X;refine A4.val (w':=w) ?_ (k w h);cases G:(if cap=xs.length then a else a.map (·.add (xs.length*E.sz)))<;>simp[execOp,resolve,invoke,builtin,Builtin.clear_,run_underlying T.t,f,G]
 ·obtain⟨Q,H,D⟩:=Bb (i:=j+1) h.A0 o;rcases H with⟨rfl,rfl,rfl⟩|⟨b,pre,post,rfl,N,M,h4,J⟩
  ·omega
  ·have q:Q b=some _:=N;have hB:VE w b (pre++E.P3 xs++post) e:=⟨D b _ q⟩;have Qd:n*E.sz<=(cap-xs.length)*E.sz:=xv _ m4;have dA:=E.p8 xs;have hzn:(Builtin.zeroCells z.cells n).toList.length=n*E.sz:=by simp[Builtin.zeroCells,T.z]
   obtain⟨w',Y,xk⟩:=ui (P:=P) hB (pre.length+xs.length*E.sz) (vs:=(Builtin.zeroCells z.cells n).toList) Zb1 (Nz _ _ h1z);have p:m8 (pre++E.P3 xs++post) (pre.length+xs.length*E.sz) (Builtin.zeroCells z.cells n).toList=pre++E.P3 xs++((Builtin.zeroCells z.cells n).toList++post.drop (n*E.sz)):=by
    rw[vb _ _ _ Zb1];have V:(pre++E.P3 xs++post).take (pre.length+xs.length*E.sz)=pre++E.P3 xs:=by
     have:pre.length+xs.length*E.sz=(pre++E.P3 xs).length:=Zb5
     rw[this,Bq]
    have S:(pre++E.P3 xs++post).drop (pre.length+xs.length*E.sz+(Builtin.zeroCells z.cells n).toList.length)=post.drop (n*E.sz):=by
     have:pre.length+xs.length*E.sz+(Builtin.zeroCells z.cells n).toList.length=(pre++E.P3 xs).length+n*E.sz:=by rw[hzn];simp;omega
     rw[this,<-du,nE]
    rw[V,S];simp
   rw[p]at xk;have hc0:¬cap=xs.length:=m4
   rw[V0 hc0,Es,i9]at f;refine A4.val (v:= .tuple #[]) (w':=w') ?_ (k w' (h.Tm o xk.Q6 (λR hP2 bj=>?_) ajj))
   ·have Z:∀m:Nat,n=m+1->(execOp ρ ⟨dst,.call ⟨.builtin .clear,#[x],#[t]⟩,ty,db,af,g⟩).run P w= .ok (.value (.tuple #[])) w':=by
     intro m C;subst C;simp[execOp,resolve,invoke,builtin,Builtin.clear_,run_underlying T.t,f,zeroValue,typeInfo,F,A,Y]
    exact Z (n-1) m4
   ·rcases hP2 with⟨d,_,_⟩|⟨b2,jW,aB,d,s,q3,q4,q5⟩
    ·cases d
    ·injection d with d;injection d with r q7;subst r;have q8:R b=some _:=s;refine⟨λk hk=>Zb1,.inr ⟨b,pre,(Builtin.zeroCells z.cells n).toList++post.drop (n*E.sz),rfl,?_,M,?_,J⟩⟩
     ·exact aaE
     grind
theorem A4.akt{P:Program}{ty d:TypeId}{x y:Operand}{K:Value->World->Prop}{n:Int}
 (T:Ca P t e E.sz w9 z)(GI:P.underlying d=some (.int .i64))(h:Hp c w L)(hv:ρ x= .slice none 0 0)(hy:ρ y= .int .i64 n)(G:1<=n∧n<=1000000000)(f:w9<=4096)
 (k:∀b a w',n.toNat<=a->Hp c w' (so e E (some ⟨b,0,none⟩) a ([]:List α)::L)->K (.slice (some ⟨b,0,none⟩) n.toNat a) w'):
 A4 P ⟨dst,.call ⟨.builtin .append,#[x,y],#[t,d]⟩,ty,db,af,g⟩ ρ w K PQ:=by
 obtain⟨i,hi,hz,F,p⟩:=T.i;subst p;have D:=T.z;obtain⟨m,rfl⟩:∃m:Nat,n=m:=⟨n.toNat,m4⟩;have hw:IntKind.i64.wrap (m:Int)=m:=Ug ⟨m4,m4⟩;have hbm:(m:Int)*(i.bytes:Int)<=281474976710656:=by
  have s:m*i.bytes<=1000000000*4096:=zq m4 f;have:((m*i.bytes:Nat):Int)<=4096000000000:=m4
  rw[uz]at this;omega
 have hmb:m*i.bytes<=140737488355328:=by have s:m*i.bytes<=1000000000*4096:=zq m4 f;omega
 have A:=growslice_fits (need:=0+m) (old:=0) (bytes:=i.bytes) m4 Zb1;have hge:=grownCap_ge w (0+m) 0 e;have j:grownCap w (0+m) 0 e<=maxLen:=grownCap_le_maxLen w (0+m) 0 e (by unfold maxLen;omega);obtain⟨q,hq⟩:∃q,grownCap w (0+m) 0 e=q:=⟨_,rfl⟩;have r:=(h.drew).alloc (.cells (#[]++(if m*i.size=0 then #[]else Builtin.zeroCells z.cells m)++Builtin.zeroCells z.cells (q-(0+m))) e);rw[hq]at hge j;refine A4.val (v:= .slice (some ⟨w.heap.size,0,none⟩) m q) (w':=w.drew.alloc (.cells (#[]++(if m*i.size=0 then #[]else Builtin.zeroCells z.cells m)++Builtin.zeroCells z.cells (q-(0+m))) e)) ?_ (k w.heap.size q _ Zb5 ?_)
 ·have bF:¬(m:Int)<0:=m4
  have dH:¬m=0:=m4
  have Lx:¬(281474976710656<(m:Int)*(i.bytes:Int)):=m4
  have Gz:¬(9223372036854775807<(m:Int)):=m4
  have hx3:¬(281474976710656<Builtin.nextslicecap m 0*i.bytes):=by simp at A;omega
  rw[rz]at hq;by_cases jK:m*i.size=0
  ·exact aaF
  ·exact aaF
 ·refine r.imp λl o=> .inr ⟨w.heap.size,[],(((if m*i.size=0 then #[]else Builtin.zeroCells z.cells m)++Builtin.zeroCells z.cells (q-(0+m))):Array Value).toList,rfl,?_,Zb3,?_,j⟩
  ·have u:([]++E.P3 ([]:List α)++(((if m*i.size=0 then #[]else Builtin.zeroCells z.cells m)++Builtin.zeroCells z.cells (q-(0+m))):Array Value).toList).toArray=(#[]++(if m*i.size=0 then #[]else Builtin.zeroCells z.cells m)++Builtin.zeroCells z.cells (q-(0+m)):Array Value):=by
    simp[Qb.Fr]
   show l w.heap.size=_;rw[u];exact o
  ·have C:∀k,(Builtin.zeroCells z.cells k).size=k*E.sz:=by intro k;simp[Builtin.zeroCells,D]
   by_cases jK:m*i.size=0
   ·simp_all[Nat.sub_mul]
   ·simp[jK,C];rw[<-iu];simp_all
end
theorem wU{P:Prop}(h:P:=by
 rintro m _ w1 e0 ⟨i,j,F,ys,rfl,aX,hF,hFl,hy,h⟩;have r7:(F++ys++xs.drop j.toNat).length=xs.length:=Zb5
 refine BR.T5 (λg2=>?_) λg2=>?_
 ·have hx:=Eh (xs:=xs) (i:=j.toNat) m4;have hd:=ud xs j.toNat _ hx;obtain⟨x,hxe⟩:∃x,xs[j.toNat]=x:=⟨_,rfl⟩;rw[hxe]at hx hd;obtain⟨y,ys,rfl⟩:∃y l,ys=y::l:=by
   cases ys with
   |nil=>grind
   |cons y l=>simp
  have Gz:i3 (F++(y::ys)++xs.drop j.toNat) j.toNat=some x:=by
   rw[Z0,Im Zb1,hd];have:j.toNat-(F++(y::ys)).length=0:=by simp at hy⊢;omega
   rw[this];rfl
  have hxi:i3 (F++(y::ys)++xs.drop j.toNat) i.toNat=some y:=by rw[Z0,<-hFl,N',Im (V7 _)];simp
  have cP:(F++(y::ys)++xs.drop j.toNat).set i.toNat x=(F++[x])++(ys++[x])++xs.drop (j+1).toNat:=by rw[hd,<-hFl,pO];congr 2;omega
  have hft:=Fg (λx=>!p x) xs j.toNat x hx;have ej:(j+1).toNat=j.toNat+1:=m4
  rw[<-r7];refine jd h 1 O λb1 o1 U9=>Oa.sl h 1 O U9 Gz (I2 h O λb2 w h=>J3 h 0 O O O λw h=>O4 h 0 O O (od.by hX (hf (x:=x) (h.g [1] O)) ?_));rintro _ w ⟨rfl,h⟩;refine BR.O' (λg3=>?_) λg3=>?_
  ·refine O4 h 1 O O (jd h 2 O λb3 o2 Lj=>ST.qf (y:=x) h 2 O Lj hxi O O O O O λw h=>?_);rw[cP]at h;refine i5 (i5 ?_);have g3:p x=false:=by simpa using g3
   exact⟨m-1,m4,i+1,j+1,F++[x],ys++[x],rfl,m4,Zb6,Zb1,Zb1,h.q 3 [0,2] O⟩
  ·refine i5 ?_;have g3:p x=true:=by simpa using g3
   exact⟨m-1,m4,i,j+1,F,(y::ys)++[x],rfl,m4,Zb6,hFl,Zb1,Hp.subst (h.q 3 [0,2] O) Zb1⟩
 ·have hj:j.toNat=xs.length:=m4
  rw[hj,jg]at hF;rw[hj,sE,Jb]at h;replace h:=h.so_take 1 i.toNat O Zb5 O;rw[<-hFl,Bq]at h;rw[<-hF];exact RD.cut (l:=F.length) (m:=xs.length) kn O O (show some i=some (F.length:Int) by grind) O m4 (A4.FX (Ca.of kn O O O O O O) O h 1 O O m4 λw h=>RD.Vh (m:=F.length) kn O O O (show some i=some (F.length:Int) by grind) m4 ⟨rfl,h⟩)):P:=h
theorem vU{P:Prop}(h:P:=by
 rintro m _ w1 e0 ⟨i,rfl,hm,hp,h⟩;refine BR.T5 (λg1=>?_) λg1=>?_
 ·have hx:=Eh (xs:=xs) (i:=i.toNat) m4;have hi:=λh2=>Bn (p:=p) hp hx h2;refine jd h 1 O λb1 o1 U9=>Oa.sl h 1 O Zb9 Zb9 (od.by hX (hf h) ?_);rintro _ w ⟨rfl,h⟩;refine BR.O' (λg2=>?_) λg2=>?_
  ·refine⟨Ya O ?_,h⟩;grind[]
  ·refine i5 ⟨(m-1),?_,_,rfl,?_,?_,h⟩
   ·omega
   ·omega
   ·grind[]
 ·have hi:=Di (p:=p) (xs:=xs) (λj hj=>hp j m4);refine⟨Ya O ?_,h⟩;omega):P:=h
theorem aaH{P:Prop}(h:P:=by
 rintro m _ w1 e0 ⟨i,rfl,hm,hp,h⟩;refine BR.T5 (λg1=>?_) λg1=>?_
 ·have hx:=Eh (xs:=xs) (i:=i.toNat) m4;have hi:=λh2=>Bn (p:=p) hp hx h2;refine Lz hs λb1 o1 U9=>Oa.ro h hs Zb9 Zb9 (od.by hX (hf h) ?_);rintro _ w ⟨rfl,h⟩;refine BR.O' (λg2=>?_) λg2=>?_
  ·refine⟨Ya O ?_,h⟩;grind[]
  ·refine i5 ⟨(m-1),?_,_,rfl,?_,?_,h⟩
   ·omega
   ·omega
   ·grind[]
 ·have hi:=Di (p:=p) (xs:=xs) (λj hj=>hp j m4);refine⟨Ya O ?_,h⟩;omega):P:=h
theorem uU{P:Prop}(h:P:=by
 rw[h3];have e1:xs.take i0.toNat++[xs[i0.toNat]]++xs.drop (i0+1).toNat=xs:=by
  have e2:(i0+1).toNat=i0.toNat+1:=m4
  rw[N',jz,e2,<-ud xs i0.toNat _ XG,Vd]
 simp_all):P:=h
theorem tU{P:Prop}(h:P:=by rintro _ w1 ⟨rfl,h⟩;exact⟨So (V4 Value.bool (tB p xs)),h⟩):P:=h
theorem sU{P:Prop}(h:P:=by rw[g1]at WP;rw[nr WP];exact⟨rfl,h⟩):P:=h
section
theorem Sx.yD{xs:List α}(h:Sx E c none n cap xs):n=0∧cap=0∧xs=[]:=by
 rcases h.sl.A6 with⟨_,a,d,_⟩|⟨b,o,a,_⟩
 ·exact⟨a,d,Dp (by rw[h.len,a])⟩
 ·cases a
theorem Bn{α:Type}{p:α->Bool}:∀{xs:List α}{i:Nat}{x:α},(∀j,j<i->∀x,i3 xs j=some x->p x=false)->i3 xs i=some x->p x=true->idxOf p xs=i
 |[],i,x,_,h,_=>by cases i<;>cases h
 |y::l,0,x,_,h,a=>by simp_all[i3,idxOf]
 |y::l,i+1,x,h0,h,a=>by have e:p y=false:=h0 0 m4 y O;have d:=Bn (xs:=l) (i:=i) (λj c x b=>h0 (j+1) m4 x b) h a;grind[idxOf]
theorem Di{α:Type}{p:α->Bool}:∀{xs:List α},(∀j,j<xs.length->∀x,i3 xs j=some x->p x=false)->idxOf p xs= -1
 |[],_=>rfl
 |y::l,h0=>by have d:p y=false:=h0 0 Zb3 y O;have c:=Di (xs:=l) (λj b x a=>h0 (j+1) Zb5 x a);simp_all[idxOf]
abbrev Js(f:Nat)(lb:List Value)(c:World)(v:α->Value)(p:α->Bool):Prop:=∀{x:α}{w:World}{L:List HP},Hp c w L->Cs f (v x::lb).toArray w (Zb c (.bool (p x)) L)
theorem YV{xs:List P9}(hs:Sx j8 w a xs.length cap xs)(f:xs.length<=1000000000):Cs 52 #[.slice a xs.length cap] w (λe w'=>∃c d,e= .returned (.slice c xs.length d)∧Hp w w' [so 55 j8 c d xs]):=by
 have h:=Hp.start w;refine R2 func52 O (tg.EI O (BR.O' (λb=>?_) λb=>?_))
 ·cases a with
  |none=>obtain⟨_,rfl,rfl⟩:=hs.yD;exact⟨none,0,rfl,h.G4 _ _⟩
  |some a=>cases b
 ·refine I2 h O λb1 w h=>?_;replace h:=Hp.vg (E:=j8) [] h O Zb4;exact A4.Pk (Ca.of (w9:=32) kn O O O O O O) h 0 O O O (hs.up h).sl Zb5 (λ_ _=>rfl) λa1 g w h=>⟨_,_,rfl,h⟩
theorem afs{xs:List E2}(hs:Sx F2 w a xs.length cap xs)(f:xs.length<=1000000000):Cs 61 #[.slice a xs.length cap] w (λe w'=>∃c d,e= .returned (.slice c xs.length d)∧Hp w w' [so 157 F2 c d xs]):=by
 have h:=Hp.start w;refine R2 func61 O (tg.EI O (BR.O' (λb=>?_) λb=>?_))
 ·cases a with
  |none=>obtain⟨_,rfl,rfl⟩:=hs.yD;exact⟨none,0,rfl,h.G4 _ _⟩
  |some a=>cases b
 ·refine I2 h O λb1 w h=>?_;replace h:=Hp.vg (E:=F2) [] h O Zb4;exact A4.Pk (Ca.of (w9:=24) kn O O O O O O) h 0 O O O (hs.up h).sl Zb5 (λ_ _=>rfl) λa1 g w h=>⟨_,_,rfl,h⟩
theorem alj{xs:List Wk}(hs:Sx I9 w a xs.length cap xs)(f:xs.length<=1000000000):Cs 39 #[.slice a xs.length cap] w (λe w'=>∃c d,e= .returned (.slice c xs.length d)∧Hp w w' [so 42 I9 c d xs]):=by
 have h:=Hp.start w;refine R2 func39 O (tg.EI O (BR.O' (λb=>?_) λb=>?_))
 ·cases a with
  |none=>obtain⟨_,rfl,rfl⟩:=hs.yD;exact⟨none,0,rfl,h.G4 _ _⟩
  |some a=>cases b
 ·refine I2 h O λb1 w h=>?_;replace h:=Hp.vg (E:=I9) [] h O Zb4;exact A4.Pk (Ca.of (w9:=96) kn O O O O O O) h 0 O O O (hs.up h).sl Zb5 (λ_ _=>rfl) λa1 g w h=>⟨_,_,rfl,h⟩
theorem agN{f:Nat}{p:E2->Bool}{xs:List E2}(hs:Sx F2 w a xs.length cap xs)(hf:Js f lb w E2.v p)(hX:Ck f=true)(b:xs.length<=1000000000):
 Cs 277 #[.slice a xs.length cap,.func (.func f) #[] lb.toArray] w (Zb w (I (idxOf p xs)) []):=by
 have h:=Hp.start w;refine R2 func277 O (p5.A6 kn [0,1,7,8] (λm vs w'=>∃i:Int,vs=[.slice a xs.length cap,.func (.func f) #[] lb.toArray,I xs.length,I i]∧(0<=i∧i+m=xs.length)∧(∀j,j<i.toNat->∀x,i3 xs j=some x->p x=false)∧Hp w w' []) xs.length ⟨0,rfl,Zb3,m4,h⟩ ?_);exact aaH
theorem agD{f:Nat}{p:W5->Bool}{xs:List W5}(hs:Sx J4 w a xs.length cap xs)(hf:Js f lb w W5.v p)(hX:Ck f=true)(b:xs.length<=1000000000):
 Cs 324 #[.slice a xs.length cap,.func (.func f) #[] lb.toArray] w (Zb w (I (idxOf p xs)) []):=by
 have h:=Hp.start w;refine R2 func324 O (p5.A6 kn [0,1,7,8] (λm vs w'=>∃i:Int,vs=[.slice a xs.length cap,.func (.func f) #[] lb.toArray,I xs.length,I i]∧(0<=i∧i+m=xs.length)∧(∀j,j<i.toNat->∀x,i3 xs j=some x->p x=false)∧Hp w w' []) xs.length ⟨0,rfl,Zb3,m4,h⟩ ?_);exact aaH
theorem agy{f:Nat}{p:B->Bool}{xs:List B}(hs:Sx eB w a xs.length cap xs)(e:Js f lb w (λx=>B8 x) p)(g:Ck f=true)(s:xs.length<=1000000000):
 Cs 333 #[.slice a xs.length cap,.func (.func f) #[] lb.toArray] w (Zb w (I (idxOf p xs)) []):=by
 have h:=Hp.start w;refine R2 func333 O (p5.A6 kn [0,1,7,8] (λm vs w'=>∃i:Int,vs=[.slice a xs.length cap,.func (.func f) #[] lb.toArray,I xs.length,I i]∧(0<=i∧i+m=xs.length)∧(∀j,j<i.toNat->∀x,i3 xs j=some x->p x=false)∧Hp w w' []) xs.length ⟨0,rfl,Zb3,m4,h⟩ ?_);rintro m _ w1 t ⟨i,rfl,q,b,h⟩;refine BR.T5 (λn=>?_) λn=>?_
 ·have c:=Eh (xs:=xs) (i:=i.toNat) m4;have d:=λk=>Bn (p:=p) b c k;refine Lz hs λb1 o u=>LD.rM h hs Zb9 Zb9 O (od.by g (e h) ?_);rintro _ w ⟨rfl,h⟩;refine BR.O' (λl=>?_) λl=>?_
  ·refine⟨Ya O ?_,h⟩;grind[]
  ·refine i5 ⟨(m-1),?_,_,rfl,?_,?_,h⟩
   ·omega
   ·omega
   ·grind[]
 ·have d:=Di (p:=p) (xs:=xs) (λj r=>b j m4);refine⟨Ya O ?_,h⟩;omega
theorem tB{α:Type}(p:α->Bool):∀xs:List α,decide (idxOf p xs>=0)=xs.any p
 |[]=>rfl
 |x::l=>by have a:=tB p l;unfold idxOf<;>grind
theorem CR{f:Nat}{p:E2->Bool}{xs:List E2}(hs:Sx F2 w a xs.length cap xs)(b:Js f lb w E2.v p)(d:Ck f=true)(c:xs.length<=1000000000):
 Cs 220 #[.slice a xs.length cap,.func (.func f) #[] lb.toArray] w (Zb w (.bool (xs.any p)) []):=by
 have h:=Hp.start w;refine R2 func220 O (xb (agN hs b d c) ?_);exact tU
theorem agE{f:Nat}{p:W5->Bool}{xs:List W5}(hs:Sx J4 w a xs.length cap xs)(b:Js f lb w W5.v p)(d:Ck f=true)(c:xs.length<=1000000000):
 Cs 323 #[.slice a xs.length cap,.func (.func f) #[] lb.toArray] w (Zb w (.bool (xs.any p)) []):=by
 have h:=Hp.start w;refine R2 func323 O (xb (agD hs b d c) ?_);exact tU
theorem agI{f:Nat}{p:B->Bool}{xs:List B}(hs:Sx eB w a xs.length cap xs)(b:Js f lb w (λx=>B8 x) p)(d:Ck f=true)(c:xs.length<=1000000000):
 Cs 299 #[.slice a xs.length cap,.func (.func f) #[] lb.toArray] w (Zb w (.bool (xs.any p)) []):=by
 have h:=Hp.start w;refine R2 func299 O (xb (agy hs b d c) ?_);exact tU
abbrev Fz(f:Nat)(lb:List Value)(c:World)(M:HP)(v:α->Value)(p:α->Bool):Prop:=∀{x:α}{w:World}{L:List HP},Hp c w (M::L)->Cs f (v x::lb).toArray w (Zb c (.bool (p x)) (M::L))
theorem pO(F:List α)(y x:α)(ys D:List α):(F++(y::ys)++x::D).set F.length x=(F++[x])++(ys++[x])++D:=Zb3
theorem Fg(p:α->Bool)(xs:List α)(i:Nat)(x:α)(h:i3 xs i=some x):(xs.take (i+1)).filter p=(xs.take i).filter p++if p x then[x]else[]:=by grind[Z0,List.take_add_one]
theorem ud(xs:List α)(i:Nat)(x:α)(h:i3 xs i=some x):xs.drop i=x::xs.drop (i+1):=by grind[Z0,List.drop_eq_getElem_cons]
theorem gh{α:Type}{p:α->Bool}:∀{xs:List α}{i:Int},idxOf p xs=i->¬i= -1->0<=i∧i<xs.length∧(xs.take (i+1).toNat).filter (λx=>!p x)=xs.take i.toNat
 |[],i,h,b=>by grind[idxOf]
 |x::l,i,h,b=>by
  unfold idxOf at h;cases a:p x with
  |true=>simp only[a]at h;subst h;simp[*]
  |false=>
   simp only[a]at h;simp only[Bool.false_eq_true,if_false]at h;by_cases h0:idxOf p l<0
   ·omega
   ·rw[V0 h0]at h;obtain⟨e,d,c⟩:=gh (p:=p) (xs:=l) (i:=idxOf p l) rfl m4;refine⟨m4,Zb5,?_⟩;have g:(i+1).toNat=(idxOf p l+1).toNat+1:=m4
    have f:i.toNat=(idxOf p l).toNat+1:=m4
    simp_all
theorem nr{α:Type}{p:α->Bool}:∀{xs:List α},idxOf p xs= -1->xs.filter (λx=>!p x)=xs
 |[],_=>rfl
 |x::l,h=>by
  unfold idxOf at h;cases a:p x with
  |true=>simp[a]at h
  |false=>
   simp only[a]at h;simp only[Bool.false_eq_true,if_false]at h;by_cases h0:idxOf p l<0
   ·have:idxOf p l= -1:=by
     by_cases b:idxOf p l= -1
     ·exact b
     ·have:=(gh (p:=p) (xs:=l) O b).1;omega
    rw[xz,nr this];simp[a]
   omega
theorem acO{f:Nat}{p:P9->Bool}{xs:List P9}(hf:Fz f lb c M P9.v p)(hX:Ck f=true)(h:Hp c w (M::so 55 j8 a cap xs::R))(b:xs.length<=1000000000):
 Cs 289 #[.slice a xs.length cap,.func (.func f) #[] lb.toArray] w (Zb c (I (idxOf p xs)) (M::so 55 j8 a cap xs::R)):=by
 refine R2 func289 O (p5.A6 kn [0,1,7,8] (λm vs w'=>∃i:Int,vs=[.slice a xs.length cap,.func (.func f) #[] lb.toArray,I xs.length,I i]∧(0<=i∧i+m=xs.length)∧(∀j,j<i.toNat->∀x,i3 xs j=some x->p x=false)∧Hp c w' (M::so 55 j8 a cap xs::R)) xs.length ⟨0,rfl,Zb3,m4,h⟩ ?_);exact vU
theorem acP{f:Nat}{p:E2->Bool}{xs:List E2}(hf:Fz f lb c M E2.v p)(hX:Ck f=true)(h:Hp c w (M::so 157 F2 a cap xs::R))(b:xs.length<=1000000000):
 Cs 277 #[.slice a xs.length cap,.func (.func f) #[] lb.toArray] w (Zb c (I (idxOf p xs)) (M::so 157 F2 a cap xs::R)):=by
 refine R2 func277 O (p5.A6 kn [0,1,7,8] (λm vs w'=>∃i:Int,vs=[.slice a xs.length cap,.func (.func f) #[] lb.toArray,I xs.length,I i]∧(0<=i∧i+m=xs.length)∧(∀j,j<i.toNat->∀x,i3 xs j=some x->p x=false)∧Hp c w' (M::so 157 F2 a cap xs::R)) xs.length ⟨0,rfl,Zb3,m4,h⟩ ?_);exact vU
theorem jJ{f:Nat}{p:W5->Bool}{xs:List W5}(hf:Fz f lb c M W5.v p)(hX:Ck f=true)(h:Hp c w (M::so 448 J4 a cap xs::R))(b:xs.length<=1000000000):
 Cs 324 #[.slice a xs.length cap,.func (.func f) #[] lb.toArray] w (Zb c (I (idxOf p xs)) (M::so 448 J4 a cap xs::R)):=by
 refine R2 func324 O (p5.A6 kn [0,1,7,8] (λm vs w'=>∃i:Int,vs=[.slice a xs.length cap,.func (.func f) #[] lb.toArray,I xs.length,I i]∧(0<=i∧i+m=xs.length)∧(∀j,j<i.toNat->∀x,i3 xs j=some x->p x=false)∧Hp c w' (M::so 448 J4 a cap xs::R)) xs.length ⟨0,rfl,Zb3,m4,h⟩ ?_);exact vU
theorem aha{f:Nat}{p:P9->Bool}{xs:List P9}(hf:Fz f lb c M P9.v p)(hX:Ck f=true)(h:Hp c w (M::so 55 j8 a cap xs::R))(b:xs.length<=1000000000):
 Cs 233 #[.slice a xs.length cap,.func (.func f) #[] lb.toArray] w (Zb c (.slice a (xs.filter λx=>!p x).length cap) (M::so 55 j8 a cap (xs.filter λx=>!p x)::R)):=by
 refine R2 func233 O (N1 (acO hf hX h b) λw h=>?_);obtain⟨i0,WP⟩:∃i0,idxOf p xs=i0:=⟨_,rfl⟩;rw[WP];refine BR.eq (λg1=>?_) λg1=>?_
 ·exact sU
 ·obtain⟨k,e,h3⟩:=gh WP g1;obtain⟨d,n⟩:=h.Ch 1 rfl;have XG:=Eh (xs:=xs) (i:=i0.toNat) m4;refine i5 ?_;refine p5.A6 kn [0,1,5,6] (λm vs w'=>∃(i j:Int)(F ys:List P9),vs=[.slice a xs.length cap,.func (.func f) #[] lb.toArray,I i,I j]∧(0<=i∧i<j∧j+m=xs.length)∧F=(xs.take j.toNat).filter (λx=>!p x)∧F.length=i.toNat∧ys.length=(j-i).toNat∧Hp c w' (M::so 55 j8 a cap (F++ys++xs.drop j.toNat)::R)) (xs.length-(i0+1).toNat)
   ⟨i0,i0+1,_,[xs[i0.toNat]],rfl,m4,rfl,Zb1,Zb5,?_⟩ ?_
  ·exact uU
  ·exact wU
theorem agU{f:Nat}{p:E2->Bool}{xs:List E2}(hf:Fz f lb c M E2.v p)(hX:Ck f=true)(h:Hp c w (M::so 157 F2 a cap xs::R))(b:xs.length<=1000000000):
 Cs 258 #[.slice a xs.length cap,.func (.func f) #[] lb.toArray] w (Zb c (.slice a (xs.filter λx=>!p x).length cap) (M::so 157 F2 a cap (xs.filter λx=>!p x)::R)):=by
 refine R2 func258 O (N1 (acP hf hX h b) λw h=>?_);obtain⟨i0,WP⟩:∃i0,idxOf p xs=i0:=⟨_,rfl⟩;rw[WP];refine BR.eq (λg1=>?_) λg1=>?_
 ·exact sU
 ·obtain⟨k,e,h3⟩:=gh WP g1;obtain⟨d,n⟩:=h.Ch 1 rfl;have XG:=Eh (xs:=xs) (i:=i0.toNat) m4;refine i5 ?_;refine p5.A6 kn [0,1,5,6] (λm vs w'=>∃(i j:Int)(F ys:List E2),vs=[.slice a xs.length cap,.func (.func f) #[] lb.toArray,I i,I j]∧(0<=i∧i<j∧j+m=xs.length)∧F=(xs.take j.toNat).filter (λx=>!p x)∧F.length=i.toNat∧ys.length=(j-i).toNat∧Hp c w' (M::so 157 F2 a cap (F++ys++xs.drop j.toNat)::R)) (xs.length-(i0+1).toNat)
   ⟨i0,i0+1,_,[xs[i0.toNat]],rfl,m4,rfl,Zb1,Zb5,?_⟩ ?_
  ·exact uU
  ·exact wU
theorem agm{f:Nat}{p:W5->Bool}{xs:List W5}(hf:Fz f lb c M W5.v p)(hX:Ck f=true)(h:Hp c w (M::so 448 J4 a cap xs::R))(b:xs.length<=1000000000):
 Cs 357 #[.slice a xs.length cap,.func (.func f) #[] lb.toArray] w (Zb c (.slice a (xs.filter λx=>!p x).length cap) (M::so 448 J4 a cap (xs.filter λx=>!p x)::R)):=by
 refine R2 func357 O (N1 (jJ hf hX h b) λw h=>?_);obtain⟨i0,WP⟩:∃i0,idxOf p xs=i0:=⟨_,rfl⟩;rw[WP];refine BR.eq (λg1=>?_) λg1=>?_
 ·exact sU
 ·obtain⟨k,e,h3⟩:=gh WP g1;obtain⟨d,n⟩:=h.Ch 1 rfl;have XG:=Eh (xs:=xs) (i:=i0.toNat) m4;refine i5 ?_;refine p5.A6 kn [0,1,5,6] (λm vs w'=>∃(i j:Int)(F ys:List W5),vs=[.slice a xs.length cap,.func (.func f) #[] lb.toArray,I i,I j]∧(0<=i∧i<j∧j+m=xs.length)∧F=(xs.take j.toNat).filter (λx=>!p x)∧F.length=i.toNat∧ys.length=(j-i).toNat∧Hp c w' (M::so 448 J4 a cap (F++ys++xs.drop j.toNat)::R)) (xs.length-(i0+1).toNat)
   ⟨i0,i0+1,_,[xs[i0.toNat]],rfl,m4,rfl,Zb1,Zb5,?_⟩ ?_
  ·exact uU
  ·exact wU
end
section
theorem WY{xs:List P9}(h:Hp c w (so 55 j8 a cap xs::R))(f:0<=i∧i<xs.length)(g:xs.length<=1000000000):
 Cs 234 #[.slice a xs.length cap,I i,I (i+1)] w (Zb c (.slice a (pj xs i.toNat).length cap) (so 55 j8 a cap (pj xs i.toNat)::R)):=by
 obtain⟨e,k⟩:=h.Ch 0 rfl;refine R2 func234 O (RD.aki (l:=Int.toNat _) (m:=Int.toNat _) kn O O (Xr m4) (Xr m4) O m4 (Wa (ja.D0 kn o8 (λ_=>True) (qs [0,1,2,3,4,5] (ws [6] (qs [7] .done))) Zb2 trivial ?_)));replace h:=h.drew;refine RD.Vh (m:=Int.toNat _) kn O O O (Xr m4) m4 (RD.cut (l:=Int.toNat _) kn O O (Xr m4) O m4 ?_);have hs:=((h.Z4 0 O).cut (l:=(i+1).toNat) (m:=xs.length) ⟨m4,V7 _⟩).sl;rw[jg]at hs;have d:(xs.take i.toNat).length=i.toNat:=Zb5
 have b:(xs.drop (i+1).toNat).length=xs.length-(i+1).toNat:=Zb3
 replace h:=h.so_take 0 i.toNat O m4 O;rw[<-b]at hs;have hda:pj xs i.toNat=xs.take i.toNat++xs.drop (i+1).toNat:=by unfold pj;congr 2;omega
 have j:(pj xs i.toNat).length=xs.length-1:=by rw[hda,j7,d,b];omega
 refine A4.aeI (Ca.of kn O O O O O O) h 0 O (show Value.slice a i.toNat cap=_ by rw[d]) (show Value.slice (if cap=(i+1).toNat then a else a.map (·.add ((i+1).toNat*j8.sz))) (xs.length-(i+1).toNat) (cap-(i+1).toNat)=_ by rw[<-b]) hs m4 O λw h=>?_;rw[<-hda]at h⊢;exact⟨trivial,RD.cut (l:=(pj xs i.toNat).length) (m:=xs.length) kn O O O O m4 (A4.FX (Ca.of kn O O O O O O) O h 0 O O m4 λw h=>⟨rfl,h⟩)⟩
end
theorem gg{P:Prop}(h:P:=by subst hr;replace h:Hp _ _ (Ma _ (x)::_):=Hp.ld (h.g [1,2] O);exact⟨rfl,h.q 2 [0] O⟩):P:=h
theorem rC{P:Prop}(h:P:=by exact⟨rfl,h.q 2 [0] O⟩):P:=h
theorem wN{P:Prop}(h:P:=by
 subst hr;replace h:Hp _ _ (Ma _ (x)::_):=Hp.ld (h.g [1,2] O);refine⟨Ya O ?_,Hp.subst (h.q 2 [0] O) ?_⟩
 ·simp_all
 simp_all):P:=h
theorem qC{P:Prop}(h:P:=by exact⟨rfl,h.q 3 [0] O⟩):P:=h
section
theorem zR{m:P9}(h:Hp c w R):Cr 232 #[m.v] w c (.bool m.right) R:=by
 refine R2 func232 O (I2 h O λb1 w h=>Y6 h [0,51,2,3,4,55,6,7,8,9,60,11,12,13,14,65,16,17,18,19,70,21,22,23,24,26,25,77,78,29,30,31] λh=>U0 h 0 O O ⟨h,BR.T5 (λf=>?_) λf=>?_⟩)
 ·refine U0 h 0 O O ⟨h,BR.T5 (λe=>?_) λe=>?_⟩
  ·refine U0 h 0 O O ⟨h,BR.T5 (λd=>?_) λd=>?_⟩
   ·refine U0 h 0 O O ⟨h,BR.T5 (λb=>?_) λb=>?_⟩
    ·refine U0 h 0 O O ⟨h,BR.T5 (λa=>?_) λa=>?_⟩
     ·refine U3 0 O O (U0 h 0 O O ⟨h,N1 (agJ h) λw h=>⟨h,⟨A8 O ?_,h.q 1 [] O⟩⟩⟩);grind[P9.right]
     ·refine⟨h,⟨h,⟨A8 O ?_,h.q 1 [] O⟩⟩⟩;grind[P9.right]
    ·refine⟨h,m5 ⟨h,⟨h,⟨A8 O ?_,h.q 1 [] O⟩⟩⟩⟩;grind[P9.right]
   ·refine⟨h,m5 ⟨h,m5 ⟨h,⟨h,⟨A8 O ?_,h.q 1 [] O⟩⟩⟩⟩⟩;grind[P9.right]
  ·refine⟨h,m5 ⟨h,m5 ⟨h,m5 ⟨h,⟨h,⟨A8 O ?_,h.q 1 [] O⟩⟩⟩⟩⟩⟩;grind[P9.right]
 ·refine⟨h,m5 ⟨h,m5 ⟨h,m5 ⟨h,m5 ⟨h,⟨h,⟨A8 O ?_,h.q 1 [] O⟩⟩⟩⟩⟩⟩⟩;grind[P9.right]
abbrev jc.v(l:jc):Value:= .agg #[U l.Vs,U l.BA]
theorem PF{a b:jc}(h:Hp c w R):Cr 138 #[a.v,b.v,U o] w c (.bool (a.flows b o)) R:=by exact R2 func138 O (I2 h O λb1 w h=>I2 h O λb2 w h=>O4 h 1 O O (O4 h 0 O O (N1 (ahq h) λw h=>N1 (ahr h) λw h=>⟨rfl,h.q 2 [] O⟩)))
theorem acR{l:jc}(h:Hp c w (Kj b x::R)):Cr 85 #[Pt b,l.v,U o] w c (.bool (x.Ro.flows l o)) (Kj b x::R):=by refine R2 func85 O (I2 h O λb1 w h=>?_);obtain⟨a,d,h⟩:=(h.g [1] rfl).Xk;refine Y6 h [0,1,2,5,3,54,106,7] λh=>xg 0 O O (O4 h 2 O O ⟨h,N1 (PF h) λw h=>?_⟩);replace h:Hp _ _ (Kj _ (x)::_):=Hp.te h;exact rC
theorem KY(h:Hp c w (Kj b x::R)):Cr 293 #[Pt b] w c (.tuple #[]) (Kj b {x with rd:=[]}::R):=by refine R2 func293 O ?_;obtain⟨a,d,h⟩:=h.Xk;refine J3 h 0 O O O λw h=>?_;replace h:=h.G4 (55) j8;replace h:=Hp.te (rF:=[]) (h.g [1] O);exact rC
theorem pZ{l:jc}{n:Int}(h:Hp c w R)(a:1<=n∧n<=8):Cs 118 #[l.v,I n] w (λe w'=>∃b,e= .returned (.tuple #[Pt b,I 0])∧Hp c w' (Kj b ⟨l,[],n⟩::R)):=by refine R2 func118 O (I2 h O λb1 w h=>Te (Te (O4 h 0 O O (I2 h O λb2 w h=>?_))));replace h:=h.G4 (55) j8;replace h:=Hp.te (rF:=[]) (h.g [1] O);exact⟨_,rfl,h.q 2 [0] O⟩
theorem alb{l:jc}(h:Hp c w (Kj b x::R))(j:x.rd.length<=1000000000):Cs 54 #[Pt b,l.v,U o] w (λe w'=>∃a cap,e= .returned (.tuple #[.slice a (x.P0 l o).1.length cap,I (x.P0 l o).2])∧Hp c w' (so 55 j8 a cap (x.P0 l o).1::Kj b x::R)):=by
 refine R2 func54 O ?_;generalize d:x.P0 l o=r;refine I2 h O λb1 w h=>O4 h 0 O O (N1 (acR (h.g [1] O)) λw h=>BR.not (BR.O' (λf=>?_) λf=>?_))
 ·obtain⟨k,n,h⟩:=h.Xk;refine U0 h 0 O O (ga (YV (h.Z4 1 O) Zb9) λa1 m w i=>?_);replace h:=h.H6 i;simp[Yk.P0,f]at d;subst d;replace h:Hp _ _ (Kj _ (x)::_):=Hp.te (h.g [1,2] O);exact⟨_,_,rfl,h.q 3 [1,0] O⟩
 ·simp[Yk.P0,f]at d;subst d;replace h:=h.G4 (55) j8;exact⟨_,_,rfl,h.q 3 [0,1] O⟩
theorem agZ{l:jc}{m:P9}(h:Hp c w (Kj b x::R))(j:x.rd.length<=1000000000):Cr 236 #[Pt b,l.v,U o,m.v] w c (.tuple #[.bool (x.put l o m).1,I (x.put l o m).2.1]) (Kj b (x.put l o m).2.2::R):=by
 refine R2 func236 O ?_;generalize a:x.put l o m=r;refine I2 h O λb1 w h=>I2 h O λb2 w h=>O4 h 0 O O (N1 (zR h) λw h=>BR.not (BR.O' (λd=>?_) λd=>?_))
 ·obtain⟨k,s,h⟩:=(h.g [2] rfl).Xk;refine Y6 h [1,2,3,5,0,54,106,7,8] λh=>xg 3 O O (O4 h 0 O O ⟨h,N1 (PF h) λw h=>BR.not (BR.O' (λe=>?_) λe=>?_)⟩)
  ·refine sv [0,1,2,5,6,7,3,4,8,9,10] ?_;replace h:=h.drew;refine U0 h 0 O O (U0 h 0 O O (BR.T5 (λf=>?_) λf=>?_))
   ·refine Y6 h [0,1,2,3,4,55,56,107,8,9,110] λh=>U3 0 O O (O4 h 2 O O ⟨h,I2 h O λn w h=>⟨h.q 5 [1,2,3,4] O,A4.Yb (u:=⟨_,_,_,_⟩) (Ca.of (w9:=32) kn O O O O O O) h 2 O O 0 O O O m4 (λ_ _=>rfl) λa1 p w h=>J3 h 1 O O O λw h=>?_⟩⟩);simp[Yk.put,d,e,f]at a;subst a;replace h:=Hp.te (h.g [1,2] O);exact⟨rfl,h.q 4 [0] O⟩
   ·refine O4 h 3 O O ?_;replace h:Hp _ _ (Kj _ (x)::_):=Hp.te h;refine N1 (acR h) λw h=>BR.O' (λi=>?_) λi=>?_
    ·simp[Yk.put,d,e,f,i]at a;subst a;exact qC
    ·simp[Yk.put,d,e,f,i]at a;subst a;exact qC
  ·simp[Yk.put,d,e]at a;subst a;replace h:Hp _ _ (Kj _ (x)::_):=Hp.te h;exact qC
 ·simp[Yk.put,d]at a;subst a;exact⟨rfl,h.q 3 [2] O⟩
theorem afT{l:jc}(h:Hp c w (Kj b x::R))(m:x.rd.length<=1000000000):Cr 420 #[Pt b,l.v,U o,I i] w c (.tuple #[(x.take l o i).1.v,I (x.take l o i).2.1]) (Kj b (x.take l o i).2.2::R):=by
 refine R2 func420 O ?_;generalize a:x.take l o i=r;refine I2 h O λb1 w h=>I2 h O λb2 w h=>O4 h 1 O O (N1 (acR (h.g [2] O)) λw h=>BR.not (BR.O' (λe=>?_) λe=>?_))
 ·refine BR.T5 (λf=>?_) λf=>?_
  ·refine Q5 (J3 h 1 O O O λw h=>O4 h 1 O O ?_);simp[Yk.take,e,f]at a;subst a;exact qC
  ·obtain⟨n,t,h⟩:=h.Xk;refine U0 h 0 O O (BR.T5 (λj=>?_) λj=>?_)
   ·refine J3 h 2 O O O λw h=>O4 h 2 O O ?_;simp[Yk.take,e,f,j]at a;subst a;replace h:Hp _ _ (Kj _ (x)::_):=Hp.te h;exact qC
   ·refine U0 h 0 O O (jd h 1 O λs k u=>Oa.sl h 1 O Zb9 (K5 (d:=wx) m4) (I2 h O λp w h=>J3 h 0 O O O λw h=>U0 h 1 O O (i5 (N1 (WY (h.g [2] O) m4 Zb9) λw h=>J3 h 2 O O O λw h=>O4 h 1 O O (J3 h 3 O O O λw h=>O4 h 3 O O ?_)))));simp[Yk.take,e,f,j]at a;subst a;replace h:=Hp.te (h.g [2] O);exact⟨rfl,h.q 4 [0] O⟩
 ·refine J3 h 1 O O O λw h=>O4 h 1 O O ?_;simp[Yk.take,e]at a;subst a;exact qC
theorem ahY(h:Hp c w R):Cs 120 #[U o] w (λe w'=>∃b,e= .returned (Pt b)∧Hp c w' (Ma b ⟨o,[]⟩::R)):=by refine R2 func120 O (A4.Xp I DL.v h λb1 w h=>I2 h O λb2 w h=>?_);replace h:=Hp.ld (Oj:=[]) h;exact⟨_,rfl,h⟩
theorem JF{x:M9}{l:Int}{m:BitVec 16}(h:Hp c w (Ma b x::R)):Cr 224 #[Pt b,I tx,gb m,I l] w c (I (x.U6 tx m l).1) (Ma b (x.U6 tx m l).2::R):=by
 refine R2 func224 O ?_;generalize hr:x.U6 tx m l=r;obtain⟨p,h⟩:=h.om;refine U0 h 0 O O (RD.xK Mu h 1 O _ (λe=>?_) λo e=>?_)
 ·refine I2 h O λb1 w h=>J3 h 0 O O O λw h=>BR.T5 (λa=>?_) λa=>?_
  ·refine Q5 (Q5 (Q5 ?_));simp[M9.U6,e,a]at hr;exact gg
  ·refine BR.T5 (λd=>?_) λd=>?_
   ·refine Q5 (Q5 ?_);simp[M9.U6,e,a,d]at hr;exact gg
   ·refine BR.T5 (λf=>?_) λf=>?_
    ·refine Q5 ?_;simp[M9.U6,e,a,d,f]at hr;exact gg
    ·refine BR.T5 (λi=>?_) λi=>?_
     ·simp[M9.U6,e,a,d,f,i]at hr;exact gg
     ·refine BR.eq (λj=>?_) λj=>?_
      ·refine Q5 ?_;simp[M9.U6,e,a,d,f,i,j]at hr;exact gg
      ·refine bf.yG (y:=63#16) O (BR.ne (λk=>?_) λk=>?_)
       ·simp[M9.U6,e,a,d,f,i,j,k]at hr;exact wN
       ·refine m5 (U0 h 1 O O (RD.DG (by exact Vi O O) h 2 O (BR.T5 (λn=>?_) λn=>?_)))
        ·simp[M9.U6,e,a,d,f,i,j,k,n]at hr;exact wN
        ·refine U0 h 1 O O (A4.Eb Mu h 2 O _ ⟨_,_,_⟩ O O O O λw h=>?_);simp[M9.U6,e,a,d,f,i,j,k,n]at hr;subst hr;replace h:=Hp.ld (h.g [1,2] O);refine⟨Ya O ?_,Hp.subst (h.q 2 [0] O) ?_⟩
         ·simp_all
         simp_all
 ·refine I2 h O λb1 w h=>J3 h 0 O O O λw h=>BR.T5 (λa=>?_) λa=>?_
  ·refine Q5 (Q5 (Q5 ?_));simp[M9.U6,e,a]at hr;exact gg
  ·refine BR.T5 (λd=>?_) λd=>?_
   ·refine Q5 (Q5 ?_);simp[M9.U6,e,a,d]at hr;exact gg
   ·refine BR.T5 (λf=>?_) λf=>?_
    ·refine Q5 ?_;simp[M9.U6,e,a,d,f]at hr;exact gg
    ·refine BR.T5 (λi=>?_) λi=>?_
     ·simp[M9.U6,e,a,d,f,i]at hr;exact gg
     ·refine BR.eq (λj=>?_) λj=>?_
      ·refine Q5 ?_;simp[M9.U6,e,a,d,f,i,j]at hr;exact gg
      ·refine bf.yG (y:=63#16) O (BR.ne (λk=>?_) λk=>?_)
       ·simp[M9.U6,e,a,d,f,i,j,k]at hr;exact wN
       ·refine Q5 ?_;simp[M9.U6,e,a,d,f,i,j,k]at hr;exact wN
theorem GA{x:M9}{y:Bool}(h:Hp c w (Ma b x::R)):Cr 466 #[Pt b,I tx,.bool y] w c (I (x.put tx y).1) (Ma b (x.put tx y).2::R):=by
 refine R2 func466 O ?_;generalize hr:x.put tx y=r;obtain⟨j,h⟩:=h.om;refine U0 h 0 O O (RD.xK Mu h 1 O _ (λe=>?_) λd e=>?_)
 ·refine I2 h O λb1 w h=>J3 h 0 O O O λw h=>Q5 ?_;simp[M9.put,e]at hr;exact gg
 ·refine I2 h O λb1 w h=>J3 h 0 O O O λw h=>m5 (BR.O' (λi=>?_) λi=>?_)
  ·refine U0 h 0 O O (BR.ne (λa=>?_) λa=>?_)
   ·refine U0 h 0 O O (BR.ne (λf=>?_) λf=>?_)
    ·simp[M9.put,e,i,a,f]at hr;exact gg
    ·refine J3 h 0 O O O λw h=>Y6 h [0,1,2,4,3,55,106] λh=>U3 1 O O (O4 h 0 O O ⟨h,A4.EM Mu h 2 O tx ⟨d.J0,d.E5,2⟩ O O O O O O λw h=>?_⟩);simp[M9.put,e,i,a,f]at hr;subst hr;replace h:=Hp.ld (h.g [1,2] O);exact rC
   ·refine m5 (J3 h 0 O O O λw h=>Y6 h [0,1,2,4,3,55,106] λh=>U3 1 O O (O4 h 0 O O ⟨h,A4.EM Mu h 2 O tx ⟨d.J0,d.E5,2⟩ O O O O O O λw h=>?_⟩));simp[M9.put,e,i,a]at hr;subst hr;replace h:=Hp.ld (h.g [1,2] O);exact rC
  ·refine U0 h 0 O O (BR.ne (λa=>?_) λa=>?_)
   ·refine U0 h 0 O O (BR.ne (λf=>?_) λf=>?_)
    ·simp[M9.put,e,i,a,f]at hr;exact gg
    ·refine J3 h 0 O O O λw h=>Y6 h [0,1,2,4,3,55,106] λh=>U3 1 O O (O4 h 0 O O ⟨h,A4.EM Mu h 2 O tx ⟨d.J0,d.E5,1⟩ O O O O O O λw h=>?_⟩);simp[M9.put,e,i,a,f]at hr;subst hr;replace h:=Hp.ld (h.g [1,2] O);exact rC
   ·refine m5 (J3 h 0 O O O λw h=>Y6 h [0,1,2,4,3,55,106] λh=>U3 1 O O (O4 h 0 O O ⟨h,A4.EM Mu h 2 O tx ⟨d.J0,d.E5,1⟩ O O O O O O λw h=>?_⟩));simp[M9.put,e,i,a]at hr;subst hr;replace h:=Hp.ld (h.g [1,2] O);exact rC
theorem yj{x:M9}{p C0:Int}(h:Hp c w (Ma b x::R)):Cr 19 #[Pt b,I tx,I p,I C0] w c (.tuple #[I (x.o9 tx p C0).1,I (x.o9 tx p C0).2]) (Ma b x::R):=by
 refine R2 func19 O ?_;generalize hr:x.o9 tx p C0=r;obtain⟨k,h⟩:=h.om;refine U0 h 0 O O (RD.xK Mu h 1 O _ (λa=>?_) λj a=>?_)
 ·refine I2 h O λb1 w h=>J3 h 0 O O O λw h=>Q5 (Q5 ?_);simp[M9.o9,a]at hr;exact gg
 ·refine I2 h O λb1 w h=>J3 h 0 O O O λw h=>m5 (U0 h 0 O O (WR.W (N1 (kJ h) λw h=>BR.not (BR.O' (λd=>?_) λd=>?_))))
  ·refine U0 h 0 O O (BR.T5 (λe=>?_) λe=>?_)
   ·refine Q5 ?_;simp[M9.o9,a,d,e]at hr;exact gg
   ·refine U0 h 0 O O (BR.eq (λf=>?_) λf=>?_)
    ·simp[M9.o9,a,d,e,f]at hr;exact gg
    ·refine U0 h 0 O O (BR.eq (λi=>?_) λi=>?_)
     ·simp[M9.o9,a,d,e,f,i]at hr;exact gg
     ·simp[M9.o9,a,d,e,f,i]at hr;exact gg
  ·simp[M9.o9,a,d]at hr;exact gg
theorem afB{x:M9}{a:BitVec 64}(h:Hp c w (Ma b x::R)):Cr 451 #[Pt b,U o,U a] w c (U (a&&&(o|||x.Zq))) (Ma b x::R):=by refine R2 func451 O ?_;obtain⟨d,h⟩:=h.om;refine U0 h 0 O O (bf.JO O (bf.pv O ?_));replace h:Hp _ _ (Ma _ (x)::_):=Hp.ld h;exact⟨rfl,h⟩
end
theorem fg{κ β:Type}[DecidableEq κ]:∀{l:List (κ×β)}{k:κ},(∀x∈l,¬x.1=k)->K0 l k=none
 |[],_,_=>rfl
 |x::l,k,h=>by unfold K0;rw[V0 (λe=>h x (Ka ..) e.symm)];exact fg λy a=>h y (Ta _ a)
section
variable[DecidableEq κ]{K:κ->Value}{V:β->Value}{xs:List (κ×β)}
variable{P:Program}{ty mt kt et:TypeId}{Q:Value->World->Prop}{m:Operand}
def mc(K:κ->Value)(V:β->Value)(b it:Nat)(xs left:List (κ×β))(x:κ×β):HP:=λh=>
 ∃(M seen:List (Nj κ))(y:Nj κ)(a:Nat),CL M a∧M.map (λx=>(x.1,x.2.1))=xs.map (λx=>(x.1,V x.2))∧b≠it∧h b=some (.map (M.map (Nc K)).toArray a)∧h it=some (.mapIter (some b) a ((seen++[y]).map (·.2.2)).toArray a)∧
  (M.filter λx=>!((seen++[y]).map (·.2.2)).contains x.2.2).map (λx=>(x.1,x.2.1))=left.map (λx=>(x.1,V x.2))∧y∈M∧K y.1=K x.1∧y.2.1=V x.2
omit [DecidableEq κ]in
theorem Hp.HM{x:κ×β}(h:Hp c w (mc K V b it xs left x::L)):Hp c w (mi K V b it xs left::L):=
 h.imp λ_⟨M,seen,y,j,a,g,d,i,f,e,_⟩=>⟨M,seen++[y],j,a,g,d,i,f,e⟩
omit [DecidableEq κ]in
theorem A4.BD(h:Hp c w L)(j:Nat)(s:i3 L j=some (mi K V b it xs left))(N:ρ m= .pointer (some ⟨it,0,none⟩))
 (H:left=[]->Q (.tuple #[.bool false]) w)
 (G:∀l1 x l2,left=l1++x::l2->∀w',Hp c w' (ep L j (mc K V b it xs (l1++l2) x))->Q (.tuple #[.bool true,K x.1,V x.2]) w'):
 A4 P ⟨dst,.next m false,ty,db,af,g⟩ ρ w Q PQ:=by
 obtain⟨Y,⟨M,seen,u,l,S,Aa,T,hit,d⟩,n⟩:=Bb (i:=j+1) h.A0 s;have A:MR K w b M u:=⟨l,⟨n b _ T⟩⟩;have R:It w it b u seen:=⟨⟨n it _ hit⟩⟩;refine A4.nxt A R N (λRd=>?_) λx a hns w' Z o=>?_
 ·refine H ?_;have:M.filter (λx=>!(seen.map (·.2.2)).contains x.2.2)=[]:=by rw[HE];intro x a;simp only[Bool.not_eq_true',Bool.not_eq_false,List.contains_iff_mem];exact Rd x a
  rw[this]at d;simp_all
 ·
  have Fe:x∈M.filter (λx=>!(seen.map (·.2.2)).contains x.2.2):=by rw[Aq];refine⟨a,?_⟩;simp only[Bool.not_eq_true',<-Bool.not_eq_true,List.contains_iff_mem];exact hns
  obtain⟨f1,f2,t⟩:=dL Fe;rw[t,ic,Kb]at d;obtain⟨l1,r,rfl,AB,Vm⟩:=List.append_eq_map_iff.1 d;obtain⟨y,l2,rfl,v,bj⟩:=CE.1 Vm;have E:K y.1=K x.1:=by have:=V4 Prod.fst v;simp only at this;rw[this]
  have D:V y.2=x.2.1:=by have:=V4 Prod.snd v;simpa using this
  rw[<-E,<-D];refine G l1 y l2 O w' (h.Tm s o (λY X n=>?_) (fD s _));obtain⟨M',UA,ck',_,_,amb,hb',ami,_⟩:=X;refine⟨λk o=>Zb6,M,seen,x,u,l,S,amb,?_,?_,?_,a,E.symm,D.symm⟩
  ·show(if _ then _ else _)=_;rw[S1 (.inr (by rw[hb'];simp))];exact(A.Q6 o Aa).ob.t8
  ·show(if _ then _ else _)=_;rw[S1 (.inr (by rw[ami];simp))];exact Z.ob.t8
  ·have J:=l.cC;have hfm:M.filter (λz=>!((seen++[x]).map (·.2.2)).contains z.2.2)=(M.filter (λz=>!(seen.map (·.2.2)).contains z.2.2)).filter (λz=>!decide (z.2.2=x.2.2)):=by rw[List.filter_filter];apply List.filter_congr;intro z _;simp only[List.map_append,List.map_cons,List.map_nil];rw[WK];simp only[Bool.not_eq_true',Bool.and_eq_true,<-Bool.not_eq_true,List.contains_iff_mem,List.mem_append,List.mem_singleton,decide_eq_true_eq,not_or];exact⟨λ⟨p,q⟩=>⟨q,p⟩,λ⟨p,q⟩=>⟨q,p⟩⟩
   rw[hfm,t];have F:((f1++x::f2).map (·.2.2)).Nodup:=by rw[<-t];exact J.sublist (List.filter_sublist.map _)
   rw[ic,Kb,Dq]at F;obtain⟨_,C,hn4⟩:=F;rw[Fm]at C;have g1:f1.filter (λz=>!decide (z.2.2=x.2.2))=f1:=by rw[zz];intro z f;have:=hn4 z.2.2 (oz f) x.2.2 Zb3;simpa using this
   have g2:f2.filter (λz=>!decide (z.2.2=x.2.2))=f2:=by rw[zz];intro z f;have:z.2.2≠x.2.2:=λe=>C.1 (e▸oz f);simpa using this
   simp[*]
omit [DecidableEq κ]in
theorem A4.XJ{x:κ×β}(h:Hp c w L)(j:Nat)(r:i3 L j=some (mc K V b it xs left x))(q:ρ m= .pointer (some ⟨it,0,none⟩))
 (o:Q (.tuple #[K x.1,V x.2]) w):A4 P ⟨dst,.entry m,ty,db,af,g⟩ ρ w Q PQ:=by
 obtain⟨E,⟨M,seen,y,d,f,t,F,l,hit,n,p,v,u⟩,k⟩:=Bb (i:=j+1) h.A0 r;have hob:Ob w b (.map (M.map (Nc K)).toArray d):=⟨k b _ l⟩;have hoi:Ob w it (.mapIter (some b) d ((seen++[y]).map (·.2.2)).toArray d):=⟨k it _ hit⟩;have a:=S9 (P:=P) hob Zb8;have hgi:=S9 (P:=P) hoi Zb8;have s:(M.map (Nc K)).toArray.find? (λe=>e.born==y.2.2)=some (Nc K y):=by
  rw[List.find?_toArray];have D:=f.cC;clear n l a hob hit t f;induction M with
  |nil=>cases p
  |cons z M C=>grind[Nc]
 refine A4.val (w':=w) ?_ o;have A:(((seen++[y]).map (·.2.2)).toArray).back?=some y.2.2:=Zb3
 simp only[execOp,q,Instr.entry,Sem.run_bind,hgi,a,Result.andThen_ok];simp only[A,Sem.run_bind,a,Result.andThen_ok];simp[s,Nc,v,u]
end
section
variable{σ:Type}[DecidableEq κ]{K:κ->Value}{R:Nat->σ->HP}{xs:List (κ×σ)}
def PO(K:κ->Value)(R:Nat->σ->HP)(b it:Nat)(xs:List (κ×σ))(left:List κ):HP:=
 sf λ(q:List (κ×Nat×σ)×List (κ×Nat))=>C5 [d6 (ks q.1=xs∧q.2.map (·.1)=left∧(∀x∈q.2,x∈kp q.1)),mi K Pt b it (kp q.1) q.2,ea R (ps q.1)]
def HZ(K:κ->Value)(R:Nat->σ->HP)(b it:Nat)(xs:List (κ×σ))(left:List κ)(k:κ)(p:Nat):HP:=
 sf λ(q:List (κ×Nat×σ)×σ×List (κ×Nat×σ)×List (κ×Nat))=>C5 [d6 (ks q.1++(k,q.2.1)::ks q.2.2.1=xs∧K0 (ks q.1) k=none∧q.2.2.2.map (·.1)=left∧(∀x∈q.2.2.2,x∈kp q.1++(k,p)::kp q.2.2.1)),mc K Pt b it (kp q.1++(k,p)::kp q.2.2.1) q.2.2.2 (k,p),ea R (ps q.1++ps q.2.2.1)]
section
variable{P:Program}{ty mt kt et:TypeId}{Q:Value->World->Prop}{m:Operand}
theorem Hp.JS(h:Hp c w (mr K R b xs::L)):(xs.map (·.1)).Nodup:=by obtain⟨q,rfl,a⟩:=h.Xc;have:=a.gr 0 O;grind
theorem A4.dt(d:P.underlying mt=some (.map kt et))(h:Hp c w (mr K R b xs::L))(f:ρ m= .map (some b))
 (a:∀it w',(xs.map (·.1)).Nodup->Hp c w' (PO K R b it xs (xs.map (·.1))::L)->Q (.pointer (some ⟨it,0,none⟩)) w'):A4 P ⟨dst,.range mt m,ty,db,af,g⟩ ρ w Q PQ:=by
 have e:=h.JS;obtain⟨q,rfl,i⟩:=h.Xc;refine A4.AD d i f (λit w' h=>a it w' e ?_);refine Hp.R8 (q,kp q) (Hp.C3 (A:=[d6 _,mi K Pt b it (kp q) (kp q),ea R (ps q)]) (Hp.T' ⟨rfl,?_,λ_ h=>h⟩ h));simp[kp,ks]
theorem Hp.EG{V:β->Value}{ys:List (κ×β)}(h:Hp c w (mi K V b it ys left::L)):Hp c w (mo K V b ys::L):=
 h.imp λ_⟨M,_,f,a,d,_,e,_⟩=>⟨M,f,a,d,e⟩
theorem Hp.xx{left:List κ}(h:Hp c w (PO K R b it xs left::L)):Hp c w (mr K R b xs::L):=by obtain⟨q,d⟩:=h.ex;obtain⟨⟨rfl,_,_⟩,a⟩:=d.R6.uf;exact a.EG.Bd
theorem Hp.Wp{left:List κ}{k:κ}{p:Nat}{s:σ}(h:Hp c w (R p s::HZ K R b it xs left k p::L)):Hp c w (PO K R b it (R1 xs k s) left::L):=by
 obtain⟨⟨d,t,a,ql⟩,h0⟩:=(h.g [1] rfl).ex;obtain⟨⟨e,j,l,m⟩,i⟩:=h0.R6.uf;simp only at e j l m i;subst e;rw[es j];have i:Hp c w (mi K Pt b it (kp d++(k,p)::kp a) ql::ea R (ps d++ps a)::R p s::L):=i.HM;have r:Hp c w (R (p,s).1 (p,s).2::ea R (ps d++ps a)::mi K Pt b it (kp d++(k,p)::kp a) ql::L):=i.g [2,1] O;have o:=r.Xu.g [1] O;have n:Hp c w (mi K Pt b it (kp (d++(k,p,s)::a)) ql::ea R (ps (d++(k,p,s)::a))::L):=by simpa [kp,ps] using o
 refine Hp.R8 (f:=λ(q:List (κ×Nat×σ)×List (κ×Nat))=>C5 [d6 (ks q.1=ks d++(k,s)::ks a∧q.2.map (·.1)=left∧(∀x∈q.2,x∈kp q.1)),mi K Pt b it (kp q.1) q.2,ea R (ps q.1)]) (d++(k,p,s)::a,ql) (Hp.C3 (A:=[d6 _,mi K Pt b it (kp (d++(k,p,s)::a)) ql,ea R (ps (d++(k,p,s)::a))]) (Hp.T' ⟨by simp[ks],l,?_⟩ n));simp_all
theorem A4.mG{left:List κ}(h:Hp c w (PO K R b it xs left::L))(D:ρ m= .pointer (some ⟨it,0,none⟩))
 (u:left=[]->Hp c w (mr K R b xs::L)->Q (.tuple #[.bool false]) w)
 (t:∀l1 k l2 p s w',left=l1++k::l2->K0 xs k=some s->Hp c w' (R p s::HZ K R b it xs (l1++l2) k p::L)->Q (.tuple #[.bool true,K k,Pt p]) w'):
 A4 P ⟨dst,.next m false,ty,db,af,g⟩ ρ w Q PQ:=by
 have h0:=h;obtain⟨⟨q,ql⟩,F⟩:=h.ex;obtain⟨⟨e,E,n⟩,o⟩:=F.R6.uf;simp only at e E n o;subst e;refine A4.BD o 0 O D (λe=>u Zb1 h0.xx) λl1 x l2 e w' h=>?_;have C:=n x (by rw[e];simp);have l:((kp q).map (·.1)).Nodup:=(Hp.gr h.HM.EG 0 O);obtain⟨q1,q3,MD⟩:=dL C;obtain⟨i,r2,Y,T,S⟩:=rL.1 MD;obtain⟨y,j,X,N,M⟩:=CE.1 S;obtain⟨a,d,ys⟩:=y;subst T M N X Y;have UZ:K0 (ks i) a=none:=by refine fg λz v V=>?_;simp only[kp,List.map_append,List.map_map,List.map_cons]at l;rw[Dq]at l;refine l.2.2 a ?_ a Zb3 O;obtain⟨r,hz',rfl⟩:=Un.1 v;exact Un.2 ⟨r,hz',V⟩
 have J:Hp c w' (ea R (ps i++(d,ys)::ps j)::mc K Pt b it (kp i++(a,d)::kp j) (l1++l2) (a,d)::L):=by have:=h.g [1] O;simpa [kp,ps] using this
 have H:=J.rq;have Z:ks (i++(a,d,ys)::j)=ks i++(a,ys)::ks j:=by simp[ks]
 have G:Hp c w' (mc K Pt b it (kp i++(a,d)::kp j) (l1++l2) (a,d)::ea R (ps i++ps j)::R d ys::L):=H.g [2,1] O;refine t (l1.map (·.1)) a (l2.map (·.1)) d ys w' Zb7 (by simp_all[Ri,K0]) (Hp.get (L:=HZ K R b it (ks (i++(a,d,ys)::j)) (l1.map (·.1)++l2.map (·.1)) a d::R d ys::L) ?_ 2 [1,0] O O);refine Hp.R8 (f:=λ(q:List (κ×Nat×σ)×σ×List (κ×Nat×σ)×List (κ×Nat))=>C5 [d6 (ks q.1++(a,q.2.1)::ks q.2.2.1=ks (i++(a,d,ys)::j)∧K0 (ks q.1) a=none∧q.2.2.2.map (·.1)=l1.map (·.1)++l2.map (·.1)∧(∀x∈q.2.2.2,x∈kp q.1++(a,d)::kp q.2.2.1)),mc K Pt b it (kp q.1++(a,d)::kp q.2.2.1) q.2.2.2 (a,d),ea R (ps q.1++ps q.2.2.1)]) (i,ys,j,l1++l2) (Hp.C3 (A:=[d6 _,mc K Pt b it (kp i++(a,d)::kp j) (l1++l2) (a,d),ea R (ps i++ps j)]) (Hp.T' ⟨Z.symm,UZ,Zb3,?_⟩ G));grind
theorem A4.Zw{left:List κ}{k:κ}{p:Nat}(h:Hp c w (HZ K R b it xs left k p::L))(d:ρ m= .pointer (some ⟨it,0,none⟩))
 (a:Q (.tuple #[K k,Pt p]) w):A4 P ⟨dst,.entry m,ty,db,af,g⟩ ρ w Q PQ:=by
 obtain⟨⟨j,f,i,ql⟩,h0⟩:=h.ex;obtain⟨_,e⟩:=h0.R6.uf;exact A4.XJ e 0 O d a
end
end
section
variable{xs:List α}{e:TypeId}{S:World->Prop}
theorem Oa.EI{x:α}(p:∀w,S w->Hp c w L)(j:Nat)(l:i3 L j=some (so e E a cap xs)){o:Nat}(m:a=some ⟨b,o,none⟩)(d:i3 xs n=some x)(k:K (.agg (E.f x).toArray)):
 Oa S ⟨b,o+n*E.sz,none⟩ E.sz K:=by
 refine⟨E.f x,E.len x,λw' g i v h=>?_,k⟩
 rw[i9]
 exact Pv (p w' g) j l m d h
theorem LD.EI{x:α}{v:Value}(p:∀w,S w->Hp c w L)(j:Nat)(l:i3 L j=some (so e E a cap xs)){o:Nat}(m:a=some ⟨b,o,none⟩)(d:i3 xs n=some x)(h:i3 (E.f x) k=some v)(i:K v):
 LD S ⟨b,o+n*E.sz+k,none⟩ K:=⟨v,λw' g=>Pv (p w' g) j l m d h,i⟩
theorem LD.Km{x:α}{v:Value}(m:∀w,S w->Hp c w L)(j:Nat)(i:i3 L j=some (so e E a cap xs)){o:Nat}(l:a=some ⟨b,o,none⟩)(d:i3 xs n=some x)(g:i3 (E.f x) 0=some v)(h:K v):
 LD S ⟨b,o+n*E.sz,none⟩ K:=LD.EI (k:=0) m j i l d g h
end
end Go.Proofs.YtaaihojmcfaejaaGreatDoor
