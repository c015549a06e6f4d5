/- Lemmas for the tops: the walk of the house and its laws. No condition is added. -/
import Derived.Shelf.Vars
import Derived.Stop.LaidErr
import Derived.Test.YtaaihojmcfaejaaGreatDoorQbd
set_option linter.all false
namespace Go.Proofs.YtaaihojmcfaejaaGreatDoor
open Go Go.RowKit Go.ChangeShapes Go.WideShapes Go.ChangeAt Go.Lib Go.Shelf
theorem ais:ownKnob Tryz.prog.godebug=none:=Zb2
def Sv:List (String×DataW Unit):=[("math/bits.deBruijn32tab",Rows.laid_math_bits_deBruijn32tab),("math/bits.deBruijn64tab",Rows.laid_math_bits_deBruijn64tab),("internal/strconv.uint64pow10",Rows.laid_internal_strconv_uint64pow10)]
theorem ajU:Tryz.prog.globalNamed "math/bits.deBruijn64tab" =some 2:=Zb2
theorem DT:(Tryz.prog.globals[2]?).map (·.type)=some 426:=Zb2
theorem cU:Tryz.prog.cellsOf 426=64:=Zb2
theorem JM{W:World}(h:laidMet Tryz.prog Sv W):ng W:=by
 have b:Lib.TabIs Tryz.prog W "math/bits.deBruijn64tab" .u8 (Lib.deBruijn64tab.map λ(n:Nat)=>(n:Int)):=
  Lib.tabIs_of_head ajU DT Tryz.underlying426 Tryz.underlying5 hc5 cU h.tail
 refine⟨λj a=>?_⟩;have:=b.cell ajU j (by simpa using a);rw[this];simp[List.getD_eq_getElem?_getD,a]
theorem Zv:laidOutB Tryz.prog=true:=Zb2
noncomputable def rk(b:Go.Os):World:=
 let a:=World.holding Tryz.prog b ⟨#[],#[],[]⟩;let put (h:Array Obj) (g:Nat) (cs:Array Value):Array Obj:=h.modify g λ
  | .cells _ t frozen=> .cells cs t frozen
  |o=>o
 let e:=put a.heap 2 (Lib.deBruijn64tab.map λ(n:Nat)=>Value.int .u8 (n:Int)).toArray;let d:=put e 3 (Lib.deBruijn32tab.map λ(n:Nat)=>Value.int .u8 (n:Int)).toArray;let c:=put d 1 ((List.range 20).map λ(n:Nat)=>Value.int .u64 (10^n:Int)).toArray
 {a with heap:=c}
set_option maxRecDepth 100000 in
theorem PG(a:Go.Os)(args:Array Value):laidMet Tryz.prog Sv ((rk a).forCall (λ_ _=>0) ⟨#[],args,[]⟩).memory:=
 laidMet_of_run' 8 Zb2 Zb2
theorem aiC:Tryz.prog.funcs.any Func.goes=false:=Zb2
theorem rX(f:FuncId):Tryz.prog.goes f=false:=by
 have h:∀g:FuncId,(Tryz.prog.funcs[g]?).any Func.goes=false:=by
  intro g;cases b:Tryz.prog.funcs[g]? with
  |none=>rfl
  |some fn=>have:=aiC;rw[Array.any_eq_false]at this;obtain⟨d,c⟩:=vI.1 b;have a:=this g d;rw[c]at a;simpa using a
 unfold Program.goes;rw[Bool.or_eq_false_iff];refine⟨?_,by rw[aiC,Bool.and_false]⟩;rw[List.any_eq_false];intro g _;rw[h g];decide
theorem kH(c:OpenClaim)(hs:c.start= .entering):false=c.goesBy Tryz.prog:=by
 unfold OpenClaim.goesBy Program.goesAt Program.goesFrom;rw[hs];cases Tryz.prog.funcNamed c.func with
 |none=>rfl
 |some f=>simp[rX f]
end Go.Proofs.YtaaihojmcfaejaaGreatDoor
