/- Lemmas for the tops: the walk of the house and its laws. No condition is added. -/
import Derived.Shelf.Sort.Plain
import Derived.Shelf.Slices.In.SortNone
import Derived.Test.YtaaihojmcfaejaaGreatDoorProg
import Derived.Test.YtaaihojmcfaejaaGreatDoorQaa
set_option linter.all false
namespace Go.Proofs
open Go.Shelf
def Tryz.aoD:Go.Shelf.Ren:=⟨λ|189=>158|125=>140|257=>208|128=>192|129=>193|294=>261|295=>262|296=>263|297=>264|298=>265|299=>266|216=>267|300=>268|301=>269|328=>314|329=>241|330=>242|331=>315|332=>316|215=>76|343=>341|n=>n,λ|28=>32|3=>3|46=>229|0=>0|51=>356|53=>126|4=>4|183=>350|182=>349|131=>66|5=>5|9=>9|218=>396|222=>180|228=>458|229=>459|n=>n,λ|n=>n⟩
theorem Tryz.aoI:Go.Proofs.Lays.n189 Tryz.prog Tryz.aoD:={
 mixed:=by kernel_rfl
 f125:=Tryz.func140.trans (congrArg some (by kernel_rfl))
 f128:=Tryz.func192.trans (congrArg some (by kernel_rfl))
 f129:=Tryz.func193.trans (congrArg some (by kernel_rfl))
 f189:=Tryz.func158.trans (congrArg some (by kernel_rfl))
 f215:=Tryz.func76.trans (congrArg some (by kernel_rfl))
 f216:=Tryz.func267.trans (congrArg some (by kernel_rfl))
 f257:=Tryz.func208.trans (congrArg some (by kernel_rfl))
 f294:=Tryz.func261.trans (congrArg some (by kernel_rfl))
 f295:=Tryz.func262.trans (congrArg some (by kernel_rfl))
 f296:=Tryz.func263.trans (congrArg some (by kernel_rfl))
 f297:=Tryz.func264.trans (congrArg some (by kernel_rfl))
 f298:=Tryz.func265.trans (congrArg some (by kernel_rfl))
 f299:=Tryz.func266.trans (congrArg some (by kernel_rfl))
 f300:=Tryz.func268.trans (congrArg some (by kernel_rfl))
 f301:=Tryz.func269.trans (congrArg some (by kernel_rfl))
 f328:=Tryz.func314.trans (congrArg some (by kernel_rfl))
 f329:=Tryz.func241.trans (congrArg some (by kernel_rfl))
 f330:=Tryz.func242.trans (congrArg some (by kernel_rfl))
 f331:=Tryz.func315.trans (congrArg some (by kernel_rfl))
 f332:=Tryz.func316.trans (congrArg some (by kernel_rfl))
 f343:=Tryz.func341.trans (congrArg some (by kernel_rfl))
 t0:=Tryz.underlying0
 a0:=Tryz.isAgg0
 z0:=Tryz.sizeOf0
 v0:=Tryz.zeroValue0
 t3:=Tryz.underlying3
 a3:=Tryz.isAgg3
 z3:=Tryz.sizeOf3
 v3:=Tryz.zeroValue3
 t4:=Tryz.underlying4
 a4:=Tryz.isAgg4
 z4:=Tryz.sizeOf4
 v4:=Tryz.zeroValue4
 t5:=Tryz.underlying5
 a5:=Tryz.isAgg5
 z5:=Tryz.sizeOf5
 v5:=Tryz.zeroValue5
 t9:=Tryz.underlying9
 a9:=Tryz.isAgg9
 z9:=Tryz.sizeOf9
 v9:=Tryz.zeroValue9
 t28:=Tryz.underlying32
 a28:=Tryz.isAgg32
 z28:=Tryz.sizeOf32
 v28:=Tryz.zeroValue32
 t46:=Tryz.underlying229
 a46:=Tryz.isAgg229
 z46:=Tryz.sizeOf229
 v46:=Tryz.zeroValue229
 t51:=Tryz.underlying356
 a51:=Tryz.isAgg356
 z51:=Tryz.sizeOf356
 v51:=Tryz.zeroValue356
 t53:=Tryz.underlying126
 a53:=Tryz.isAgg126
 z53:=Tryz.sizeOf126
 v53:=Tryz.zeroValue126
 t131:=Tryz.underlying66
 a131:=Tryz.isAgg66
 z131:=Tryz.sizeOf66
 v131:=Tryz.zeroValue66
 t182:=Tryz.underlying349
 a182:=Tryz.isAgg349
 z182:=Tryz.sizeOf349
 v182:=Tryz.zeroValue349
 t183:=Tryz.underlying350
 a183:=Tryz.isAgg350
 z183:=Tryz.sizeOf350
 v183:=Tryz.zeroValue350
 t218:=Tryz.underlying396
 a218:=Tryz.isAgg396
 z218:=Tryz.sizeOf396
 v218:=Tryz.zeroValue396
 t222:=Tryz.underlying180
 a222:=Tryz.isAgg180
 z222:=Tryz.sizeOf180
 v222:=Tryz.zeroValue180
 t228:=Tryz.underlying458
 a228:=Tryz.isAgg458
 z228:=Tryz.sizeOf458
 v228:=Tryz.zeroValue458
 t229:=Tryz.underlying459
 a229:=Tryz.isAgg459
 z229:=Tryz.sizeOf459
 v229:=Tryz.zeroValue459}
end Go.Proofs
