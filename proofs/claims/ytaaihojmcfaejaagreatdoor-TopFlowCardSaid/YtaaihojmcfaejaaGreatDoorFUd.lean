/- Lemmas for the tops: the walk of the house and its laws. No condition is added. -/
import Derived.Test.YtaaihojmcfaejaaGreatDoorQbc
import Derived.Test.YtaaihojmcfaejaaGreatDoorFQa
import Derived.Test.YtaaihojmcfaejaaGreatDoorQay
import Derived.Test.YtaaihojmcfaejaaGreatDoorQah
import Derived.Test.YtaaihojmcfaejaaGreatDoorQaf
set_option linter.all false
namespace Go.Proofs.YtaaihojmcfaejaaGreatDoor
open Go Go.RowKit Go.Proofs.Tryz
section
variable{c w:World}{R:List HP}{b:Nat}{s:HS}{g:HG}
theorem ahJ(h:Hp c w (bk b (O9 s g) 90::R)):Cr 14 #[Pt b] w c (Pt g.pl) (bk b (O9 s g) 90::R):=by exact R2 func14 O (U0 h 0 O O ⟨rfl,h⟩)
end
end Go.Proofs.YtaaihojmcfaejaaGreatDoor
