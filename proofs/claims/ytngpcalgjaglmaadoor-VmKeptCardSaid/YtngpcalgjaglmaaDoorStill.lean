/- A region that draws its order: reads and quiet calls, then one store: the kit's law, its world spelled as the walk spells it. Free of any program. -/
import Derived.Test.YtngpcalgjaglmaaDoorRows
import Derived.WalkKit
import Derived.StillTailTactics
namespace Go
theorem stillTail {P : Program} {id : Nat} {Q : Exit → Act → World → Prop} {a : Act} {w W : World} {l : List Oper} (n : Nat) (hm : P.follows .mixedOrders = true) (hB : Region.lexTailB .any l.toArray n = true) (hW : w.drew = W)
    (h : wpStill P l.toArray W (fun a' => wpList P l.toArray Q (l.drop n) a' W) (l.take n) a) : (Code.region id l.toArray true).wp P Q a w := by
  subst hW
  exact wp_region_still_tail n hm hB h
end Go
