/-
  Regions with many orders: each set of operations that are done is proved once.
-/
import Derived.Test.YtjgphbdffhmmgaaHeld
namespace Go.Proofs.Ytjgphbdffhmmgaa
set_option linter.unusedSimpArgs false
set_option linter.unusedVariables false
open Go Go.RowKit
set_option maxRecDepth 100000

theorem wpAnyH_listed {P : Program} {ops : Array Oper} {Q : Exit → Act → World → Prop} {md : Region.Mode} {S : World → Prop} {a : Act} {w : World} {fuel : Nat} {l l' : Array Bool} (h : l = l')
    (hw : wpAnyH P md ops Q S fuel l' a w) : wpAnyH P md ops Q S fuel l a w := by rw [h]; exact hw

/-- The operations of region n of a code. -/
def regionOf (n : Nat) : Code → Array Oper
  | .region k ops _ => if k = n then ops else #[]
  | .seq a b => if (regionOf n a).size = 0 then regionOf n b else regionOf n a
  | .cond _ a b => if (regionOf n a).size = 0 then regionOf n b else regionOf n a
  | .block _ a => regionOf n a
  | .loop a => regionOf n a
  | .scope a => regionOf n a
  | _ => #[]
theorem region_eq {P : Program} {ops ops' : Array Oper} {Q : Exit → Act → World → Prop} {a : Act} {w : World} {id : Nat} {b : Bool} (h : ops = ops')
    (hw : (Code.region id ops' b).wp P Q a w) : (Code.region id ops b).wp P Q a w := by rw [h]; exact hw

end Go.Proofs.Ytjgphbdffhmmgaa
