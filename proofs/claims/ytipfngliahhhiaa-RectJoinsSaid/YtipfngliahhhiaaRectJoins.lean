/-
  The walk of the statement RectJoins: it returns true, for every two rectangles.
-/
import Derived.Test.YtipfngliahhhiaaRectJoins1
import Derived.Test.YtipfngliahhhiaaRectJoins2
import Derived.Test.YtipfngliahhhiaaRectJoins3
import Derived.Test.YtipfngliahhhiaaRectJoins5
namespace Go.Proofs.Ytipfngliahhhiaa
open Go.RowKit

theorem lawJoins (x y m n x' y' m' n' : Int) (w : World) :
    Calls Try.prog 5 #[.agg #[.int .i64 x, .int .i64 y, .int .i64 m, .int .i64 n], .agg #[.int .i64 x', .int .i64 y', .int .i64 m', .int .i64 n']] w fun e w' => e = .returned (.bool true) ∧ Below w.heap.size w w' := by
  cases h1 : rightB x y m n <;> cases h2 : rightB x' y' m' n'
  · exact lawJoins_none x y m n x' y' m' n' h1 h2 w
  · exact lawJoins_snd x y m n x' y' m' n' h1 h2 w
  · exact lawJoins_fst x y m n x' y' m' n' h1 h2 w
  · exact lawJoins_both x y m n x' y' m' n' h1 h2 w
end Go.Proofs.Ytipfngliahhhiaa
