/-
  Layer 9's statements: one call of both (step): every call.
-/
import Derived.Test.YtgkohbjbfjnllaaSlX
import Derived.Test.YtgkohbjbfjnllaaSlX0
import Derived.Test.YtgkohbjbfjnllaaSlX2
import Derived.Test.YtgkohbjbfjnllaaSlX3
namespace Go.Proofs.Ytgkohbjbfjnllaa
open Go.RowKit

theorem step_any [fb : Forbid] {B : Nat} (bp size : Nat) (sv xv dv : Value) (recs : List (List UInt8)) (kind slot : Int) (data : List UInt8) (w : World) (hB : B ≤ w.heap.size) (hp : PageAt w B bp (size : Int) sv recs) (hx : StrsAt w B xv recs) (hd : StaysAt B bp w dv data) (hf : Fits size recs) (hs : size ≤ 400) (hdl : data.length ≤ 400) :
    Calls Try.prog 15 #[.pointer (some ⟨bp, 0, none⟩), xv, .int .i64 (size : Int), .agg #[.int .i64 kind, .int .i64 slot, dv]] w fun e w' => ∃ xv', e = .returned (.tuple #[xv', .bool true]) ∧ (∃ sv', PageAt w' B bp (size : Int) sv' (stepV size recs kind slot data)) ∧ StrsAt w' B xv' (stepV size recs kind slot data) ∧ Touch B bp w w' := by
  by_cases h1 : kind = 1
  · subst h1
    exact step_one bp size sv xv dv recs slot data w hB hp hx hd hf hs hdl
  · by_cases h2 : kind = 2
    · subst h2
      exact step_two bp size sv xv dv recs slot data w hB hp hx hd hf hs hdl
    · by_cases h3 : kind = 3
      · subst h3
        exact step_three bp size sv xv dv recs slot data w hB hp hx hd hf hs hdl
      · exact step_other bp size sv xv dv recs kind slot data w hB hp hx hd hf hs hdl h1 h2 h3
end Go.Proofs.Ytgkohbjbfjnllaa
