/-
  Small general lemmas for the walks: worlds that keep what lay below a block; bools; ends of calls. No condition.
-/
import Derived.Test.YtdpdkjpkehgdnaaRows
import Derived.WalkKit
import Derived.WalkSpells
import Derived.WalkLawsBesides
import Derived.Deep.QuietTactic
import Derived.BigQuiet
import Derived.WalkSmall
import Derived.RegionTactic
import Derived.ChangeAlike
import Derived.Deep.DeepCutAuto
import Derived.BigRegion
import Derived.Deep.RegionHeld3
import Derived.RegionTactic
namespace Go.Proofs.Ytdpdkjpkehgdnaa
open Go.RowKit

theorem bcell {W w1 : World} (hb : Below W.heap.size W w1) : (∀ b o, b < W.heap.size → w1.cell? ⟨b, o, none⟩ = W.cell? ⟨b, o, none⟩) ∧ (∀ b o, b < W.heap.size → w1.frozen? ⟨b, o, none⟩ = W.frozen? ⟨b, o, none⟩) :=
  ⟨fun b o h => hb.cell (p := ⟨b, o, none⟩) h, fun b o h => hb.frozen (p := ⟨b, o, none⟩) h⟩

theorem bstep {W w1 w2 : World} (h : Below W.heap.size W w1) (k : Below w1.heap.size w1 w2) : Below W.heap.size W w2 := h.trans (k.mono h.size)

theorem balloc {w W : World} (h : Below w.heap.size w W) (o : Obj) : Below w.heap.size w (W.alloc o) := h.alloc h.size o
theorem bthrough {B : Nat} {w W w1 : World} (h : Below B w W) (k : Below W.heap.size W w1) (hB : B ≤ W.heap.size) : Below B w w1 := h.trans (k.mono hB)

/-- a fact laid out of the walk's sight -/
theorem hid {p : Prop} (h : p) : Hid p := h

theorem ret_bool {a b : Bool} (h : a = b) : Ending.returned (.bool a) = .returned (.bool b) := by rw [h]
theorem ret_int {k : IntKind} {a b : Int} (h : a = b) : Ending.returned (.int k a) = .returned (.int k b) := by rw [h]
end Go.Proofs.Ytdpdkjpkehgdnaa
