/-
  For the last region of QuadPlays: all is kept but one block; the sum of the squares; bytes held.
-/
import Derived.Test.YtdpdkjpkehgdnaaQuZ
import Derived.Test.YtdpdkjpkehgdnaaQuBy
import Derived.RangeFuncOwn
import Derived.RangeFuncKeeps
namespace Go.Proofs.Ytdpdkjpkehgdnaa
open Go.RowKit

section
variable {P : Program} {md : Region.Mode} {ops : Array Oper} {Q : Exit → Act → World → Prop} {S S' : World → Prop}
/-- what holds in each world may be taken narrower on the way -/
theorem wpAnyH_mono (hSS : ∀ w, S' w → S w) : ∀ (fuel : Nat) (listed : Array Bool) (a : Act) (w : World), wpAnyH P md ops Q S' fuel listed a w → wpAnyH P md ops Q S fuel listed a w
  | 0, _, _, _, h => h
  | fuel + 1, _, _, _, h => ⟨h.1, fun i hi => wpOp_mono (fun a' w' h' => ⟨hSS _ h'.1, wpAnyH_mono hSS fuel _ a' w' h'.2⟩) (h.2 i hi)⟩
end

/-- all is kept but one block -/
structure But (B r : Nat) (W W' : World) : Prop where
  below : Below B W W'
  size : W.heap.size ≤ W'.heap.size
  block : ∀ k, k < W.heap.size → k ≠ r → W'.heap[k]? = W.heap[k]?
theorem But.of_below {B r : Nat} {W W' : World} (h : Below W.heap.size W W') (hB : B ≤ W.heap.size) : But B r W W' :=
  ⟨h.mono hB, h.size, fun k hk _ => h.block k hk⟩
theorem But.after {B r : Nat} {W W' W'' : World} (h : Below W.heap.size W W') (k : But B r W' W'') (hB : B ≤ W.heap.size) : But B r W W'' :=
  ⟨(h.mono hB).trans k.below, Nat.le_trans h.size k.size, fun i hi hne => (k.block i (Nat.lt_of_lt_of_le hi h.size) hne).trans (h.block i hi)⟩
theorem But.set {B r : Nat} {W W' : World} (h : Below W.heap.size W W') (hB : B ≤ r) (hr : B ≤ W.heap.size) (o : Nat) (u : Value) : But B r W (W'.setCell ⟨r, o, none⟩ u) :=
  ⟨(h.mono hr).setCell (p := ⟨r, o, none⟩) hB u, by simpa using h.size, fun k hk hne => (Below.heap_setCell _ _ _ _ hne).trans (h.block k hk)⟩
theorem But.cell {B r : Nat} {W W' : World} (h : But B r W W') (b o : Nat) (hb : b < W.heap.size) (hne : b ≠ r) : W'.cell? ⟨b, o, none⟩ = W.cell? ⟨b, o, none⟩ :=
  World.cell?_of_block (a := ⟨b, o, none⟩) (h.block b hb hne)

/-- bytes of one's own turn to a string in every later world -/
theorem conv_held {w : World} {base B r : Nat} {v : Value} {l : List UInt8} (h : w.ownsRow base 5 1 v l.length (cellsB l)) (hp : 0 < l.length) (hr : r < base) : ∀ w', But B r w w' → (convert 54 9 v).run Try.prog w' = .ok (.string (baOf l)) w' := by
  obtain ⟨g, cap, rfl, hg, hgl, hc⟩ := own_get h hp
  intro w' hw'
  refine run_string_b fun j u hu => ?_
  have h1 := hc j u hu
  rw [Addr.add_lit, Nat.zero_add] at h1 ⊢
  rw [hw'.cell g j hgl (by omega)]
  exact h1

/-- the squares and the nodes of a tree: four for three -/
theorem quartS {N n : Nat} (h : 3 * N + 1 = 4 * n) (hn : n ≤ 1000000000) : IntKind.i64.wrap (4 * (n : Int)) = 4 * (n : Int) ∧ IntKind.i64.wrap (4 * (n : Int) - 1) = 4 * (n : Int) - 1 ∧ (4 * (n : Int) - 1).tdiv 3 = (N : Int) ∧ IntKind.i64.wrap (N : Int) = (N : Int) := by
  have h1 : 4 * (n : Int) - 1 = 3 * (N : Int) := by omega
  refine ⟨IntWalk.i64_in _ (by omega), IntWalk.i64_in _ (by omega), ?_, IntWalk.i64_in _ (by omega)⟩
  rw [h1, Int.mul_tdiv_cancel_left _ (by decide)]
end Go.Proofs.Ytdpdkjpkehgdnaa
