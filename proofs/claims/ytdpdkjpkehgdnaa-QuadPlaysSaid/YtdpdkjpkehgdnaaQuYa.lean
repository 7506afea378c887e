/-
  The reference's grid: Squares, at any square. No condition.
-/
import Derived.Test.YtdpdkjpkehgdnaaQuY
namespace Go.Proofs.Ytdpdkjpkehgdnaa
open Go.RowKit

theorem refSq_any (S g cap N : Nat) (f : Nat → Int) (hS : S ≤ 32) (k : Nat) : ∀ (x y : Nat) (w : World), k ≤ 5 → x + 2 ^ k ≤ S → y + 2 ^ k ≤ S → IntsAt w N g (S * S) f →
    Calls Try.prog 19 #[.agg #[.int .i64 (S : Int), .slice (some ⟨g, 0, none⟩) (S * S) cap], .int .i64 (x : Int), .int .i64 (y : Int), .int .i64 ((2 ^ k : Nat) : Int)] w fun e w' =>
      ∃ v, e = .returned v ∧ w'.ownsRow w.heap.size 53 4 v (sqG S f k x y).length (sqCells (sqG S f k x y)) ∧ Below w.heap.size w w' := by
  induction k with
  | zero =>
    intro x y w _ hx hy hf
    exact refSq_leaf S g cap x y (2 ^ 0) N f w hS hx hy (Nat.le_refl _) hf (one_zero S f x y)
  | succ k ihk =>
    intro x y w hk hx hy hf
    have hp : 0 < 2 ^ (k + 1) := Nat.two_pow_pos _
    have h2 : 2 ^ (k + 1) = 2 * 2 ^ k := by rw [Nat.pow_succ]; omega
    have h4 : 4 ^ k ≤ 1024 := Nat.le_trans (Nat.pow_le_pow_right (by decide) (show k ≤ 5 by omega)) (by decide)
    by_cases ho : OneP S f x y (2 ^ (k + 1))
    · have := refSq_leaf S g cap x y (2 ^ (k + 1)) N f w hS hx hy hp hf ho
      rw [sqG, if_pos ho]
      exact this
    · have hle := fun a b => Nat.le_trans (sqG_le S f k a b) h4
      have hpos := sqG_pos S f k
      rw [sqG, if_neg ho]
      generalize sqG S f k = L at *
      generalize 2 ^ (k + 1) = n at *
      generalize 2 ^ k = h at *
      exact refSq_node S g cap x y h n N f L w hS h2 hx hy hp hf ho (fun a b => ⟨hpos a b, hle a b⟩) fun a b w' ha hb hB => ihk a b w' (by omega) ha hb (hf.below hB)
end Go.Proofs.Ytdpdkjpkehgdnaa
