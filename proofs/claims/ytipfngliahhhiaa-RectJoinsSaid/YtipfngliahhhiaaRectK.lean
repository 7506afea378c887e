/-
  Small laws for the walks of RectMeets and RectJoins: what Common finds, under four names; twelve cells that are kept.
-/
import Derived.Test.YtipfngliahhhiaaRectE
import Derived.Test.YtipfngliahhhiaaRectG
import Derived.Test.YtipfngliahhhiaaRectAwake2
namespace Go.Proofs.Ytipfngliahhhiaa
open Go.RowKit

theorem meetB_comm (x y m n x' y' m' n' : Int) : meetB x' y' m' n' x y m n = meetB x y m n x' y' m' n' := by
  unfold meetB
  rw [Int.max_comm x' x, Int.max_comm y' y, Int.min_comm (x' + m'), Int.min_comm (y' + n'), Bool.and_comm (rightB x' y' m' n')]

theorem common_none2 (x y m n x' y' m' n' : Int) (w : World) (h : meetB x y m n x' y' m' n' = false) :
    Calls Try.prog 12 #[.agg #[.int .i64 x', .int .i64 y', .int .i64 m', .int .i64 n'], .agg #[.int .i64 x, .int .i64 y, .int .i64 m, .int .i64 n]] w fun e w' =>
      e = .returned (.tuple #[.agg #[.int .i64 0, .int .i64 0, .int .i64 0, .int .i64 0], .bool false]) ∧ Below w.heap.size w w' :=
  common_none x' y' m' n' x y m n w (by rw [meetB_comm]; exact h)
theorem meets_two (x y m n x' y' m' n' : Int) (w : World) :
    Calls Try.prog 13 #[.agg #[.int .i64 x', .int .i64 y', .int .i64 m', .int .i64 n'], .agg #[.int .i64 x, .int .i64 y, .int .i64 m, .int .i64 n]] w fun e w' =>
      e = .returned (.bool (meetB x y m n x' y' m' n')) ∧ Below w.heap.size w w' := by
  rw [← meetB_comm]
  exact meets_any x' y' m' n' x y m n w

theorem gr_last {x y m n x' y' m' n' : Int} {w wX : World} (h : wX.cell? ⟨w.heap.size, 0, none⟩ = some (.int .i64 x) ∧ wX.cell? ⟨w.heap.size, 1, none⟩ = some (.int .i64 y) ∧ wX.cell? ⟨w.heap.size, 2, none⟩ = some (.int .i64 m) ∧ wX.cell? ⟨w.heap.size, 3, none⟩ = some (.int .i64 n) ∧ wX.cell? ⟨w.heap.size + 1, 0, none⟩ = some (.int .i64 x') ∧ wX.cell? ⟨w.heap.size + 1, 1, none⟩ = some (.int .i64 y') ∧ wX.cell? ⟨w.heap.size + 1, 2, none⟩ = some (.int .i64 m') ∧ wX.cell? ⟨w.heap.size + 1, 3, none⟩ = some (.int .i64 n') ∧ Below (w.heap.size + 2) ((w.alloc (.cells #[.int .i64 x, .int .i64 y, .int .i64 m, .int .i64 n] 23)).alloc (.cells #[.int .i64 x', .int .i64 y', .int .i64 m', .int .i64 n'] 23)) wX) : Below (w.heap.size + 2) ((w.alloc (.cells #[.int .i64 x, .int .i64 y, .int .i64 m, .int .i64 n] 23)).alloc (.cells #[.int .i64 x', .int .i64 y', .int .i64 m', .int .i64 n'] 23)) wX := h.2.2.2.2.2.2.2.2

/-- what Common finds, under four names -/
def isCommon (x y m n x' y' m' n' cx cy cw ch : Int) : Prop := cx = max x x' ∧ cy = max y y' ∧ cw = min (x + m) (x' + m') - max x x' ∧ ch = min (y + n) (y' + n') - max y y'
theorem common_as (x y m n x' y' m' n' : Int) (cx cy cw ch : Int) (w : World) (h : meetB x y m n x' y' m' n' = true) (hc : isCommon x y m n x' y' m' n' cx cy cw ch) :
    Calls Try.prog 12 #[.agg #[.int .i64 x, .int .i64 y, .int .i64 m, .int .i64 n], .agg #[.int .i64 x', .int .i64 y', .int .i64 m', .int .i64 n']] w fun e w' =>
      e = .returned (.tuple #[.agg #[.int .i64 cx, .int .i64 cy, .int .i64 cw, .int .i64 ch], .bool true]) ∧ Below w.heap.size w w' := by
  obtain ⟨rfl, rfl, rfl, rfl⟩ := hc
  exact common_has x y m n x' y' m' n' w h
theorem common_as2 (x y m n x' y' m' n' : Int) (cx cy cw ch : Int) (w : World) (h : meetB x y m n x' y' m' n' = true) (hc : isCommon x y m n x' y' m' n' cx cy cw ch) :
    Calls Try.prog 12 #[.agg #[.int .i64 x', .int .i64 y', .int .i64 m', .int .i64 n'], .agg #[.int .i64 x, .int .i64 y, .int .i64 m, .int .i64 n]] w fun e w' =>
      e = .returned (.tuple #[.agg #[.int .i64 cx, .int .i64 cy, .int .i64 cw, .int .i64 ch], .bool true]) ∧ Below w.heap.size w w' := by
  obtain ⟨rfl, rfl, rfl, rfl⟩ := hc
  have := common_has x' y' m' n' x y m n w (by rw [meetB_comm]; exact h)
  rw [Int.max_comm x' x, Int.max_comm y' y, Int.min_comm (x' + m'), Int.min_comm (y' + n')] at this
  exact this

theorem common_bd (x y m n x' y' m' n' : Int) {cx cy cw ch : Int} (h : meetB x y m n x' y' m' n' = true) (hc : isCommon x y m n x' y' m' n' cx cy cw ch) : (0 ≤ cx ∧ cx ≤ 255 ∧ 1 ≤ cw ∧ cx + cw ≤ 256) ∧ (0 ≤ cy ∧ cy ≤ 255 ∧ 1 ≤ ch ∧ cy + ch ≤ 256) := by
  obtain ⟨h1, h2, h3, h4⟩ := of_meetB h
  obtain ⟨⟨a1, a2, a3, a4⟩, a5, a6, a7, a8⟩ := of_rightB h1
  obtain ⟨⟨b1, b2, b3, b4⟩, b5, b6, b7, b8⟩ := of_rightB h2
  obtain ⟨rfl, rfl, rfl, rfl⟩ := hc
  omega
theorem common_both (x y m n x' y' m' n' : Int) {cx cy cw ch i k : Int} (h : meetB x y m n x' y' m' n' = true) (hc : isCommon x y m n x' y' m' n' cx cy cw ch) (hi : cx ≤ i ∧ i < cx + cw) (hk : cy ≤ k ∧ k < cy + ch) : holdsB x y m n i k = true ∧ holdsB x' y' m' n' i k = true := by
  obtain ⟨h1, h2, h3, h4⟩ := of_meetB h
  obtain ⟨rfl, rfl, rfl, rfl⟩ := hc
  simp [holdsB, h1, h2]
  omega
theorem common_else (x y m n x' y' m' n' : Int) {cx cy cw ch i k : Int} (_h : meetB x y m n x' y' m' n' = true) (hc : isCommon x y m n x' y' m' n' cx cy cw ch) (ho : ¬ ((cx ≤ i ∧ i < cx + cw) ∧ (cy ≤ k ∧ k < cy + ch))) (h1 : holdsB x y m n i k = true) : holdsB x' y' m' n' i k = false := by
  cases h2 : holdsB x' y' m' n' i k
  · rfl
  · exfalso
    apply ho
    simp only [holdsB, Bool.and_eq_true, decide_eq_true_eq] at h1 h2
    obtain ⟨rfl, rfl, rfl, rfl⟩ := hc
    omega
theorem common_right (x y m n x' y' m' n' : Int) {cx cy cw ch : Int} (h : meetB x y m n x' y' m' n' = true) (hc : isCommon x y m n x' y' m' n' cx cy cw ch) : rightB cx cy cw ch = true := by
  obtain ⟨⟨a1, a2, a3, a4⟩, a5, a6, a7, a8⟩ := common_bd x y m n x' y' m' n' h hc
  simp only [rightB, Bool.and_eq_true]
  exact ⟨sideB_of (by omega), sideB_of (by omega)⟩
theorem common_inB (x y m n x' y' m' n' : Int) {cx cy cw ch : Int} (h : meetB x y m n x' y' m' n' = true) (hc : isCommon x y m n x' y' m' n' cx cy cw ch) : inB x y m n x' y' m' n' = true ↔ (cx = x ∧ cy = y ∧ cw = m ∧ ch = n) := by
  obtain ⟨h1, h2, h3, h4⟩ := of_meetB h
  obtain ⟨rfl, rfl, rfl, rfl⟩ := hc
  simp [inB, h1, h2]
  omega

theorem keep12 {A B C : Nat} {va0 va1 va2 va3 vb0 vb1 vb2 vb3 vc0 vc1 vc2 vc3 : Int} {W w1 : World} (hA : A < W.heap.size) (hB : B < W.heap.size) (hC : C < W.heap.size) (h : Below W.heap.size W w1) (hW : W.cell? ⟨A, 0, none⟩ = some (.int .i64 va0) ∧ W.cell? ⟨A, 1, none⟩ = some (.int .i64 va1) ∧ W.cell? ⟨A, 2, none⟩ = some (.int .i64 va2) ∧ W.cell? ⟨A, 3, none⟩ = some (.int .i64 va3) ∧ W.cell? ⟨B, 0, none⟩ = some (.int .i64 vb0) ∧ W.cell? ⟨B, 1, none⟩ = some (.int .i64 vb1) ∧ W.cell? ⟨B, 2, none⟩ = some (.int .i64 vb2) ∧ W.cell? ⟨B, 3, none⟩ = some (.int .i64 vb3) ∧ W.cell? ⟨C, 0, none⟩ = some (.int .i64 vc0) ∧ W.cell? ⟨C, 1, none⟩ = some (.int .i64 vc1) ∧ W.cell? ⟨C, 2, none⟩ = some (.int .i64 vc2) ∧ W.cell? ⟨C, 3, none⟩ = some (.int .i64 vc3)) : w1.cell? ⟨A, 0, none⟩ = some (.int .i64 va0) ∧ w1.cell? ⟨A, 1, none⟩ = some (.int .i64 va1) ∧ w1.cell? ⟨A, 2, none⟩ = some (.int .i64 va2) ∧ w1.cell? ⟨A, 3, none⟩ = some (.int .i64 va3) ∧ w1.cell? ⟨B, 0, none⟩ = some (.int .i64 vb0) ∧ w1.cell? ⟨B, 1, none⟩ = some (.int .i64 vb1) ∧ w1.cell? ⟨B, 2, none⟩ = some (.int .i64 vb2) ∧ w1.cell? ⟨B, 3, none⟩ = some (.int .i64 vb3) ∧ w1.cell? ⟨C, 0, none⟩ = some (.int .i64 vc0) ∧ w1.cell? ⟨C, 1, none⟩ = some (.int .i64 vc1) ∧ w1.cell? ⟨C, 2, none⟩ = some (.int .i64 vc2) ∧ w1.cell? ⟨C, 3, none⟩ = some (.int .i64 vc3) ∧ Below W.heap.size W w1 := by
  have e : ∀ b o, b < W.heap.size → w1.cell? ⟨b, o, none⟩ = W.cell? ⟨b, o, none⟩ := fun b o hb => h.cell (p := ⟨b, o, none⟩) hb
  simp only [e A _ hA, e B _ hB, e C _ hC]
  obtain ⟨g0, g1, g2, g3, g4, g5, g6, g7, g8, g9, g10, g11⟩ := hW
  exact ⟨g0, g1, g2, g3, g4, g5, g6, g7, g8, g9, g10, g11, h⟩
theorem more12 {A B C : Nat} {va0 va1 va2 va3 vb0 vb1 vb2 vb3 vc0 vc1 vc2 vc3 : Int} {W wX w1 : World} (k : Below wX.heap.size wX w1) (h : wX.cell? ⟨A, 0, none⟩ = some (.int .i64 va0) ∧ wX.cell? ⟨A, 1, none⟩ = some (.int .i64 va1) ∧ wX.cell? ⟨A, 2, none⟩ = some (.int .i64 va2) ∧ wX.cell? ⟨A, 3, none⟩ = some (.int .i64 va3) ∧ wX.cell? ⟨B, 0, none⟩ = some (.int .i64 vb0) ∧ wX.cell? ⟨B, 1, none⟩ = some (.int .i64 vb1) ∧ wX.cell? ⟨B, 2, none⟩ = some (.int .i64 vb2) ∧ wX.cell? ⟨B, 3, none⟩ = some (.int .i64 vb3) ∧ wX.cell? ⟨C, 0, none⟩ = some (.int .i64 vc0) ∧ wX.cell? ⟨C, 1, none⟩ = some (.int .i64 vc1) ∧ wX.cell? ⟨C, 2, none⟩ = some (.int .i64 vc2) ∧ wX.cell? ⟨C, 3, none⟩ = some (.int .i64 vc3) ∧ Below W.heap.size W wX) : Below W.heap.size W w1 := by
  obtain ⟨g0, g1, g2, g3, g4, g5, g6, g7, g8, g9, g10, g11, h⟩ := h
  exact bstep h k
theorem last12 {A B C : Nat} {va0 va1 va2 va3 vb0 vb1 vb2 vb3 vc0 vc1 vc2 vc3 : Int} {W wX : World} (h : wX.cell? ⟨A, 0, none⟩ = some (.int .i64 va0) ∧ wX.cell? ⟨A, 1, none⟩ = some (.int .i64 va1) ∧ wX.cell? ⟨A, 2, none⟩ = some (.int .i64 va2) ∧ wX.cell? ⟨A, 3, none⟩ = some (.int .i64 va3) ∧ wX.cell? ⟨B, 0, none⟩ = some (.int .i64 vb0) ∧ wX.cell? ⟨B, 1, none⟩ = some (.int .i64 vb1) ∧ wX.cell? ⟨B, 2, none⟩ = some (.int .i64 vb2) ∧ wX.cell? ⟨B, 3, none⟩ = some (.int .i64 vb3) ∧ wX.cell? ⟨C, 0, none⟩ = some (.int .i64 vc0) ∧ wX.cell? ⟨C, 1, none⟩ = some (.int .i64 vc1) ∧ wX.cell? ⟨C, 2, none⟩ = some (.int .i64 vc2) ∧ wX.cell? ⟨C, 3, none⟩ = some (.int .i64 vc3) ∧ Below W.heap.size W wX) : Below W.heap.size W wX := by
  obtain ⟨g0, g1, g2, g3, g4, g5, g6, g7, g8, g9, g10, g11, h⟩ := h
  exact h

end Go.Proofs.Ytipfngliahhhiaa
