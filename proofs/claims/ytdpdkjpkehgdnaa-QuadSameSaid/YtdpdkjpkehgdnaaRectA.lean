/-
  The leaf functions of package rect: what side, Right, ends, between compute, for every input. No condition.
-/
import Derived.Test.YtdpdkjpkehgdnaaBase
namespace Go.Proofs.Ytdpdkjpkehgdnaa
open Go.RowKit

def sideB (at0 n : Int) : Bool := decide (0 ≤ at0) && decide (at0 < 256) && decide (1 ≤ n) && decide (n ≤ 256 - at0)
theorem sideB_of {a n : Int} (h : 0 ≤ a ∧ a < 256 ∧ 1 ≤ n ∧ n ≤ 256 - a) : sideB a n = true := by simp [sideB]; omega
theorem sideB_not {a n : Int} (h : ¬ (0 ≤ a ∧ a < 256 ∧ 1 ≤ n ∧ n ≤ 256 - a)) : sideB a n = false := by simp [sideB]; omega
theorem of_sideB {a n : Int} (h : sideB a n = true) : 0 ≤ a ∧ a < 256 ∧ 1 ≤ n ∧ n ≤ 256 - a := by simp [sideB] at h; omega

def rightB (x y w h : Int) : Bool := sideB x w && sideB y h

set_option maxHeartbeats 400000 in
theorem side_any (a n : Int) (w : World) :
    Calls Try.prog 49 #[.int .i64 a, .int .i64 n] w fun e w' => e = .returned (.bool (sideB a n)) ∧ w = w' := by
  go_enter Try.func49, Try.ntmps49
  go_wp2
  all_goals go_ret
  all_goals (refine ⟨ret_bool ?_, rfl⟩)
  all_goals (simp [sideB]; try omega)

set_option maxHeartbeats 400000 in
theorem right_any (x y m n : Int) (w : World) :
    Calls Try.prog 45 #[.agg #[.int .i64 x, .int .i64 y, .int .i64 m, .int .i64 n]] w fun e w' => e = .returned (.bool (rightB x y m n)) ∧ Below w.heap.size w w' := by
  go_enter Try.func45, Try.ntmps45
  go_wp2_with (go_at_call 49; refine (side_any _ _ _).mono ?_; rintro e w' ⟨rfl, rfl⟩)
  all_goals go_ret
  all_goals (refine ⟨ret_bool ?_, (Below.refl _ _).alloc (Nat.le_refl _) _⟩)
  all_goals (simp [rightB, *])

set_option maxHeartbeats 400000 in
theorem ends_any (x y m n : Int) (w : World) (hx : 0 ≤ x ∧ x ≤ 256) (hy : 0 ≤ y ∧ y ≤ 256) (hm : 0 ≤ m ∧ m ≤ 256) (hn : 0 ≤ n ∧ n ≤ 256) :
    Calls Try.prog 50 #[.agg #[.int .i64 x, .int .i64 y, .int .i64 m, .int .i64 n]] w fun e w' => e = .returned (.tuple #[.int .i64 (x + m), .int .i64 (y + n)]) ∧ Below w.heap.size w w' := by
  obtain ⟨hx1, hx2⟩ := hx
  obtain ⟨hy1, hy2⟩ := hy
  obtain ⟨hm1, hm2⟩ := hm
  obtain ⟨hn1, hn2⟩ := hn
  go_enter Try.func50, Try.ntmps50
  go_wp2
  go_quiet (fail)
  go_wp2
  go_ret2
  exact ⟨rfl, below_drewN ((Below.refl _ _).alloc (Nat.le_refl _) _) _⟩


set_option maxHeartbeats 400000 in
theorem between_yes (x y u v : Int) (w : World) (hx : 0 ≤ x) (hy : 0 ≤ y) (hu : u ≤ 256) (hv : v ≤ 256) (h1 : x < u) (h2 : y < v) :
    Calls Try.prog 51 #[.int .i64 x, .int .i64 y, .int .i64 u, .int .i64 v] w fun e w' => e = .returned (.agg #[.int .i64 x, .int .i64 y, .int .i64 (u - x), .int .i64 (v - y)]) ∧ Below w.heap.size w w' := by
  go_enter Try.func51, Try.ntmps51
  go_wp2
  exact bodyPost_ret (v := .agg #[.int .i64 x, .int .i64 y, .int .i64 (u - x), .int .i64 (v - y)]) (by simp [results, Try.results51, go_sem]) rfl ⟨rfl, (Below.refl _ _).alloc (Nat.le_refl _) _⟩

set_option maxHeartbeats 400000 in
theorem between_no (x y u v : Int) (w : World) (h : u ≤ x ∨ v ≤ y) :
    Calls Try.prog 51 #[.int .i64 x, .int .i64 y, .int .i64 u, .int .i64 v] w fun e w' => e = .returned (.agg #[.int .i64 0, .int .i64 0, .int .i64 0, .int .i64 0]) ∧ Below w.heap.size w w' := by
  by_cases h1 : u ≤ x
  · go_enter Try.func51, Try.ntmps51
    go_wp2
    exact bodyPost_ret (v := .agg #[.int .i64 0, .int .i64 0, .int .i64 0, .int .i64 0]) (by simp [results, Try.results51, go_sem]) rfl ⟨rfl, (Below.refl _ _).alloc (Nat.le_refl _) _⟩
  · have h2 : v ≤ y := by omega
    clear h
    go_enter Try.func51, Try.ntmps51
    go_wp2
    exact bodyPost_ret (v := .agg #[.int .i64 0, .int .i64 0, .int .i64 0, .int .i64 0]) (by simp [results, Try.results51, go_sem]) rfl ⟨rfl, (Below.refl _ _).alloc (Nat.le_refl _) _⟩

end Go.Proofs.Ytdpdkjpkehgdnaa
