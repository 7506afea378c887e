/-
  The reference for rect: Right, Holds, Meets, for every input; the law's own ref and small.
-/
import Derived.Test.YtdpdkjpkehgdnaaRectA
namespace Go.Proofs.Ytdpdkjpkehgdnaa
open Go.RowKit

set_option maxHeartbeats 400000 in
theorem refRight_any (x y m n : Int) (w : World) :
    Calls Try.prog 30 #[.agg #[.int .i64 x, .int .i64 y, .int .i64 m, .int .i64 n]] w fun e w' => e = .returned (.bool (rightB x y m n)) ∧ Below w.heap.size w w' := by
  go_enter Try.func30, Try.ntmps30
  go_wp2
  all_goals go_ret
  all_goals refine ⟨ret_bool (by rw [Bool.eq_iff_iff]; simp [rightB, sideB]; omega), ?_⟩
  repeat' (first | with_reducible assumption | with_reducible refine Below.setCell ?_ ?_ _ | with_reducible refine below_drewN ?_ _ | with_reducible refine Below.drew ?_ | with_reducible refine balloc ?_ _ | with_reducible exact Below.refl _ _ | with_reducible refine bstep ?_ (by assumption) | with_reducible refine Below.alloc ?_ ?_ _ | with_reducible refine bthrough ?_ (by assumption) ?_)
  all_goals (first | omega | (simp; done) | (simp; omega))


def holdsR (x y m n i k : Int) : Bool := rightB x y m n && decide (x ≤ i) && decide (i < x + m) && decide (y ≤ k) && decide (k < y + n)

set_option maxHeartbeats 400000 in
theorem refHolds_any (x y m n i k : Int) (w : World) (hi : i ≤ 9223372036854775807) (hk : k ≤ 9223372036854775807) :
    Calls Try.prog 11 #[.agg #[.int .i64 x, .int .i64 y, .int .i64 m, .int .i64 n], .int .i64 i, .int .i64 k] w fun e w' => e = .returned (.bool (holdsR x y m n i k)) ∧ Below w.heap.size w w' := by
  cases h : rightB x y m n
  ·
    go_enter Try.func11, Try.ntmps11
    go_wp2_with fail
    refine (refRight_any _ _ _ _ _).mono ?_
    rintro e w1 ⟨rfl, hbw1⟩
    obtain ⟨hcw1, hfw1⟩ := bcell hbw1
    have hsw1 := hbw1.size
    try simp at hcw1 hfw1 hsw1
    have lw1_0 : w.heap.size < w1.heap.size := by omega
    go_wp2
    go_ret
    refine ⟨ret_bool (by simp [holdsR, h]), ?_⟩
    repeat' (first | with_reducible assumption | with_reducible refine Below.setCell ?_ ?_ _ | with_reducible refine below_drewN ?_ _ | with_reducible refine Below.drew ?_ | with_reducible refine balloc ?_ _ | with_reducible exact Below.refl _ _ | with_reducible refine bstep ?_ (by assumption) | with_reducible refine Below.alloc ?_ ?_ _ | with_reducible refine bthrough ?_ (by assumption) ?_)
    all_goals (first | omega | (simp; done) | (simp; omega))
  · have h' := h
    simp only [rightB, Bool.and_eq_true] at h'
    obtain ⟨⟨a1, a2, a3, a4⟩, a5, a6, a7, a8⟩ := And.intro (of_sideB h'.1) (of_sideB h'.2)
    clear h'
    go_enter Try.func11, Try.ntmps11
    go_wp2_with fail
    refine (refRight_any _ _ _ _ _).mono ?_
    rintro e w1 ⟨rfl, hbw1⟩
    obtain ⟨hcw1, hfw1⟩ := bcell hbw1
    have hsw1 := hbw1.size
    try simp at hcw1 hfw1 hsw1
    have lw1_0 : w.heap.size < w1.heap.size := by omega
    go_wp2
    all_goals go_ret
    all_goals refine ⟨ret_bool (by rw [Bool.eq_iff_iff]; simp [holdsR, h]; omega), ?_⟩
    repeat' (first | with_reducible assumption | with_reducible refine Below.setCell ?_ ?_ _ | with_reducible refine below_drewN ?_ _ | with_reducible refine Below.drew ?_ | with_reducible refine balloc ?_ _ | with_reducible exact Below.refl _ _ | with_reducible refine bstep ?_ (by assumption) | with_reducible refine Below.alloc ?_ ?_ _ | with_reducible refine bthrough ?_ (by assumption) ?_)
    all_goals (first | omega | (simp; done) | (simp; omega))
end Go.Proofs.Ytdpdkjpkehgdnaa
