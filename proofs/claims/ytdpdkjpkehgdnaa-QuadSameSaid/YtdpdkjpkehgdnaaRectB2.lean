/-
  Package rect: Common where there is nothing in common, Meets, In, Holds, Area, for every input.
-/
import Derived.Test.YtdpdkjpkehgdnaaRectB
namespace Go.Proofs.Ytdpdkjpkehgdnaa
open Go.RowKit

set_option maxHeartbeats 400000 in
theorem common_not1 (x y m n x' y' m' n' : Int) (w : World) (h1 : rightB x y m n = false) :
    Calls Try.prog 46 #[.agg #[.int .i64 x, .int .i64 y, .int .i64 m, .int .i64 n], .agg #[.int .i64 x', .int .i64 y', .int .i64 m', .int .i64 n']] w fun e w' =>
      e = .returned (.tuple #[.agg #[.int .i64 0, .int .i64 0, .int .i64 0, .int .i64 0], .bool false]) ∧ Below w.heap.size w w' := by
  go_enter Try.func46, Try.ntmps46
  go_wp2_with fail
  refine (right_any _ _ _ _ _).mono ?_
  rintro e w1 ⟨rfl, hbw1⟩
  obtain ⟨hcw1, hfw1⟩ := bcell hbw1
  have hsw1 := hbw1.size
  try simp at hcw1 hfw1 hsw1
  have lw1_0 : w.heap.size < w1.heap.size := by omega
  have lw1_1 : w.heap.size + 1 < w1.heap.size := by omega
  have lw1_2 : w.heap.size + 1 + 1 < w1.heap.size := by omega
  go_wp2
  refine bodyPost_ret (v := .tuple #[.agg #[.int .i64 0, .int .i64 0, .int .i64 0, .int .i64 0], .bool false]) (by simp [results, Try.results46, go_sem, *]) rfl ⟨rfl, ?_⟩
  repeat' (first | with_reducible assumption | with_reducible refine Below.setCell ?_ ?_ _ | with_reducible refine below_drewN ?_ _ | with_reducible refine Below.drew ?_ | with_reducible refine balloc ?_ _ | with_reducible exact Below.refl _ _ | with_reducible refine bstep ?_ (by assumption) | with_reducible refine Below.alloc ?_ ?_ _ | with_reducible refine bthrough ?_ (by assumption) ?_)
  all_goals (first | omega | (simp; done) | (simp; omega))

set_option maxHeartbeats 400000 in
theorem common_not2 (x y m n x' y' m' n' : Int) (w : World) (h1 : rightB x y m n = true) (h2 : rightB x' y' m' n' = false) :
    Calls Try.prog 46 #[.agg #[.int .i64 x, .int .i64 y, .int .i64 m, .int .i64 n], .agg #[.int .i64 x', .int .i64 y', .int .i64 m', .int .i64 n']] w fun e w' =>
      e = .returned (.tuple #[.agg #[.int .i64 0, .int .i64 0, .int .i64 0, .int .i64 0], .bool false]) ∧ Below w.heap.size w w' := by
  go_enter Try.func46, Try.ntmps46
  go_wp2_with fail
  refine (right_any _ _ _ _ _).mono ?_
  rintro e w1 ⟨rfl, hbw1⟩
  obtain ⟨hcw1, hfw1⟩ := bcell hbw1
  have hsw1 := hbw1.size
  try simp at hcw1 hfw1 hsw1
  have lw1_0 : w.heap.size < w1.heap.size := by omega
  have lw1_1 : w.heap.size + 1 < w1.heap.size := by omega
  have lw1_2 : w.heap.size + 1 + 1 < w1.heap.size := by omega
  go_wp2_with fail
  refine (right_any _ _ _ _ _).mono ?_
  rintro e w2 ⟨rfl, hbw2⟩
  obtain ⟨hcw2, hfw2⟩ := bcell hbw2
  have hsw2 := hbw2.size
  try simp at hcw2 hfw2 hsw2
  have lw2_0 : w.heap.size < w2.heap.size := by omega
  have lw2_1 : w.heap.size + 1 < w2.heap.size := by omega
  have lw2_2 : w.heap.size + 1 + 1 < w2.heap.size := by omega
  go_wp2
  refine bodyPost_ret (v := .tuple #[.agg #[.int .i64 0, .int .i64 0, .int .i64 0, .int .i64 0], .bool false]) (by simp [results, Try.results46, go_sem, *]) rfl ⟨rfl, ?_⟩
  repeat' (first | with_reducible assumption | with_reducible refine Below.setCell ?_ ?_ _ | with_reducible refine below_drewN ?_ _ | with_reducible refine Below.drew ?_ | with_reducible refine balloc ?_ _ | with_reducible exact Below.refl _ _ | with_reducible refine bstep ?_ (by assumption) | with_reducible refine Below.alloc ?_ ?_ _ | with_reducible refine bthrough ?_ (by assumption) ?_)
  all_goals (first | omega | (simp; done) | (simp; omega))

set_option maxHeartbeats 800000 in
theorem common_not3 (x y m n x' y' m' n' : Int) (w : World) (h1 : rightB x y m n = true) (h2 : rightB x' y' m' n' = true) (h3 : ¬ (max x x' < min (x + m) (x' + m') ∧ max y y' < min (y + n) (y' + n'))) :
    Calls Try.prog 46 #[.agg #[.int .i64 x, .int .i64 y, .int .i64 m, .int .i64 n], .agg #[.int .i64 x', .int .i64 y', .int .i64 m', .int .i64 n']] w fun e w' =>
      e = .returned (.tuple #[.agg #[.int .i64 0, .int .i64 0, .int .i64 0, .int .i64 0], .bool false]) ∧ Below w.heap.size w w' := by
  obtain ⟨⟨a1, a2, a3, a4⟩, a5, a6, a7, a8⟩ := of_rightB h1
  obtain ⟨⟨b1, b2, b3, b4⟩, b5, b6, b7, b8⟩ := of_rightB h2
  have H3 := hid h3
  clear h3
  go_enter Try.func46, Try.ntmps46
  go_wp2_with fail
  refine (right_any _ _ _ _ _).mono ?_
  rintro e w1 ⟨rfl, hbw1⟩
  obtain ⟨hcw1, hfw1⟩ := bcell hbw1
  have hsw1 := hbw1.size
  try simp at hcw1 hfw1 hsw1
  have lw1_0 : w.heap.size < w1.heap.size := by omega
  have lw1_1 : w.heap.size + 1 < w1.heap.size := by omega
  have lw1_2 : w.heap.size + 1 + 1 < w1.heap.size := by omega
  go_wp2_with fail
  refine (right_any _ _ _ _ _).mono ?_
  rintro e w2 ⟨rfl, hbw2⟩
  obtain ⟨hcw2, hfw2⟩ := bcell hbw2
  have hsw2 := hbw2.size
  try simp at hcw2 hfw2 hsw2
  have lw2_0 : w.heap.size < w2.heap.size := by omega
  have lw2_1 : w.heap.size + 1 < w2.heap.size := by omega
  have lw2_2 : w.heap.size + 1 + 1 < w2.heap.size := by omega
  go_wp2_with fail
  refine (ends_any _ _ _ _ _ (by omega) (by omega) (by omega) (by omega)).mono ?_
  rintro e w3 ⟨rfl, hbw3⟩
  obtain ⟨hcw3, hfw3⟩ := bcell hbw3
  have hsw3 := hbw3.size
  try simp at hcw3 hfw3 hsw3
  have lw3_0 : w.heap.size < w3.heap.size := by omega
  have lw3_1 : w.heap.size + 1 < w3.heap.size := by omega
  have lw3_2 : w.heap.size + 1 + 1 < w3.heap.size := by omega
  go_wp2_with fail
  refine (ends_any _ _ _ _ _ (by omega) (by omega) (by omega) (by omega)).mono ?_
  rintro e w4 ⟨rfl, hbw4⟩
  obtain ⟨hcw4, hfw4⟩ := bcell hbw4
  have hsw4 := hbw4.size
  try simp at hcw4 hfw4 hsw4
  have lw4_0 : w.heap.size < w4.heap.size := by omega
  have lw4_1 : w.heap.size + 1 < w4.heap.size := by omega
  have lw4_2 : w.heap.size + 1 + 1 < w4.heap.size := by omega
  go_upto_region 5 with fail
  go_cut [10] (fun s10 wx => ∃ (g : Nat), s10 = .pointer (some ⟨g, 0, none⟩) ∧ w.heap.size + 2 < g ∧ g < wx.heap.size ∧ wx.cell? ⟨g, 0, none⟩ = some (.int .i64 0) ∧ wx.cell? ⟨g, 1, none⟩ = some (.int .i64 0) ∧ wx.cell? ⟨g, 2, none⟩ = some (.int .i64 0) ∧ wx.cell? ⟨g, 3, none⟩ = some (.int .i64 0) ∧ Below w4.heap.size w4 wx)
  case first =>
    go_wp2_with fail
    all_goals refine (between_no _ _ _ _ _ (by have := H3.out; omega)).mono ?_
    all_goals rintro e w5 ⟨rfl, hb5⟩
    all_goals go_wp2_with fail
    all_goals go_meet
    all_goals have hs5 := hb5.size
    all_goals refine ⟨_, rfl, by omega, by simp, by rw [World.cell?_alloc_new]; rfl, by rw [World.cell?_alloc_new]; rfl, by rw [World.cell?_alloc_new]; rfl, by rw [World.cell?_alloc_new]; rfl, hb5.alloc (by omega) _⟩
  case rest =>
    obtain ⟨g, rfl, hg1, hg2, hc0, hc1, hc2, hc3, hbw5⟩ := hcut
    obtain ⟨hcw5, hfw5⟩ := bcell hbw5
    have hsw5 := hbw5.size
    have : w.heap.size < wc.heap.size := by omega
    have : w.heap.size + 1 < wc.heap.size := by omega
    have : w.heap.size + 1 + 1 < wc.heap.size := by omega
    go_wp2_with fail
    go_region
    go_wp2
    refine bodyPost_ret (v := .tuple #[.agg #[.int .i64 0, .int .i64 0, .int .i64 0, .int .i64 0], .bool false]) (by simp [results, Try.results46, go_sem, *]) rfl ⟨rfl, ?_⟩
    repeat' (first | with_reducible assumption | with_reducible refine Below.setCell ?_ ?_ _ | with_reducible refine below_drewN ?_ _ | with_reducible refine Below.drew ?_ | with_reducible refine balloc ?_ _ | with_reducible exact Below.refl _ _ | with_reducible refine bstep ?_ (by assumption) | with_reducible refine Below.alloc ?_ ?_ _ | with_reducible refine bthrough ?_ (by assumption) ?_)
    all_goals (first | omega | (simp; done) | (simp; omega))

def meetB (x y m n x' y' m' n' : Int) : Bool := rightB x y m n && rightB x' y' m' n' && decide (max x x' < min (x + m) (x' + m')) && decide (max y y' < min (y + n) (y' + n'))

theorem of_meetB {x y m n x' y' m' n' : Int} (h : meetB x y m n x' y' m' n' = true) : rightB x y m n = true ∧ rightB x' y' m' n' = true ∧ max x x' < min (x + m) (x' + m') ∧ max y y' < min (y + n) (y' + n') := by
  simp only [meetB, Bool.and_eq_true, decide_eq_true_eq] at h
  exact ⟨h.1.1.1, h.1.1.2, h.1.2, h.2⟩

theorem common_has (x y m n x' y' m' n' : Int) (w : World) (h : meetB x y m n x' y' m' n' = true) :
    Calls Try.prog 46 #[.agg #[.int .i64 x, .int .i64 y, .int .i64 m, .int .i64 n], .agg #[.int .i64 x', .int .i64 y', .int .i64 m', .int .i64 n']] w fun e w' =>
      e = .returned (.tuple #[.agg #[.int .i64 (max x x'), .int .i64 (max y y'), .int .i64 (min (x + m) (x' + m') - max x x'), .int .i64 (min (y + n) (y' + n') - max y y')], .bool true]) ∧ Below w.heap.size w w' := by
  obtain ⟨h1, h2, h3, h4⟩ := of_meetB h
  exact common_yes x y m n x' y' m' n' w h1 h2 h3 h4

theorem common_none (x y m n x' y' m' n' : Int) (w : World) (h : meetB x y m n x' y' m' n' = false) :
    Calls Try.prog 46 #[.agg #[.int .i64 x, .int .i64 y, .int .i64 m, .int .i64 n], .agg #[.int .i64 x', .int .i64 y', .int .i64 m', .int .i64 n']] w fun e w' =>
      e = .returned (.tuple #[.agg #[.int .i64 0, .int .i64 0, .int .i64 0, .int .i64 0], .bool false]) ∧ Below w.heap.size w w' := by
  cases h1 : rightB x y m n
  · exact common_not1 x y m n x' y' m' n' w h1
  · cases h2 : rightB x' y' m' n'
    · exact common_not2 x y m n x' y' m' n' w h1 h2
    · refine common_not3 x y m n x' y' m' n' w h1 h2 ?_
      intro h3
      simp [meetB, h1, h2] at h
      omega

theorem meets_any (x y m n x' y' m' n' : Int) (w : World) :
    Calls Try.prog 47 #[.agg #[.int .i64 x, .int .i64 y, .int .i64 m, .int .i64 n], .agg #[.int .i64 x', .int .i64 y', .int .i64 m', .int .i64 n']] w fun e w' =>
      e = .returned (.bool (meetB x y m n x' y' m' n')) ∧ Below w.heap.size w w' := by
  cases h : meetB x y m n x' y' m' n'
  ·
    go_enter Try.func47, Try.ntmps47
    go_wp2_with fail
    refine (common_none _ _ _ _ _ _ _ _ _ h).mono ?_
    rintro e w1 ⟨rfl, hbw1⟩
    obtain ⟨hcw1, hfw1⟩ := bcell hbw1
    have hsw1 := hbw1.size
    try simp at hcw1 hfw1 hsw1
    have lw1_0 : w.heap.size < w1.heap.size := by omega
    have lw1_1 : w.heap.size + 1 < w1.heap.size := by omega
    go_wp2
    go_ret
    refine ⟨rfl, ?_⟩
    repeat' (first | with_reducible assumption | with_reducible refine Below.setCell ?_ ?_ _ | with_reducible refine below_drewN ?_ _ | with_reducible refine Below.drew ?_ | with_reducible refine balloc ?_ _ | with_reducible exact Below.refl _ _ | with_reducible refine bstep ?_ (by assumption) | with_reducible refine Below.alloc ?_ ?_ _ | with_reducible refine bthrough ?_ (by assumption) ?_)
    all_goals (first | omega | (simp; done) | (simp; omega))
  ·
    go_enter Try.func47, Try.ntmps47
    go_wp2_with fail
    refine (common_has _ _ _ _ _ _ _ _ _ h).mono ?_
    rintro e w1 ⟨rfl, hbw1⟩
    obtain ⟨hcw1, hfw1⟩ := bcell hbw1
    have hsw1 := hbw1.size
    try simp at hcw1 hfw1 hsw1
    have lw1_0 : w.heap.size < w1.heap.size := by omega
    have lw1_1 : w.heap.size + 1 < w1.heap.size := by omega
    go_wp2
    go_ret
    refine ⟨rfl, ?_⟩
    repeat' (first | with_reducible assumption | with_reducible refine Below.setCell ?_ ?_ _ | with_reducible refine below_drewN ?_ _ | with_reducible refine Below.drew ?_ | with_reducible refine balloc ?_ _ | with_reducible exact Below.refl _ _ | with_reducible refine bstep ?_ (by assumption) | with_reducible refine Below.alloc ?_ ?_ _ | with_reducible refine bthrough ?_ (by assumption) ?_)
    all_goals (first | omega | (simp; done) | (simp; omega))

end Go.Proofs.Ytdpdkjpkehgdnaa
