/-
  The walk of the statement RectMeets: it returns true, for every two rectangles.
-/
import Derived.Test.YtipfngliahhhiaaRectK
namespace Go.Proofs.Ytipfngliahhhiaa
open Go.RowKit

set_option maxRecDepth 100000 in
set_option maxHeartbeats 1000000 in
theorem lawMeets_no (x y m n x' y' m' n' : Int) (w : World) (h : meetB x y m n x' y' m' n' = false) :
    Calls Try.prog 4 #[.agg #[.int .i64 x, .int .i64 y, .int .i64 m, .int .i64 n], .agg #[.int .i64 x', .int .i64 y', .int .i64 m', .int .i64 n']] w fun e w' => e = .returned (.bool true) ∧ Below w.heap.size w w' := by
  have hin := inB_none h
  go_enter Try.func4, Try.ntmps4
  go_wp2_with fail
  go_region_held3 (fun w' => w'.cell? ⟨w.heap.size, 0, none⟩ = some (.int .i64 x) ∧ w'.cell? ⟨w.heap.size, 1, none⟩ = some (.int .i64 y) ∧ w'.cell? ⟨w.heap.size, 2, none⟩ = some (.int .i64 m) ∧ w'.cell? ⟨w.heap.size, 3, none⟩ = some (.int .i64 n) ∧ w'.cell? ⟨w.heap.size + 1, 0, none⟩ = some (.int .i64 x') ∧ w'.cell? ⟨w.heap.size + 1, 1, none⟩ = some (.int .i64 y') ∧ w'.cell? ⟨w.heap.size + 1, 2, none⟩ = some (.int .i64 m') ∧ w'.cell? ⟨w.heap.size + 1, 3, none⟩ = some (.int .i64 n') ∧ Below (w.heap.size + 2) ((w.alloc (.cells #[.int .i64 x, .int .i64 y, .int .i64 m, .int .i64 n] 23)).alloc (.cells #[.int .i64 x', .int .i64 y', .int .i64 m', .int .i64 n'] 23)) w') (first | exact gr_cells _ _ _ _ _ _ _ _ _ _ (Below.refl _ _) | exact gr_cells _ _ _ _ _ _ _ _ _ _ (Below.refl _ _).drew | exact gr_cells _ _ _ _ _ _ _ _ _ _ (gr_more (by assumption) (by assumption)))
    (first
      | (go_at_call 9; refine (ref_any _ _ _ _ _).mono ?_; rintro e w1 ⟨rfl, hb1⟩)
      | (go_at_call 11; refine (refMeets_any _ _ _ _ _ _ _ _ _).mono ?_; rintro e w3 ⟨rfl, hb3⟩))
  have hBB : Below (w.heap.size + 2) ((w.alloc (.cells #[.int .i64 x, .int .i64 y, .int .i64 m, .int .i64 n] 23)).alloc (.cells #[.int .i64 x', .int .i64 y', .int .i64 m', .int .i64 n'] 23)) w3 := gr_last (by assumption)
  have hsw3 : w.heap.size + 2 ≤ w3.heap.size := by have := hBB.size; simp at this; omega
  have lw3_0 : w.heap.size < w3.heap.size := by omega
  have lw3_1 : w.heap.size + 1 < w3.heap.size := by omega
  have hbw3 : Below w.heap.size w w3 := (balloc (balloc (Below.refl _ _) _) _).trans (hBB.mono (by omega))
  go_wp2_with fail
  refine (common_none _ _ _ _ _ _ _ _ _ h).mono ?_
  rintro e w4 ⟨rfl, hbw4⟩
  obtain ⟨hcw4, hfw4⟩ := bcell hbw4
  have hsw4 := hbw4.size
  try simp at hcw4 hfw4 hsw4
  have lw4_0 : w.heap.size < w4.heap.size := by omega
  have lw4_1 : w.heap.size + 1 < w4.heap.size := by omega
  go_wp2_with fail
  refine (common_none2 _ _ _ _ _ _ _ _ _ h).mono ?_
  rintro e w5 ⟨rfl, hbw5⟩
  obtain ⟨hcw5, hfw5⟩ := bcell hbw5
  have hsw5 := hbw5.size
  try simp at hcw5 hfw5 hsw5
  have lw5_0 : w.heap.size < w5.heap.size := by omega
  have lw5_1 : w.heap.size + 1 < w5.heap.size := by omega
  have lw5_2 : w4.heap.size < w5.heap.size := by omega
  go_wp2_with fail
  refine (meets_any _ _ _ _ _ _ _ _ _).mono ?_
  rintro e w6 ⟨rfl, hbw6⟩
  obtain ⟨hcw6, hfw6⟩ := bcell hbw6
  have hsw6 := hbw6.size
  try simp at hcw6 hfw6 hsw6
  have lw6_0 : w.heap.size < w6.heap.size := by omega
  have lw6_1 : w.heap.size + 1 < w6.heap.size := by omega
  have lw6_2 : w4.heap.size < w6.heap.size := by omega
  have lw6_3 : w5.heap.size < w6.heap.size := by omega
  rw [h]
  go_wp2_with fail
  refine (meets_two _ _ _ _ _ _ _ _ _).mono ?_
  rintro e w7 ⟨rfl, hbw7⟩
  obtain ⟨hcw7, hfw7⟩ := bcell hbw7
  have hsw7 := hbw7.size
  try simp at hcw7 hfw7 hsw7
  have lw7_0 : w.heap.size < w7.heap.size := by omega
  have lw7_1 : w.heap.size + 1 < w7.heap.size := by omega
  have lw7_2 : w4.heap.size < w7.heap.size := by omega
  have lw7_3 : w5.heap.size < w7.heap.size := by omega
  rw [h]
  go_wp2_with fail
  refine (in_any _ _ _ _ _ _ _ _ _).mono ?_
  rintro e w8 ⟨rfl, hbw8⟩
  obtain ⟨hcw8, hfw8⟩ := bcell hbw8
  have hsw8 := hbw8.size
  try simp at hcw8 hfw8 hsw8
  have lw8_0 : w.heap.size < w8.heap.size := by omega
  have lw8_1 : w.heap.size + 1 < w8.heap.size := by omega
  have lw8_2 : w4.heap.size < w8.heap.size := by omega
  have lw8_3 : w5.heap.size < w8.heap.size := by omega
  rw [hin]
  go_wp2_with fail
  refine (awake_any _).mono ?_
  rintro e w9 ⟨rfl, hbw9⟩
  obtain ⟨hcw9, hfw9⟩ := bcell hbw9
  have hsw9 := hbw9.size
  try simp at hcw9 hfw9 hsw9
  have lw9_0 : w.heap.size < w9.heap.size := by omega
  have lw9_1 : w.heap.size + 1 < w9.heap.size := by omega
  have lw9_2 : w4.heap.size < w9.heap.size := by omega
  have lw9_3 : w5.heap.size < w9.heap.size := by omega
  go_wp2
  go_ret
  refine ⟨rfl, ?_⟩
  repeat' (first | with_reducible assumption | with_reducible refine Below.setCell ?_ ?_ _ | with_reducible refine below_drewN ?_ _ | with_reducible refine Below.drew ?_ | with_reducible refine balloc ?_ _ | with_reducible exact Below.refl _ _ | with_reducible refine bstep ?_ (by assumption) | with_reducible refine Below.alloc ?_ ?_ _ | with_reducible refine bthrough ?_ (by assumption) ?_)
  all_goals (first | omega | (simp; done) | (simp; omega))

set_option maxRecDepth 100000 in
set_option maxHeartbeats 4000000 in
theorem lawMeets_yes (x y m n x' y' m' n' : Int) (w : World) (h : meetB x y m n x' y' m' n' = true) :
    Calls Try.prog 4 #[.agg #[.int .i64 x, .int .i64 y, .int .i64 m, .int .i64 n], .agg #[.int .i64 x', .int .i64 y', .int .i64 m', .int .i64 n']] w fun e w' => e = .returned (.bool true) ∧ Below w.heap.size w w' := by
  obtain ⟨cx, cy, cw, ch, hc⟩ : ∃ cx cy cw ch, isCommon x y m n x' y' m' n' cx cy cw ch := ⟨_, _, _, _, rfl, rfl, rfl, rfl⟩
  obtain ⟨⟨a1, a2, a3, a4⟩, a5, a6, a7, a8⟩ := common_bd x y m n x' y' m' n' h hc
  have HC := hid hc
  clear hc
  go_enter Try.func4, Try.ntmps4
  go_wp2_with fail
  go_region_held3 (fun w' => w'.cell? ⟨w.heap.size, 0, none⟩ = some (.int .i64 x) ∧ w'.cell? ⟨w.heap.size, 1, none⟩ = some (.int .i64 y) ∧ w'.cell? ⟨w.heap.size, 2, none⟩ = some (.int .i64 m) ∧ w'.cell? ⟨w.heap.size, 3, none⟩ = some (.int .i64 n) ∧ w'.cell? ⟨w.heap.size + 1, 0, none⟩ = some (.int .i64 x') ∧ w'.cell? ⟨w.heap.size + 1, 1, none⟩ = some (.int .i64 y') ∧ w'.cell? ⟨w.heap.size + 1, 2, none⟩ = some (.int .i64 m') ∧ w'.cell? ⟨w.heap.size + 1, 3, none⟩ = some (.int .i64 n') ∧ Below (w.heap.size + 2) ((w.alloc (.cells #[.int .i64 x, .int .i64 y, .int .i64 m, .int .i64 n] 23)).alloc (.cells #[.int .i64 x', .int .i64 y', .int .i64 m', .int .i64 n'] 23)) w') (first | exact gr_cells _ _ _ _ _ _ _ _ _ _ (Below.refl _ _) | exact gr_cells _ _ _ _ _ _ _ _ _ _ (Below.refl _ _).drew | exact gr_cells _ _ _ _ _ _ _ _ _ _ (gr_more (by assumption) (by assumption)))
    (first
      | (go_at_call 9; refine (ref_any _ _ _ _ _).mono ?_; rintro e w1 ⟨rfl, hb1⟩)
      | (go_at_call 11; refine (refMeets_any _ _ _ _ _ _ _ _ _).mono ?_; rintro e w3 ⟨rfl, hb3⟩))
  have hBB : Below (w.heap.size + 2) ((w.alloc (.cells #[.int .i64 x, .int .i64 y, .int .i64 m, .int .i64 n] 23)).alloc (.cells #[.int .i64 x', .int .i64 y', .int .i64 m', .int .i64 n'] 23)) w3 := gr_last (by assumption)
  have hsw3 : w.heap.size + 2 ≤ w3.heap.size := by have := hBB.size; simp at this; omega
  have lw3_0 : w.heap.size < w3.heap.size := by omega
  have lw3_1 : w.heap.size + 1 < w3.heap.size := by omega
  have hbw3 : Below w.heap.size w w3 := (balloc (balloc (Below.refl _ _) _) _).trans (hBB.mono (by omega))
  go_wp2_with fail
  refine (common_as _ _ _ _ _ _ _ _ cx cy cw ch _ h HC.out).mono ?_
  rintro e w4 ⟨rfl, hbw4⟩
  obtain ⟨hcw4, hfw4⟩ := bcell hbw4
  have hsw4 := hbw4.size
  try simp at hcw4 hfw4 hsw4
  have lw4_0 : w.heap.size < w4.heap.size := by omega
  have lw4_1 : w.heap.size + 1 < w4.heap.size := by omega
  go_wp2_with fail
  refine (common_as2 _ _ _ _ _ _ _ _ cx cy cw ch _ h HC.out).mono ?_
  rintro e w5 ⟨rfl, hbw5⟩
  obtain ⟨hcw5, hfw5⟩ := bcell hbw5
  have hsw5 := hbw5.size
  try simp at hcw5 hfw5 hsw5
  have lw5_0 : w.heap.size < w5.heap.size := by omega
  have lw5_1 : w.heap.size + 1 < w5.heap.size := by omega
  have lw5_2 : w4.heap.size < w5.heap.size := by omega
  go_wp2_with fail
  refine (meets_any _ _ _ _ _ _ _ _ _).mono ?_
  rintro e w6 ⟨rfl, hbw6⟩
  obtain ⟨hcw6, hfw6⟩ := bcell hbw6
  have hsw6 := hbw6.size
  try simp at hcw6 hfw6 hsw6
  have lw6_0 : w.heap.size < w6.heap.size := by omega
  have lw6_1 : w.heap.size + 1 < w6.heap.size := by omega
  have lw6_2 : w4.heap.size < w6.heap.size := by omega
  have lw6_3 : w5.heap.size < w6.heap.size := by omega
  rw [h]
  go_wp2_with fail
  refine (meets_two _ _ _ _ _ _ _ _ _).mono ?_
  rintro e w7 ⟨rfl, hbw7⟩
  obtain ⟨hcw7, hfw7⟩ := bcell hbw7
  have hsw7 := hbw7.size
  try simp at hcw7 hfw7 hsw7
  have lw7_0 : w.heap.size < w7.heap.size := by omega
  have lw7_1 : w.heap.size + 1 < w7.heap.size := by omega
  have lw7_2 : w4.heap.size < w7.heap.size := by omega
  have lw7_3 : w5.heap.size < w7.heap.size := by omega
  rw [h]
  go_wp2_with fail
  have S8 : (w7.alloc (.cells #[.int .i64 cx, .int .i64 (cx + cw - 1)] 3)).cell? ⟨w.heap.size, 0, none⟩ = some (.int .i64 x) ∧ (w7.alloc (.cells #[.int .i64 cx, .int .i64 (cx + cw - 1)] 3)).cell? ⟨w.heap.size, 1, none⟩ = some (.int .i64 y) ∧ (w7.alloc (.cells #[.int .i64 cx, .int .i64 (cx + cw - 1)] 3)).cell? ⟨w.heap.size, 2, none⟩ = some (.int .i64 m) ∧ (w7.alloc (.cells #[.int .i64 cx, .int .i64 (cx + cw - 1)] 3)).cell? ⟨w.heap.size, 3, none⟩ = some (.int .i64 n) ∧ (w7.alloc (.cells #[.int .i64 cx, .int .i64 (cx + cw - 1)] 3)).cell? ⟨w.heap.size + 1, 0, none⟩ = some (.int .i64 x') ∧ (w7.alloc (.cells #[.int .i64 cx, .int .i64 (cx + cw - 1)] 3)).cell? ⟨w.heap.size + 1, 1, none⟩ = some (.int .i64 y') ∧ (w7.alloc (.cells #[.int .i64 cx, .int .i64 (cx + cw - 1)] 3)).cell? ⟨w.heap.size + 1, 2, none⟩ = some (.int .i64 m') ∧ (w7.alloc (.cells #[.int .i64 cx, .int .i64 (cx + cw - 1)] 3)).cell? ⟨w.heap.size + 1, 3, none⟩ = some (.int .i64 n') ∧ (w7.alloc (.cells #[.int .i64 cx, .int .i64 (cx + cw - 1)] 3)).cell? ⟨w4.heap.size, 0, none⟩ = some (.int .i64 cx) ∧ (w7.alloc (.cells #[.int .i64 cx, .int .i64 (cx + cw - 1)] 3)).cell? ⟨w4.heap.size, 1, none⟩ = some (.int .i64 cy) ∧ (w7.alloc (.cells #[.int .i64 cx, .int .i64 (cx + cw - 1)] 3)).cell? ⟨w4.heap.size, 2, none⟩ = some (.int .i64 cw) ∧ (w7.alloc (.cells #[.int .i64 cx, .int .i64 (cx + cw - 1)] 3)).cell? ⟨w4.heap.size, 3, none⟩ = some (.int .i64 ch) ∧ (w7.alloc (.cells #[.int .i64 cx, .int .i64 (cx + cw - 1)] 3)).cell? ⟨w7.heap.size, 0, none⟩ = some (.int .i64 cx) ∧ (w7.alloc (.cells #[.int .i64 cx, .int .i64 (cx + cw - 1)] 3)).cell? ⟨w7.heap.size, 1, none⟩ = some (.int .i64 (cx + cw - 1)) := by
    simp [go_sem, *]
  have hb8 : Below w.heap.size w (w7.alloc (.cells #[.int .i64 cx, .int .i64 (cx + cw - 1)] 3)) := by
    repeat' (first | with_reducible assumption | with_reducible refine Below.setCell ?_ ?_ _ | with_reducible refine below_drewN ?_ _ | with_reducible refine Below.drew ?_ | with_reducible refine balloc ?_ _ | with_reducible exact Below.refl _ _ | with_reducible refine bstep ?_ (by assumption) | with_reducible refine Below.alloc ?_ ?_ _ | with_reducible refine bthrough ?_ (by assumption) ?_)
    all_goals (first | omega | (simp; done) | (simp; omega))
  have hs8 : (w7.alloc (.cells #[.int .i64 cx, .int .i64 (cx + cw - 1)] 3)).heap.size = w7.heap.size + 1 := by simp
  generalize w7.alloc (.cells #[.int .i64 cx, .int .i64 (cx + cw - 1)] 3) = W8 at S8 hb8 hs8 ⊢
  have l8_0 : w.heap.size < W8.heap.size := by omega
  have l8_1 : w.heap.size + 1 < W8.heap.size := by omega
  have l8_2 : w4.heap.size < W8.heap.size := by omega
  have l8_3 : w7.heap.size < W8.heap.size := by omega
  clear hcw4 hfw4 hcw5 hfw5 hcw6 hfw6 hcw7 hfw7 hbw4 hbw5 hbw6 hbw7 hs8
  go_loopw [10, 86] (fun s10 s86 wr => ∃ k : Nat, k ≤ 2 ∧ s86 = .int .i64 k ∧ s10 = .bool true ∧ Below W8.heap.size W8 wr) (fun _ s86 _ => 2 - (intOf s86).toNat)
  case atStart => exact ⟨0, by omega, rfl, rfl, Below.refl _ _⟩
  case round =>
    obtain ⟨k, hk, rfl, rfl, hbr⟩ := hrel
    obtain ⟨hcr, hfr⟩ := bcell hbr
    have hsr := hbr.size
    obtain ⟨wo, rfl⟩ : ∃ wo : World, wo = wr := ⟨_, rfl⟩
    have lo_0 : w.heap.size < wo.heap.size := by omega
    have lo_1 : w.heap.size + 1 < wo.heap.size := by omega
    have lo_2 : w4.heap.size < wo.heap.size := by omega
    have lo_3 : w7.heap.size < wo.heap.size := by omega
    rcases (show k = 0 ∨ k = 1 ∨ k = 2 by omega) with rfl | rfl | rfl
    · go_wp2_with fail
      go_loopw [10, 100] (fun s10 s100 wr => ∃ j : Nat, j ≤ 2 ∧ s100 = .int .i64 j ∧ s10 = .bool true ∧ Below (wo.alloc (.cells #[.int .i64 cy, .int .i64 (cy + ch - 1)] 3)).heap.size (wo.alloc (.cells #[.int .i64 cy, .int .i64 (cy + ch - 1)] 3)) wr) (fun _ s100 _ => 2 - (intOf s100).toNat)
      case atStart => exact ⟨0, by omega, rfl, rfl, Below.refl _ _⟩
      case round =>
        obtain ⟨j, hj, rfl, rfl, hbi⟩ := hrel
        obtain ⟨hci, hfi⟩ := bcell hbi
        have hsi := hbi.size
        simp at hci hfi hsi
        have li_0 : w.heap.size < wr.heap.size := by omega
        have li_1 : w.heap.size + 1 < wr.heap.size := by omega
        have li_2 : w4.heap.size < wr.heap.size := by omega
        have li_3 : wo.heap.size < wr.heap.size := by omega
        rcases (show j = 0 ∨ j = 1 ∨ j = 2 by omega) with rfl | rfl | rfl
        · obtain ⟨q1, q2⟩ := common_both x y m n x' y' m' n' (i := cx) (k := cy) h HC.out (by omega) (by omega)
          go_wp2_with fail
          refine (holds_any _ _ _ _ _ _ _).mono ?_
          rintro e wa ⟨rfl, hba⟩
          rw [q1]
          obtain ⟨hca, hfa⟩ := bcell hba
          have hsa := hba.size
          have la_0 : w.heap.size < wa.heap.size := by omega
          have la_1 : w.heap.size + 1 < wa.heap.size := by omega
          have la_2 : w4.heap.size < wa.heap.size := by omega
          have la_3 : wo.heap.size < wa.heap.size := by omega
          go_wp2_with fail
          refine (holds_any _ _ _ _ _ _ _).mono ?_
          rintro e wb ⟨rfl, hbb⟩
          rw [q2]
          go_wp2_with fail
          go_roundw
          case rel => (repeat apply Exists.intro); exact ⟨⟨1, by omega, rfl, rfl, bstep (bstep hbi hba) hbb⟩, rfl⟩
          case measure => simp [intOf]
        · obtain ⟨q1, q2⟩ := common_both x y m n x' y' m' n' (i := cx) (k := cy + ch - 1) h HC.out (by omega) (by omega)
          go_wp2_with fail
          refine (holds_any _ _ _ _ _ _ _).mono ?_
          rintro e wa ⟨rfl, hba⟩
          rw [q1]
          obtain ⟨hca, hfa⟩ := bcell hba
          have hsa := hba.size
          have la_0 : w.heap.size < wa.heap.size := by omega
          have la_1 : w.heap.size + 1 < wa.heap.size := by omega
          have la_2 : w4.heap.size < wa.heap.size := by omega
          have la_3 : wo.heap.size < wa.heap.size := by omega
          go_wp2_with fail
          refine (holds_any _ _ _ _ _ _ _).mono ?_
          rintro e wb ⟨rfl, hbb⟩
          rw [q2]
          go_wp2_with fail
          go_roundw
          case rel => (repeat apply Exists.intro); exact ⟨⟨2, by omega, rfl, rfl, bstep (bstep hbi hba) hbb⟩, rfl⟩
          case measure => simp [intOf]
        · go_wp2_with fail
          go_roundw
          case rel => exact ⟨1, by omega, rfl, rfl, (hbr.alloc hbr.size _).trans (hbi.mono (by simp; omega))⟩
          case measure => simp [intOf]
    · go_wp2_with fail
      go_loopw [10, 100] (fun s10 s100 wr => ∃ j : Nat, j ≤ 2 ∧ s100 = .int .i64 j ∧ s10 = .bool true ∧ Below (wo.alloc (.cells #[.int .i64 cy, .int .i64 (cy + ch - 1)] 3)).heap.size (wo.alloc (.cells #[.int .i64 cy, .int .i64 (cy + ch - 1)] 3)) wr) (fun _ s100 _ => 2 - (intOf s100).toNat)
      case atStart => exact ⟨0, by omega, rfl, rfl, Below.refl _ _⟩
      case round =>
        obtain ⟨j, hj, rfl, rfl, hbi⟩ := hrel
        obtain ⟨hci, hfi⟩ := bcell hbi
        have hsi := hbi.size
        simp at hci hfi hsi
        have li_0 : w.heap.size < wr.heap.size := by omega
        have li_1 : w.heap.size + 1 < wr.heap.size := by omega
        have li_2 : w4.heap.size < wr.heap.size := by omega
        have li_3 : wo.heap.size < wr.heap.size := by omega
        rcases (show j = 0 ∨ j = 1 ∨ j = 2 by omega) with rfl | rfl | rfl
        · obtain ⟨q1, q2⟩ := common_both x y m n x' y' m' n' (i := cx + cw - 1) (k := cy) h HC.out (by omega) (by omega)
          go_wp2_with fail
          refine (holds_any _ _ _ _ _ _ _).mono ?_
          rintro e wa ⟨rfl, hba⟩
          rw [q1]
          obtain ⟨hca, hfa⟩ := bcell hba
          have hsa := hba.size
          have la_0 : w.heap.size < wa.heap.size := by omega
          have la_1 : w.heap.size + 1 < wa.heap.size := by omega
          have la_2 : w4.heap.size < wa.heap.size := by omega
          have la_3 : wo.heap.size < wa.heap.size := by omega
          go_wp2_with fail
          refine (holds_any _ _ _ _ _ _ _).mono ?_
          rintro e wb ⟨rfl, hbb⟩
          rw [q2]
          go_wp2_with fail
          go_roundw
          case rel => (repeat apply Exists.intro); exact ⟨⟨1, by omega, rfl, rfl, bstep (bstep hbi hba) hbb⟩, rfl⟩
          case measure => simp [intOf]
        · obtain ⟨q1, q2⟩ := common_both x y m n x' y' m' n' (i := cx + cw - 1) (k := cy + ch - 1) h HC.out (by omega) (by omega)
          go_wp2_with fail
          refine (holds_any _ _ _ _ _ _ _).mono ?_
          rintro e wa ⟨rfl, hba⟩
          rw [q1]
          obtain ⟨hca, hfa⟩ := bcell hba
          have hsa := hba.size
          have la_0 : w.heap.size < wa.heap.size := by omega
          have la_1 : w.heap.size + 1 < wa.heap.size := by omega
          have la_2 : w4.heap.size < wa.heap.size := by omega
          have la_3 : wo.heap.size < wa.heap.size := by omega
          go_wp2_with fail
          refine (holds_any _ _ _ _ _ _ _).mono ?_
          rintro e wb ⟨rfl, hbb⟩
          rw [q2]
          go_wp2_with fail
          go_roundw
          case rel => (repeat apply Exists.intro); exact ⟨⟨2, by omega, rfl, rfl, bstep (bstep hbi hba) hbb⟩, rfl⟩
          case measure => simp [intOf]
        · go_wp2_with fail
          go_roundw
          case rel => exact ⟨2, by omega, rfl, rfl, (hbr.alloc hbr.size _).trans (hbi.mono (by simp; omega))⟩
          case measure => simp [intOf]
    · go_wp2_with fail
      go_loopw [15, 149] (fun s15 s149 wr => ∃ j : Nat, j ≤ 4 ∧ s149 = .int .i64 j ∧ s15 = .bool false ∧ Below (wo.alloc (.cells #[.int .i64 (cx - 1), .int .i64 cy, .int .i64 (cx + cw), .int .i64 cy, .int .i64 cx, .int .i64 (cy - 1), .int .i64 cx, .int .i64 (cy + ch)] 36)).heap.size (wo.alloc (.cells #[.int .i64 (cx - 1), .int .i64 cy, .int .i64 (cx + cw), .int .i64 cy, .int .i64 cx, .int .i64 (cy - 1), .int .i64 cx, .int .i64 (cy + ch)] 36)) wr) (fun _ s149 _ => 4 - (intOf s149).toNat)
      case atStart => exact ⟨0, by omega, rfl, rfl, Below.refl _ _⟩
      case round =>
        obtain ⟨j, hj, rfl, rfl, hbi⟩ := hrel
        obtain ⟨hci, hfi⟩ := bcell hbi
        have hsi := hbi.size
        simp at hci hfi hsi
        have li_0 : w.heap.size < wr.heap.size := by omega
        have li_1 : w.heap.size + 1 < wr.heap.size := by omega
        have li_2 : w4.heap.size < wr.heap.size := by omega
        have li_3 : wo.heap.size < wr.heap.size := by omega
        rcases (show j = 0 ∨ j = 1 ∨ j = 2 ∨ j = 3 ∨ j = 4 by omega) with rfl | rfl | rfl | rfl | rfl
        · cases q1 : holdsB x y m n (cx - 1) (cy)
          · go_wp2_with fail
            refine (holds_any _ _ _ _ _ _ _).mono ?_
            rintro e wa ⟨rfl, hba⟩
            rw [q1]
            go_wp2_with fail
            go_roundw
            case rel => first | exact ⟨1, by omega, rfl, rfl, bstep (balloc hbi _) hba⟩ | ((repeat apply Exists.intro); exact ⟨⟨1, by omega, rfl, rfl, bstep (balloc hbi _) hba⟩, rfl⟩)
            case measure => simp [intOf]
          · have q2 := common_else x y m n x' y' m' n' (i := cx - 1) (k := cy) h HC.out (by omega) q1
            go_wp2_with fail
            refine (holds_any _ _ _ _ _ _ _).mono ?_
            rintro e wa ⟨rfl, hba⟩
            rw [q1]
            obtain ⟨hca, hfa⟩ := bcell hba
            have hsa := hba.size
            simp at hca hfa hsa
            have la_0 : w.heap.size < wa.heap.size := by omega
            have la_1 : w.heap.size + 1 < wa.heap.size := by omega
            have la_2 : w4.heap.size < wa.heap.size := by omega
            have la_3 : wo.heap.size < wa.heap.size := by omega
            have la_4 : wr.heap.size < wa.heap.size := by omega
            go_wp2_with fail
            refine (holds_any _ _ _ _ _ _ _).mono ?_
            rintro e wb ⟨rfl, hbb⟩
            rw [q2]
            go_wp2_with fail
            go_roundw
            case rel => first | exact ⟨1, by omega, rfl, rfl, bstep (bstep (balloc hbi _) hba) hbb⟩ | ((repeat apply Exists.intro); exact ⟨⟨1, by omega, rfl, rfl, bstep (bstep (balloc hbi _) hba) hbb⟩, rfl⟩)
            case measure => simp [intOf]
        · cases q1 : holdsB x y m n (cx + cw) (cy)
          · go_wp2_with fail
            refine (holds_any _ _ _ _ _ _ _).mono ?_
            rintro e wa ⟨rfl, hba⟩
            rw [q1]
            go_wp2_with fail
            go_roundw
            case rel => first | exact ⟨2, by omega, rfl, rfl, bstep (balloc hbi _) hba⟩ | ((repeat apply Exists.intro); exact ⟨⟨2, by omega, rfl, rfl, bstep (balloc hbi _) hba⟩, rfl⟩)
            case measure => simp [intOf]
          · have q2 := common_else x y m n x' y' m' n' (i := cx + cw) (k := cy) h HC.out (by omega) q1
            go_wp2_with fail
            refine (holds_any _ _ _ _ _ _ _).mono ?_
            rintro e wa ⟨rfl, hba⟩
            rw [q1]
            obtain ⟨hca, hfa⟩ := bcell hba
            have hsa := hba.size
            simp at hca hfa hsa
            have la_0 : w.heap.size < wa.heap.size := by omega
            have la_1 : w.heap.size + 1 < wa.heap.size := by omega
            have la_2 : w4.heap.size < wa.heap.size := by omega
            have la_3 : wo.heap.size < wa.heap.size := by omega
            have la_4 : wr.heap.size < wa.heap.size := by omega
            go_wp2_with fail
            refine (holds_any _ _ _ _ _ _ _).mono ?_
            rintro e wb ⟨rfl, hbb⟩
            rw [q2]
            go_wp2_with fail
            go_roundw
            case rel => first | exact ⟨2, by omega, rfl, rfl, bstep (bstep (balloc hbi _) hba) hbb⟩ | ((repeat apply Exists.intro); exact ⟨⟨2, by omega, rfl, rfl, bstep (bstep (balloc hbi _) hba) hbb⟩, rfl⟩)
            case measure => simp [intOf]
        · cases q1 : holdsB x y m n (cx) (cy - 1)
          · go_wp2_with fail
            refine (holds_any _ _ _ _ _ _ _).mono ?_
            rintro e wa ⟨rfl, hba⟩
            rw [q1]
            go_wp2_with fail
            go_roundw
            case rel => first | exact ⟨3, by omega, rfl, rfl, bstep (balloc hbi _) hba⟩ | ((repeat apply Exists.intro); exact ⟨⟨3, by omega, rfl, rfl, bstep (balloc hbi _) hba⟩, rfl⟩)
            case measure => simp [intOf]
          · have q2 := common_else x y m n x' y' m' n' (i := cx) (k := cy - 1) h HC.out (by omega) q1
            go_wp2_with fail
            refine (holds_any _ _ _ _ _ _ _).mono ?_
            rintro e wa ⟨rfl, hba⟩
            rw [q1]
            obtain ⟨hca, hfa⟩ := bcell hba
            have hsa := hba.size
            simp at hca hfa hsa
            have la_0 : w.heap.size < wa.heap.size := by omega
            have la_1 : w.heap.size + 1 < wa.heap.size := by omega
            have la_2 : w4.heap.size < wa.heap.size := by omega
            have la_3 : wo.heap.size < wa.heap.size := by omega
            have la_4 : wr.heap.size < wa.heap.size := by omega
            go_wp2_with fail
            refine (holds_any _ _ _ _ _ _ _).mono ?_
            rintro e wb ⟨rfl, hbb⟩
            rw [q2]
            go_wp2_with fail
            go_roundw
            case rel => first | exact ⟨3, by omega, rfl, rfl, bstep (bstep (balloc hbi _) hba) hbb⟩ | ((repeat apply Exists.intro); exact ⟨⟨3, by omega, rfl, rfl, bstep (bstep (balloc hbi _) hba) hbb⟩, rfl⟩)
            case measure => simp [intOf]
        · cases q1 : holdsB x y m n (cx) (cy + ch)
          · go_wp2_with fail
            refine (holds_any _ _ _ _ _ _ _).mono ?_
            rintro e wa ⟨rfl, hba⟩
            rw [q1]
            go_wp2_with fail
            go_roundw
            case rel => first | exact ⟨4, by omega, rfl, rfl, bstep (balloc hbi _) hba⟩ | ((repeat apply Exists.intro); exact ⟨⟨4, by omega, rfl, rfl, bstep (balloc hbi _) hba⟩, rfl⟩)
            case measure => simp [intOf]
          · have q2 := common_else x y m n x' y' m' n' (i := cx) (k := cy + ch) h HC.out (by omega) q1
            go_wp2_with fail
            refine (holds_any _ _ _ _ _ _ _).mono ?_
            rintro e wa ⟨rfl, hba⟩
            rw [q1]
            obtain ⟨hca, hfa⟩ := bcell hba
            have hsa := hba.size
            simp at hca hfa hsa
            have la_0 : w.heap.size < wa.heap.size := by omega
            have la_1 : w.heap.size + 1 < wa.heap.size := by omega
            have la_2 : w4.heap.size < wa.heap.size := by omega
            have la_3 : wo.heap.size < wa.heap.size := by omega
            have la_4 : wr.heap.size < wa.heap.size := by omega
            go_wp2_with fail
            refine (holds_any _ _ _ _ _ _ _).mono ?_
            rintro e wb ⟨rfl, hbb⟩
            rw [q2]
            go_wp2_with fail
            go_roundw
            case rel => first | exact ⟨4, by omega, rfl, rfl, bstep (bstep (balloc hbi _) hba) hbb⟩ | ((repeat apply Exists.intro); exact ⟨⟨4, by omega, rfl, rfl, bstep (bstep (balloc hbi _) hba) hbb⟩, rfl⟩)
            case measure => simp [intOf]
        · go_wp2_with fail
          have hS : wr.cell? ⟨w.heap.size, 0, none⟩ = some (.int .i64 x) ∧ wr.cell? ⟨w.heap.size, 1, none⟩ = some (.int .i64 y) ∧ wr.cell? ⟨w.heap.size, 2, none⟩ = some (.int .i64 m) ∧ wr.cell? ⟨w.heap.size, 3, none⟩ = some (.int .i64 n) ∧ wr.cell? ⟨w.heap.size + 1, 0, none⟩ = some (.int .i64 x') ∧ wr.cell? ⟨w.heap.size + 1, 1, none⟩ = some (.int .i64 y') ∧ wr.cell? ⟨w.heap.size + 1, 2, none⟩ = some (.int .i64 m') ∧ wr.cell? ⟨w.heap.size + 1, 3, none⟩ = some (.int .i64 n') ∧ wr.cell? ⟨w4.heap.size, 0, none⟩ = some (.int .i64 cx) ∧ wr.cell? ⟨w4.heap.size, 1, none⟩ = some (.int .i64 cy) ∧ wr.cell? ⟨w4.heap.size, 2, none⟩ = some (.int .i64 cw) ∧ wr.cell? ⟨w4.heap.size, 3, none⟩ = some (.int .i64 ch) := by
            simp [go_sem, hci, hcr, lo_0, lo_1, lo_2, l8_0, l8_1, l8_2, S8]
          have hbz : Below w.heap.size w wr := hb8.trans ((hbr.trans ((Below.refl _ _).alloc hbr.size _ |>.trans (hbi.mono (by simp; omega)))).mono (by omega))
          have hcr1 := common_right x y m n x' y' m' n' h HC.out
          have hin := common_inB x y m n x' y' m' n' h HC.out
          clear hci hfi hcr hfr S8 hb8 hbr hbi
          cases hi : inB x y m n x' y' m' n'
          · have hne : ¬ (cx = x ∧ cy = y ∧ cw = m ∧ ch = n) := fun e => by rw [hin.2 e] at hi; cases hi
            clear hin
            by_cases e1 : cx = x
            · by_cases e2 : cy = y
              · by_cases e3 : cw = m
                · have e4 : ¬ ch = n := fun e4 => hne ⟨e1, e2, e3, e4⟩
                  clear hne
                  replace e1 := e1.symm; replace e2 := e2.symm; replace e3 := e3.symm; subst e1 e2 e3
                  as_aux_lemma =>
                    go_region_held3 (fun w' => w'.cell? ⟨w.heap.size, 0, none⟩ = some (.int .i64 x) ∧ w'.cell? ⟨w.heap.size, 1, none⟩ = some (.int .i64 y) ∧ w'.cell? ⟨w.heap.size, 2, none⟩ = some (.int .i64 m) ∧ w'.cell? ⟨w.heap.size, 3, none⟩ = some (.int .i64 n) ∧ w'.cell? ⟨w.heap.size + 1, 0, none⟩ = some (.int .i64 x') ∧ w'.cell? ⟨w.heap.size + 1, 1, none⟩ = some (.int .i64 y') ∧ w'.cell? ⟨w.heap.size + 1, 2, none⟩ = some (.int .i64 m') ∧ w'.cell? ⟨w.heap.size + 1, 3, none⟩ = some (.int .i64 n') ∧ w'.cell? ⟨w4.heap.size, 0, none⟩ = some (.int .i64 x) ∧ w'.cell? ⟨w4.heap.size, 1, none⟩ = some (.int .i64 y) ∧ w'.cell? ⟨w4.heap.size, 2, none⟩ = some (.int .i64 m) ∧ w'.cell? ⟨w4.heap.size, 3, none⟩ = some (.int .i64 ch) ∧ Below wr.heap.size wr w') (first | exact keep12 li_0 li_1 li_2 (Below.refl _ _) hS | exact keep12 li_0 li_1 li_2 (Below.refl _ _).drew hS | exact keep12 li_0 li_1 li_2 (more12 (by assumption) (by assumption)) hS)
                      (first
                        | (go_at_call 16; refine (right_any _ _ _ _ _).mono ?_; rintro e wq ⟨rfl, hbq⟩)
                        | (go_at_call 14; refine (in_any _ _ _ _ _ _ _ _ _).mono ?_; rintro e wq ⟨rfl, hbq⟩)
                        | (go_at_call 10; refine (awake_any _).mono ?_; rintro e wq ⟨rfl, hbq⟩))
                    all_goals go_wp2
                    all_goals go_ret
                    all_goals refine ⟨rfl, ?_⟩
                    repeat' (first | with_reducible assumption | with_reducible refine Below.setCell ?_ ?_ _ | with_reducible refine below_drewN ?_ _ | with_reducible refine Below.drew ?_ | with_reducible refine balloc ?_ _ | with_reducible exact Below.refl _ _ | with_reducible refine bstep ?_ (by assumption) | with_reducible refine Below.alloc ?_ ?_ _ | with_reducible refine bthrough ?_ (by assumption) ?_)
                    all_goals (first | omega | (simp; done) | (simp; omega))
                · clear hne
                  replace e1 := e1.symm; replace e2 := e2.symm; subst e1 e2
                  as_aux_lemma =>
                    go_region_held3 (fun w' => w'.cell? ⟨w.heap.size, 0, none⟩ = some (.int .i64 x) ∧ w'.cell? ⟨w.heap.size, 1, none⟩ = some (.int .i64 y) ∧ w'.cell? ⟨w.heap.size, 2, none⟩ = some (.int .i64 m) ∧ w'.cell? ⟨w.heap.size, 3, none⟩ = some (.int .i64 n) ∧ w'.cell? ⟨w.heap.size + 1, 0, none⟩ = some (.int .i64 x') ∧ w'.cell? ⟨w.heap.size + 1, 1, none⟩ = some (.int .i64 y') ∧ w'.cell? ⟨w.heap.size + 1, 2, none⟩ = some (.int .i64 m') ∧ w'.cell? ⟨w.heap.size + 1, 3, none⟩ = some (.int .i64 n') ∧ w'.cell? ⟨w4.heap.size, 0, none⟩ = some (.int .i64 x) ∧ w'.cell? ⟨w4.heap.size, 1, none⟩ = some (.int .i64 y) ∧ w'.cell? ⟨w4.heap.size, 2, none⟩ = some (.int .i64 cw) ∧ w'.cell? ⟨w4.heap.size, 3, none⟩ = some (.int .i64 ch) ∧ Below wr.heap.size wr w') (first | exact keep12 li_0 li_1 li_2 (Below.refl _ _) hS | exact keep12 li_0 li_1 li_2 (Below.refl _ _).drew hS | exact keep12 li_0 li_1 li_2 (more12 (by assumption) (by assumption)) hS)
                      (first
                        | (go_at_call 16; refine (right_any _ _ _ _ _).mono ?_; rintro e wq ⟨rfl, hbq⟩)
                        | (go_at_call 14; refine (in_any _ _ _ _ _ _ _ _ _).mono ?_; rintro e wq ⟨rfl, hbq⟩)
                        | (go_at_call 10; refine (awake_any _).mono ?_; rintro e wq ⟨rfl, hbq⟩))
                    all_goals go_wp2
                    all_goals go_ret
                    all_goals refine ⟨rfl, ?_⟩
                    repeat' (first | with_reducible assumption | with_reducible refine Below.setCell ?_ ?_ _ | with_reducible refine below_drewN ?_ _ | with_reducible refine Below.drew ?_ | with_reducible refine balloc ?_ _ | with_reducible exact Below.refl _ _ | with_reducible refine bstep ?_ (by assumption) | with_reducible refine Below.alloc ?_ ?_ _ | with_reducible refine bthrough ?_ (by assumption) ?_)
                    all_goals (first | omega | (simp; done) | (simp; omega))
              · clear hne
                replace e1 := e1.symm; subst e1
                as_aux_lemma =>
                  go_region_held3 (fun w' => w'.cell? ⟨w.heap.size, 0, none⟩ = some (.int .i64 x) ∧ w'.cell? ⟨w.heap.size, 1, none⟩ = some (.int .i64 y) ∧ w'.cell? ⟨w.heap.size, 2, none⟩ = some (.int .i64 m) ∧ w'.cell? ⟨w.heap.size, 3, none⟩ = some (.int .i64 n) ∧ w'.cell? ⟨w.heap.size + 1, 0, none⟩ = some (.int .i64 x') ∧ w'.cell? ⟨w.heap.size + 1, 1, none⟩ = some (.int .i64 y') ∧ w'.cell? ⟨w.heap.size + 1, 2, none⟩ = some (.int .i64 m') ∧ w'.cell? ⟨w.heap.size + 1, 3, none⟩ = some (.int .i64 n') ∧ w'.cell? ⟨w4.heap.size, 0, none⟩ = some (.int .i64 x) ∧ w'.cell? ⟨w4.heap.size, 1, none⟩ = some (.int .i64 cy) ∧ w'.cell? ⟨w4.heap.size, 2, none⟩ = some (.int .i64 cw) ∧ w'.cell? ⟨w4.heap.size, 3, none⟩ = some (.int .i64 ch) ∧ Below wr.heap.size wr w') (first | exact keep12 li_0 li_1 li_2 (Below.refl _ _) hS | exact keep12 li_0 li_1 li_2 (Below.refl _ _).drew hS | exact keep12 li_0 li_1 li_2 (more12 (by assumption) (by assumption)) hS)
                    (first
                      | (go_at_call 16; refine (right_any _ _ _ _ _).mono ?_; rintro e wq ⟨rfl, hbq⟩)
                      | (go_at_call 14; refine (in_any _ _ _ _ _ _ _ _ _).mono ?_; rintro e wq ⟨rfl, hbq⟩)
                      | (go_at_call 10; refine (awake_any _).mono ?_; rintro e wq ⟨rfl, hbq⟩))
                  all_goals go_wp2
                  all_goals go_ret
                  all_goals refine ⟨rfl, ?_⟩
                  repeat' (first | with_reducible assumption | with_reducible refine Below.setCell ?_ ?_ _ | with_reducible refine below_drewN ?_ _ | with_reducible refine Below.drew ?_ | with_reducible refine balloc ?_ _ | with_reducible exact Below.refl _ _ | with_reducible refine bstep ?_ (by assumption) | with_reducible refine Below.alloc ?_ ?_ _ | with_reducible refine bthrough ?_ (by assumption) ?_)
                  all_goals (first | omega | (simp; done) | (simp; omega))
            · clear hne
              as_aux_lemma =>
                go_region_held3 (fun w' => w'.cell? ⟨w.heap.size, 0, none⟩ = some (.int .i64 x) ∧ w'.cell? ⟨w.heap.size, 1, none⟩ = some (.int .i64 y) ∧ w'.cell? ⟨w.heap.size, 2, none⟩ = some (.int .i64 m) ∧ w'.cell? ⟨w.heap.size, 3, none⟩ = some (.int .i64 n) ∧ w'.cell? ⟨w.heap.size + 1, 0, none⟩ = some (.int .i64 x') ∧ w'.cell? ⟨w.heap.size + 1, 1, none⟩ = some (.int .i64 y') ∧ w'.cell? ⟨w.heap.size + 1, 2, none⟩ = some (.int .i64 m') ∧ w'.cell? ⟨w.heap.size + 1, 3, none⟩ = some (.int .i64 n') ∧ w'.cell? ⟨w4.heap.size, 0, none⟩ = some (.int .i64 cx) ∧ w'.cell? ⟨w4.heap.size, 1, none⟩ = some (.int .i64 cy) ∧ w'.cell? ⟨w4.heap.size, 2, none⟩ = some (.int .i64 cw) ∧ w'.cell? ⟨w4.heap.size, 3, none⟩ = some (.int .i64 ch) ∧ Below wr.heap.size wr w') (first | exact keep12 li_0 li_1 li_2 (Below.refl _ _) hS | exact keep12 li_0 li_1 li_2 (Below.refl _ _).drew hS | exact keep12 li_0 li_1 li_2 (more12 (by assumption) (by assumption)) hS)
                  (first
                    | (go_at_call 16; refine (right_any _ _ _ _ _).mono ?_; rintro e wq ⟨rfl, hbq⟩)
                    | (go_at_call 14; refine (in_any _ _ _ _ _ _ _ _ _).mono ?_; rintro e wq ⟨rfl, hbq⟩)
                    | (go_at_call 10; refine (awake_any _).mono ?_; rintro e wq ⟨rfl, hbq⟩))
                all_goals go_wp2
                all_goals go_ret
                all_goals refine ⟨rfl, ?_⟩
                repeat' (first | with_reducible assumption | with_reducible refine Below.setCell ?_ ?_ _ | with_reducible refine below_drewN ?_ _ | with_reducible refine Below.drew ?_ | with_reducible refine balloc ?_ _ | with_reducible exact Below.refl _ _ | with_reducible refine bstep ?_ (by assumption) | with_reducible refine Below.alloc ?_ ?_ _ | with_reducible refine bthrough ?_ (by assumption) ?_)
                all_goals (first | omega | (simp; done) | (simp; omega))
          · obtain ⟨e1, e2, e3, e4⟩ := hin.1 hi
            clear hin
            replace e1 := e1.symm; replace e2 := e2.symm; replace e3 := e3.symm; replace e4 := e4.symm; subst e1 e2 e3 e4
            as_aux_lemma =>
              go_region_held3 (fun w' => w'.cell? ⟨w.heap.size, 0, none⟩ = some (.int .i64 x) ∧ w'.cell? ⟨w.heap.size, 1, none⟩ = some (.int .i64 y) ∧ w'.cell? ⟨w.heap.size, 2, none⟩ = some (.int .i64 m) ∧ w'.cell? ⟨w.heap.size, 3, none⟩ = some (.int .i64 n) ∧ w'.cell? ⟨w.heap.size + 1, 0, none⟩ = some (.int .i64 x') ∧ w'.cell? ⟨w.heap.size + 1, 1, none⟩ = some (.int .i64 y') ∧ w'.cell? ⟨w.heap.size + 1, 2, none⟩ = some (.int .i64 m') ∧ w'.cell? ⟨w.heap.size + 1, 3, none⟩ = some (.int .i64 n') ∧ w'.cell? ⟨w4.heap.size, 0, none⟩ = some (.int .i64 x) ∧ w'.cell? ⟨w4.heap.size, 1, none⟩ = some (.int .i64 y) ∧ w'.cell? ⟨w4.heap.size, 2, none⟩ = some (.int .i64 m) ∧ w'.cell? ⟨w4.heap.size, 3, none⟩ = some (.int .i64 n) ∧ Below wr.heap.size wr w') (first | exact keep12 li_0 li_1 li_2 (Below.refl _ _) hS | exact keep12 li_0 li_1 li_2 (Below.refl _ _).drew hS | exact keep12 li_0 li_1 li_2 (more12 (by assumption) (by assumption)) hS)
                (first
                  | (go_at_call 16; refine (right_any _ _ _ _ _).mono ?_; rintro e wq ⟨rfl, hbq⟩)
                  | (go_at_call 14; refine (in_any _ _ _ _ _ _ _ _ _).mono ?_; rintro e wq ⟨rfl, hbq⟩)
                  | (go_at_call 10; refine (awake_any _).mono ?_; rintro e wq ⟨rfl, hbq⟩))
              all_goals go_wp2
              all_goals go_ret
              all_goals refine ⟨rfl, ?_⟩
              repeat' (first | with_reducible assumption | with_reducible refine Below.setCell ?_ ?_ _ | with_reducible refine below_drewN ?_ _ | with_reducible refine Below.drew ?_ | with_reducible refine balloc ?_ _ | with_reducible exact Below.refl _ _ | with_reducible refine bstep ?_ (by assumption) | with_reducible refine Below.alloc ?_ ?_ _ | with_reducible refine bthrough ?_ (by assumption) ?_)
              all_goals (first | omega | (simp; done) | (simp; omega))

theorem lawMeets (x y m n x' y' m' n' : Int) (w : World) :
    Calls Try.prog 4 #[.agg #[.int .i64 x, .int .i64 y, .int .i64 m, .int .i64 n], .agg #[.int .i64 x', .int .i64 y', .int .i64 m', .int .i64 n']] w fun e w' => e = .returned (.bool true) ∧ Below w.heap.size w w' := by
  cases h : meetB x y m n x' y' m' n'
  · exact lawMeets_no x y m n x' y' m' n' w h
  · exact lawMeets_yes x y m n x' y' m' n' w h

end Go.Proofs.Ytipfngliahhhiaa
