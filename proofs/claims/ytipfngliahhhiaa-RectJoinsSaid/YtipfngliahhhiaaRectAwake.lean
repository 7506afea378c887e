/-
  The law's fixed answer (awake) is true: Cut of two given rectangles, walked through.
-/
import Derived.Test.YtipfngliahhhiaaRectB2
namespace Go.Proofs.Ytipfngliahhhiaa
open Go.RowKit

set_option maxHeartbeats 1000000 in
theorem cut2_no (x y m n : Int) (w : World) (h : 0 < m) :
    Calls Try.prog 32 #[.agg #[.int .i64 x, .int .i64 y, .int .i64 m, .int .i64 n]] w fun e w' => e = .returned (.bool false) ∧ Below w.heap.size w w' := by
  go_enter Try.func32, Try.ntmps32
  go_wp2
  all_goals go_ret
  all_goals refine ⟨rfl, ?_⟩
  repeat' (first | with_reducible assumption | with_reducible refine Below.setCell ?_ ?_ _ | with_reducible refine below_drewN ?_ _ | with_reducible refine Below.drew ?_ | with_reducible refine balloc ?_ _ | with_reducible exact Below.refl _ _ | with_reducible refine bstep ?_ (by assumption) | with_reducible refine Below.alloc ?_ ?_ _ | with_reducible refine bthrough ?_ (by assumption) ?_)
  all_goals (first | omega | (simp; done) | (simp; omega))

set_option maxHeartbeats 1000000 in
theorem indexFunc_none (b : Nat) (w : World) (c0 : w.cell? ⟨b, 0, none⟩ = some (.int .i64 0)) (c1 : w.cell? ⟨b, 1, none⟩ = some (.int .i64 0)) (c2 : w.cell? ⟨b, 2, none⟩ = some (.int .i64 4)) (c3 : w.cell? ⟨b, 3, none⟩ = some (.int .i64 1)) (c4 : w.cell? ⟨b, 4, none⟩ = some (.int .i64 0)) (c5 : w.cell? ⟨b, 5, none⟩ = some (.int .i64 3)) (c6 : w.cell? ⟨b, 6, none⟩ = some (.int .i64 4)) (c7 : w.cell? ⟨b, 7, none⟩ = some (.int .i64 1)) (c8 : w.cell? ⟨b, 8, none⟩ = some (.int .i64 0)) (c9 : w.cell? ⟨b, 9, none⟩ = some (.int .i64 1)) (c10 : w.cell? ⟨b, 10, none⟩ = some (.int .i64 1)) (c11 : w.cell? ⟨b, 11, none⟩ = some (.int .i64 2)) (c12 : w.cell? ⟨b, 12, none⟩ = some (.int .i64 3)) (c13 : w.cell? ⟨b, 13, none⟩ = some (.int .i64 1)) (c14 : w.cell? ⟨b, 14, none⟩ = some (.int .i64 1)) (c15 : w.cell? ⟨b, 15, none⟩ = some (.int .i64 2)) (hb : b < w.heap.size) :
    Calls Try.prog 33 #[.slice (some ⟨b, 0, none⟩) 4 4, .func (.func 32) #[] #[]] w fun e w' => e = .returned (.int .i64 (-1)) ∧ Below w.heap.size w w' := by
  go_enter Try.func33, Try.ntmps33
  go_wp2
  go_loopw [8] (fun s8 wr => ∃ k : Nat, k ≤ 4 ∧ s8 = .int .i64 k ∧ Below w.heap.size w wr) (fun s8 _ => 4 - (intOf s8).toNat)
  case atStart => exact ⟨0, by omega, rfl, Below.refl _ _⟩
  case round =>
    obtain ⟨k, hk, rfl, hbr⟩ := hrel
    have d0 : wr.cell? ⟨b, 0, none⟩ = some (.int .i64 0) := (hbr.cell (p := ⟨b, 0, none⟩) hb).trans c0
    have d1 : wr.cell? ⟨b, 1, none⟩ = some (.int .i64 0) := (hbr.cell (p := ⟨b, 1, none⟩) hb).trans c1
    have d2 : wr.cell? ⟨b, 2, none⟩ = some (.int .i64 4) := (hbr.cell (p := ⟨b, 2, none⟩) hb).trans c2
    have d3 : wr.cell? ⟨b, 3, none⟩ = some (.int .i64 1) := (hbr.cell (p := ⟨b, 3, none⟩) hb).trans c3
    have d4 : wr.cell? ⟨b, 4, none⟩ = some (.int .i64 0) := (hbr.cell (p := ⟨b, 4, none⟩) hb).trans c4
    have d5 : wr.cell? ⟨b, 5, none⟩ = some (.int .i64 3) := (hbr.cell (p := ⟨b, 5, none⟩) hb).trans c5
    have d6 : wr.cell? ⟨b, 6, none⟩ = some (.int .i64 4) := (hbr.cell (p := ⟨b, 6, none⟩) hb).trans c6
    have d7 : wr.cell? ⟨b, 7, none⟩ = some (.int .i64 1) := (hbr.cell (p := ⟨b, 7, none⟩) hb).trans c7
    have d8 : wr.cell? ⟨b, 8, none⟩ = some (.int .i64 0) := (hbr.cell (p := ⟨b, 8, none⟩) hb).trans c8
    have d9 : wr.cell? ⟨b, 9, none⟩ = some (.int .i64 1) := (hbr.cell (p := ⟨b, 9, none⟩) hb).trans c9
    have d10 : wr.cell? ⟨b, 10, none⟩ = some (.int .i64 1) := (hbr.cell (p := ⟨b, 10, none⟩) hb).trans c10
    have d11 : wr.cell? ⟨b, 11, none⟩ = some (.int .i64 2) := (hbr.cell (p := ⟨b, 11, none⟩) hb).trans c11
    have d12 : wr.cell? ⟨b, 12, none⟩ = some (.int .i64 3) := (hbr.cell (p := ⟨b, 12, none⟩) hb).trans c12
    have d13 : wr.cell? ⟨b, 13, none⟩ = some (.int .i64 1) := (hbr.cell (p := ⟨b, 13, none⟩) hb).trans c13
    have d14 : wr.cell? ⟨b, 14, none⟩ = some (.int .i64 1) := (hbr.cell (p := ⟨b, 14, none⟩) hb).trans c14
    have d15 : wr.cell? ⟨b, 15, none⟩ = some (.int .i64 2) := (hbr.cell (p := ⟨b, 15, none⟩) hb).trans c15
    have hsr := hbr.size
    have hcases : k = 0 ∨ k = 1 ∨ k = 2 ∨ k = 3 ∨ k = 4 := by omega
    clear hk
    rcases hcases with rfl | rfl | rfl | rfl | rfl
    · go_wp2_with (go_at_call 32; refine (cut2_no _ _ _ _ _ (by decide)).mono ?_; rintro e w1 ⟨rfl, hb1⟩)
      go_roundw
      case rel => exact ⟨1, by omega, rfl, bstep hbr hb1⟩
      case measure => simp [intOf]
    · go_wp2_with (go_at_call 32; refine (cut2_no _ _ _ _ _ (by decide)).mono ?_; rintro e w1 ⟨rfl, hb1⟩)
      go_roundw
      case rel => exact ⟨2, by omega, rfl, bstep hbr hb1⟩
      case measure => simp [intOf]
    · go_wp2_with (go_at_call 32; refine (cut2_no _ _ _ _ _ (by decide)).mono ?_; rintro e w1 ⟨rfl, hb1⟩)
      go_roundw
      case rel => exact ⟨3, by omega, rfl, bstep hbr hb1⟩
      case measure => simp [intOf]
    · go_wp2_with (go_at_call 32; refine (cut2_no _ _ _ _ _ (by decide)).mono ?_; rintro e w1 ⟨rfl, hb1⟩)
      go_roundw
      case rel => exact ⟨4, by omega, rfl, bstep hbr hb1⟩
      case measure => simp [intOf]
    · go_wp2
      go_ret
      exact ⟨rfl, hbr⟩

set_option maxHeartbeats 1000000 in
theorem deleteFunc_none (b : Nat) (w : World) (c0 : w.cell? ⟨b, 0, none⟩ = some (.int .i64 0)) (c1 : w.cell? ⟨b, 1, none⟩ = some (.int .i64 0)) (c2 : w.cell? ⟨b, 2, none⟩ = some (.int .i64 4)) (c3 : w.cell? ⟨b, 3, none⟩ = some (.int .i64 1)) (c4 : w.cell? ⟨b, 4, none⟩ = some (.int .i64 0)) (c5 : w.cell? ⟨b, 5, none⟩ = some (.int .i64 3)) (c6 : w.cell? ⟨b, 6, none⟩ = some (.int .i64 4)) (c7 : w.cell? ⟨b, 7, none⟩ = some (.int .i64 1)) (c8 : w.cell? ⟨b, 8, none⟩ = some (.int .i64 0)) (c9 : w.cell? ⟨b, 9, none⟩ = some (.int .i64 1)) (c10 : w.cell? ⟨b, 10, none⟩ = some (.int .i64 1)) (c11 : w.cell? ⟨b, 11, none⟩ = some (.int .i64 2)) (c12 : w.cell? ⟨b, 12, none⟩ = some (.int .i64 3)) (c13 : w.cell? ⟨b, 13, none⟩ = some (.int .i64 1)) (c14 : w.cell? ⟨b, 14, none⟩ = some (.int .i64 1)) (c15 : w.cell? ⟨b, 15, none⟩ = some (.int .i64 2)) (hb : b < w.heap.size) :
    Calls Try.prog 30 #[.slice (some ⟨b, 0, none⟩) 4 4, .func (.func 32) #[] #[]] w fun e w' => e = .returned (.slice (some ⟨b, 0, none⟩) 4 4) ∧ Below w.heap.size w w' := by
  go_enter Try.func30, Try.ntmps30
  go_wp2_with fail
  refine (indexFunc_none b w c0 c1 c2 c3 c4 c5 c6 c7 c8 c9 c10 c11 c12 c13 c14 c15 hb).mono ?_
  rintro e w1 ⟨rfl, hbw1⟩
  go_wp2
  go_ret
  exact ⟨rfl, hbw1⟩

theorem aw_cells {A C B : Nat} {W w1 : World} (hA : A < B) (hC : C < B) (h : Below B W w1) (hW : W.cell? ⟨A, 0, none⟩ = some (.int .i64 0) ∧ W.cell? ⟨A, 1, none⟩ = some (.int .i64 0) ∧ W.cell? ⟨A, 2, none⟩ = some (.int .i64 4) ∧ W.cell? ⟨A, 3, none⟩ = some (.int .i64 4) ∧ W.cell? ⟨C, 0, none⟩ = some (.int .i64 1) ∧ W.cell? ⟨C, 1, none⟩ = some (.int .i64 1) ∧ W.cell? ⟨C, 2, none⟩ = some (.int .i64 2) ∧ W.cell? ⟨C, 3, none⟩ = some (.int .i64 2)) : w1.cell? ⟨A, 0, none⟩ = some (.int .i64 0) ∧ w1.cell? ⟨A, 1, none⟩ = some (.int .i64 0) ∧ w1.cell? ⟨A, 2, none⟩ = some (.int .i64 4) ∧ w1.cell? ⟨A, 3, none⟩ = some (.int .i64 4) ∧ w1.cell? ⟨C, 0, none⟩ = some (.int .i64 1) ∧ w1.cell? ⟨C, 1, none⟩ = some (.int .i64 1) ∧ w1.cell? ⟨C, 2, none⟩ = some (.int .i64 2) ∧ w1.cell? ⟨C, 3, none⟩ = some (.int .i64 2) ∧ Below B W w1 := by
  have e : ∀ b o, b < B → w1.cell? ⟨b, o, none⟩ = W.cell? ⟨b, o, none⟩ := fun b o hb => h.cell (p := ⟨b, o, none⟩) hb
  simp only [e A _ hA, e C _ hC]
  exact ⟨hW.1, hW.2.1, hW.2.2.1, hW.2.2.2.1, hW.2.2.2.2.1, hW.2.2.2.2.2.1, hW.2.2.2.2.2.2.1, hW.2.2.2.2.2.2.2, h⟩

theorem aw_more {A C B : Nat} {W wX w1 : World} (k : Below wX.heap.size wX w1) (h : wX.cell? ⟨A, 0, none⟩ = some (.int .i64 0) ∧ wX.cell? ⟨A, 1, none⟩ = some (.int .i64 0) ∧ wX.cell? ⟨A, 2, none⟩ = some (.int .i64 4) ∧ wX.cell? ⟨A, 3, none⟩ = some (.int .i64 4) ∧ wX.cell? ⟨C, 0, none⟩ = some (.int .i64 1) ∧ wX.cell? ⟨C, 1, none⟩ = some (.int .i64 1) ∧ wX.cell? ⟨C, 2, none⟩ = some (.int .i64 2) ∧ wX.cell? ⟨C, 3, none⟩ = some (.int .i64 2) ∧ Below B W wX) (hB : B ≤ W.heap.size) : Below B W w1 :=
  h.2.2.2.2.2.2.2.2.trans (k.mono (Nat.le_trans hB h.2.2.2.2.2.2.2.2.size))

theorem aw_alloc {A C B : Nat} {W wX : World} (h : wX.cell? ⟨A, 0, none⟩ = some (.int .i64 0) ∧ wX.cell? ⟨A, 1, none⟩ = some (.int .i64 0) ∧ wX.cell? ⟨A, 2, none⟩ = some (.int .i64 4) ∧ wX.cell? ⟨A, 3, none⟩ = some (.int .i64 4) ∧ wX.cell? ⟨C, 0, none⟩ = some (.int .i64 1) ∧ wX.cell? ⟨C, 1, none⟩ = some (.int .i64 1) ∧ wX.cell? ⟨C, 2, none⟩ = some (.int .i64 2) ∧ wX.cell? ⟨C, 3, none⟩ = some (.int .i64 2) ∧ Below B W wX) (hB : B ≤ W.heap.size) (o : Obj) : Below B W (wX.alloc o) :=
  h.2.2.2.2.2.2.2.2.alloc (Nat.le_trans hB h.2.2.2.2.2.2.2.2.size) o

theorem aw_last {A C B : Nat} {W wX : World} (h : wX.cell? ⟨A, 0, none⟩ = some (.int .i64 0) ∧ wX.cell? ⟨A, 1, none⟩ = some (.int .i64 0) ∧ wX.cell? ⟨A, 2, none⟩ = some (.int .i64 4) ∧ wX.cell? ⟨A, 3, none⟩ = some (.int .i64 4) ∧ wX.cell? ⟨C, 0, none⟩ = some (.int .i64 1) ∧ wX.cell? ⟨C, 1, none⟩ = some (.int .i64 1) ∧ wX.cell? ⟨C, 2, none⟩ = some (.int .i64 2) ∧ wX.cell? ⟨C, 3, none⟩ = some (.int .i64 2) ∧ Below B W wX) : Below B W wX := h.2.2.2.2.2.2.2.2

theorem common_aw (w : World) :
    Calls Try.prog 12 #[.agg #[.int .i64 0, .int .i64 0, .int .i64 4, .int .i64 4], .agg #[.int .i64 1, .int .i64 1, .int .i64 2, .int .i64 2]] w fun e w' => e = .returned (.tuple #[.agg #[.int .i64 1, .int .i64 1, .int .i64 2, .int .i64 2], .bool true]) ∧ Below w.heap.size w w' :=
  common_has 0 0 4 4 1 1 2 2 w (by decide)

set_option maxHeartbeats 2000000 in
theorem cut_awake (w : World) :
    Calls Try.prog 25 #[.agg #[.int .i64 0, .int .i64 0, .int .i64 4, .int .i64 4], .agg #[.int .i64 1, .int .i64 1, .int .i64 2, .int .i64 2]] w fun e w' => ∃ b, e = .returned (.slice (some ⟨b, 0, none⟩) 4 4) ∧ w.heap.size ≤ b ∧ b < w'.heap.size ∧ w'.cell? ⟨b, 0, none⟩ = some (.int .i64 0) ∧ w'.cell? ⟨b, 1, none⟩ = some (.int .i64 0) ∧ w'.cell? ⟨b, 2, none⟩ = some (.int .i64 4) ∧ w'.cell? ⟨b, 3, none⟩ = some (.int .i64 1) ∧ w'.cell? ⟨b, 4, none⟩ = some (.int .i64 0) ∧ w'.cell? ⟨b, 5, none⟩ = some (.int .i64 3) ∧ w'.cell? ⟨b, 6, none⟩ = some (.int .i64 4) ∧ w'.cell? ⟨b, 7, none⟩ = some (.int .i64 1) ∧ w'.cell? ⟨b, 8, none⟩ = some (.int .i64 0) ∧ w'.cell? ⟨b, 9, none⟩ = some (.int .i64 1) ∧ w'.cell? ⟨b, 10, none⟩ = some (.int .i64 1) ∧ w'.cell? ⟨b, 11, none⟩ = some (.int .i64 2) ∧ w'.cell? ⟨b, 12, none⟩ = some (.int .i64 3) ∧ w'.cell? ⟨b, 13, none⟩ = some (.int .i64 1) ∧ w'.cell? ⟨b, 14, none⟩ = some (.int .i64 1) ∧ w'.cell? ⟨b, 15, none⟩ = some (.int .i64 2) ∧ Below w.heap.size w w' := by
  go_enter Try.func25, Try.ntmps25
  go_wp2_with fail
  refine (common_aw _).mono ?_
  rintro e w1 ⟨rfl, hbw1⟩
  obtain ⟨hcw1, hfw1⟩ := bcell hbw1
  have hsw1 := hbw1.size
  try simp at hcw1 hfw1 hsw1
  have lw1_0 : w.heap.size < w1.heap.size := by omega
  have lw1_1 : w.heap.size + 1 < w1.heap.size := by omega
  go_wp2_with fail
  refine (ends_any _ _ _ _ _ (by omega) (by omega) (by omega) (by omega)).mono ?_
  rintro e w2 ⟨rfl, hbw2⟩
  obtain ⟨hcw2, hfw2⟩ := bcell hbw2
  have hsw2 := hbw2.size
  try simp at hcw2 hfw2 hsw2
  have lw2_0 : w.heap.size < w2.heap.size := by omega
  have lw2_1 : w.heap.size + 1 < w2.heap.size := by omega
  have lw2_2 : w1.heap.size < w2.heap.size := by omega
  go_wp2_with fail
  refine (ends_any _ _ _ _ _ (by omega) (by omega) (by omega) (by omega)).mono ?_
  rintro e w3 ⟨rfl, hbw3⟩
  obtain ⟨hcw3, hfw3⟩ := bcell hbw3
  have hsw3 := hbw3.size
  try simp at hcw3 hfw3 hsw3
  have lw3_0 : w.heap.size < w3.heap.size := by omega
  have lw3_1 : w.heap.size + 1 < w3.heap.size := by omega
  have lw3_2 : w1.heap.size < w3.heap.size := by omega
  go_upto_region 6 with fail
  have hS : w3.cell? ⟨w.heap.size, 0, none⟩ = some (.int .i64 0) ∧ w3.cell? ⟨w.heap.size, 1, none⟩ = some (.int .i64 0) ∧ w3.cell? ⟨w.heap.size, 2, none⟩ = some (.int .i64 4) ∧ w3.cell? ⟨w.heap.size, 3, none⟩ = some (.int .i64 4) ∧ w3.cell? ⟨w1.heap.size, 0, none⟩ = some (.int .i64 1) ∧ w3.cell? ⟨w1.heap.size, 1, none⟩ = some (.int .i64 1) ∧ w3.cell? ⟨w1.heap.size, 2, none⟩ = some (.int .i64 2) ∧ w3.cell? ⟨w1.heap.size, 3, none⟩ = some (.int .i64 2) := by
    simp [go_sem, hcw1, hcw2, hcw3, lw1_0, lw1_1, lw2_0, lw2_1, lw2_2, lw3_0, lw3_1, lw3_2]
  go_cut [11] (fun s11 wx => ∃ b, s11 = .slice (some ⟨b, 0, none⟩) 4 4 ∧ w.heap.size ≤ b ∧ b < wx.heap.size ∧ wx.cell? ⟨b, 0, none⟩ = some (.int .i64 0) ∧ wx.cell? ⟨b, 1, none⟩ = some (.int .i64 0) ∧ wx.cell? ⟨b, 2, none⟩ = some (.int .i64 4) ∧ wx.cell? ⟨b, 3, none⟩ = some (.int .i64 1) ∧ wx.cell? ⟨b, 4, none⟩ = some (.int .i64 0) ∧ wx.cell? ⟨b, 5, none⟩ = some (.int .i64 3) ∧ wx.cell? ⟨b, 6, none⟩ = some (.int .i64 4) ∧ wx.cell? ⟨b, 7, none⟩ = some (.int .i64 1) ∧ wx.cell? ⟨b, 8, none⟩ = some (.int .i64 0) ∧ wx.cell? ⟨b, 9, none⟩ = some (.int .i64 1) ∧ wx.cell? ⟨b, 10, none⟩ = some (.int .i64 1) ∧ wx.cell? ⟨b, 11, none⟩ = some (.int .i64 2) ∧ wx.cell? ⟨b, 12, none⟩ = some (.int .i64 3) ∧ wx.cell? ⟨b, 13, none⟩ = some (.int .i64 1) ∧ wx.cell? ⟨b, 14, none⟩ = some (.int .i64 1) ∧ wx.cell? ⟨b, 15, none⟩ = some (.int .i64 2) ∧ Below w3.heap.size w3 wx)
  case first =>
    go_region_held3 (fun w' => w'.cell? ⟨w.heap.size, 0, none⟩ = some (.int .i64 0) ∧ w'.cell? ⟨w.heap.size, 1, none⟩ = some (.int .i64 0) ∧ w'.cell? ⟨w.heap.size, 2, none⟩ = some (.int .i64 4) ∧ w'.cell? ⟨w.heap.size, 3, none⟩ = some (.int .i64 4) ∧ w'.cell? ⟨w1.heap.size, 0, none⟩ = some (.int .i64 1) ∧ w'.cell? ⟨w1.heap.size, 1, none⟩ = some (.int .i64 1) ∧ w'.cell? ⟨w1.heap.size, 2, none⟩ = some (.int .i64 2) ∧ w'.cell? ⟨w1.heap.size, 3, none⟩ = some (.int .i64 2) ∧ Below w3.heap.size w3 w') (first | exact aw_cells lw3_0 lw3_2 (Below.refl _ _) hS | exact aw_cells lw3_0 lw3_2 (Below.refl _ _).drew hS | exact aw_cells lw3_0 lw3_2 (aw_more (by assumption) (by assumption) (Nat.le_refl _)) hS | exact aw_cells lw3_0 lw3_2 (aw_alloc (by assumption) (Nat.le_refl _) _) hS)
      (first
        | (go_at_call 27; refine (between_yes _ _ _ _ _ (by omega) (by omega) (by omega) (by omega) (by omega) (by omega)).mono ?_; rintro e w4 ⟨rfl, hb4⟩))
    all_goals go_wp2_with fail
    all_goals go_meet
    all_goals have hbl := aw_last (A := w.heap.size) (C := w1.heap.size) (B := w3.heap.size) (W := w3) (by assumption)
    all_goals have hsl := hbl.size
    all_goals simp at hsl
    all_goals refine ⟨_, rfl, by omega, by simp, ?_, ?_, ?_, ?_, ?_, ?_, ?_, ?_, ?_, ?_, ?_, ?_, ?_, ?_, ?_, ?_, hbl⟩
    all_goals (rw [World.cell?_alloc_new]; rfl)
  case rest =>
    obtain ⟨b, rfl, hg1, hg2, c0, c1, c2, c3, c4, c5, c6, c7, c8, c9, c10, c11, c12, c13, c14, c15, hbx⟩ := hcut
    go_wp2_with fail
    refine (deleteFunc_none b wc c0 c1 c2 c3 c4 c5 c6 c7 c8 c9 c10 c11 c12 c13 c14 c15 hg2).mono ?_
    rintro e w5 ⟨rfl, hbw5⟩
    have hsw5 := hbw5.size
    have e5 : ∀ o, w5.cell? ⟨b, o, none⟩ = wc.cell? ⟨b, o, none⟩ := fun o => hbw5.cell (p := ⟨b, o, none⟩) hg2
    go_wp2
    go_ret
    refine ⟨b, rfl, by omega, by omega, (e5 _).trans c0, (e5 _).trans c1, (e5 _).trans c2, (e5 _).trans c3, (e5 _).trans c4, (e5 _).trans c5, (e5 _).trans c6, (e5 _).trans c7, (e5 _).trans c8, (e5 _).trans c9, (e5 _).trans c10, (e5 _).trans c11, (e5 _).trans c12, (e5 _).trans c13, (e5 _).trans c14, (e5 _).trans c15, ?_⟩
    repeat' (first | with_reducible assumption | with_reducible refine Below.setCell ?_ ?_ _ | with_reducible refine below_drewN ?_ _ | with_reducible refine Below.drew ?_ | with_reducible refine balloc ?_ _ | with_reducible exact Below.refl _ _ | with_reducible refine bstep ?_ (by assumption) | with_reducible refine Below.alloc ?_ ?_ _ | with_reducible refine bthrough ?_ (by assumption) ?_)
    all_goals (first | omega | (simp; done) | (simp; omega))
end Go.Proofs.Ytipfngliahhhiaa
