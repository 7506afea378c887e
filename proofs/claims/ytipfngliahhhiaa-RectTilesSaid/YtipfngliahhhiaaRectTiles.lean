/-
  The walk of the statement RectTiles: it returns true, for every rectangle and tile.
-/
import Derived.Test.YtipfngliahhhiaaRectT2
import Derived.Test.YtipfngliahhhiaaRound
import Derived.Test.YtipfngliahhhiaaRectAwake2
namespace Go.Proofs.Ytipfngliahhhiaa
open Go.RowKit Go.Shelf

attribute [local go_sem] Oper.semAt_some

theorem refHolds_as (x y m n i k : Int) (w : World) (hi : i ≤ 9223372036854775807) (hk : k ≤ 9223372036854775807) :
    Calls Try.prog 19 #[.agg #[.int .i64 x, .int .i64 y, .int .i64 m, .int .i64 n], .int .i64 i, .int .i64 k] w fun e w' => e = .returned (.bool (holdsB x y m n i k)) ∧ Below w.heap.size w w' := refHolds_any x y m n i k w hi hk

/-- a bool's cell that may be written -/
def RC (W : World) (p : Addr) : Prop := (∃ b : Bool, W.cell? p = some (.bool b)) ∧ W.frozen? p = false
theorem tS_call {x y m n : Int} {w wX wq : World} (h : wX.cell? ⟨w.heap.size, 0, none⟩ = some (.int .i64 x) ∧ wX.cell? ⟨w.heap.size, 1, none⟩ = some (.int .i64 y) ∧ wX.cell? ⟨w.heap.size, 2, none⟩ = some (.int .i64 m) ∧ wX.cell? ⟨w.heap.size, 3, none⟩ = some (.int .i64 n) ∧ w.heap.size + 1 < wX.heap.size ∧ RC wX ⟨w.heap.size + 1, 0, none⟩ ∧ Below w.heap.size w wX) (k : Below wX.heap.size wX wq) : wq.cell? ⟨w.heap.size, 0, none⟩ = some (.int .i64 x) ∧ wq.cell? ⟨w.heap.size, 1, none⟩ = some (.int .i64 y) ∧ wq.cell? ⟨w.heap.size, 2, none⟩ = some (.int .i64 m) ∧ wq.cell? ⟨w.heap.size, 3, none⟩ = some (.int .i64 n) ∧ w.heap.size + 1 < wq.heap.size ∧ RC wq ⟨w.heap.size + 1, 0, none⟩ ∧ Below w.heap.size w wq := by
  obtain ⟨g0, g1, g2, g3, g4, ⟨⟨b, g5⟩, g6⟩, g7⟩ := h
  have e : ∀ o, wq.cell? ⟨w.heap.size, o, none⟩ = wX.cell? ⟨w.heap.size, o, none⟩ := fun o => k.cell (p := ⟨w.heap.size, o, none⟩) (by show w.heap.size < _; omega)
  exact ⟨(e _).trans g0, (e _).trans g1, (e _).trans g2, (e _).trans g3, Nat.lt_of_lt_of_le g4 k.size, ⟨⟨b, (k.cell (p := ⟨w.heap.size + 1, 0, none⟩) g4).trans g5⟩, (k.frozen (p := ⟨w.heap.size + 1, 0, none⟩) g4).trans g6⟩, bstep g7 k⟩
theorem tS_drew {x y m n : Int} {w wX : World} (h : wX.cell? ⟨w.heap.size, 0, none⟩ = some (.int .i64 x) ∧ wX.cell? ⟨w.heap.size, 1, none⟩ = some (.int .i64 y) ∧ wX.cell? ⟨w.heap.size, 2, none⟩ = some (.int .i64 m) ∧ wX.cell? ⟨w.heap.size, 3, none⟩ = some (.int .i64 n) ∧ w.heap.size + 1 < wX.heap.size ∧ RC wX ⟨w.heap.size + 1, 0, none⟩ ∧ Below w.heap.size w wX) : wX.drew.cell? ⟨w.heap.size, 0, none⟩ = some (.int .i64 x) ∧ wX.drew.cell? ⟨w.heap.size, 1, none⟩ = some (.int .i64 y) ∧ wX.drew.cell? ⟨w.heap.size, 2, none⟩ = some (.int .i64 m) ∧ wX.drew.cell? ⟨w.heap.size, 3, none⟩ = some (.int .i64 n) ∧ w.heap.size + 1 < wX.drew.heap.size ∧ RC wX.drew ⟨w.heap.size + 1, 0, none⟩ ∧ Below w.heap.size w wX.drew := by
  obtain ⟨g0, g1, g2, g3, g4, g5, g7⟩ := h
  exact ⟨g0, g1, g2, g3, g4, g5, g7.drew⟩
theorem tS_set {x y m n : Int} {w wX : World} (h : wX.cell? ⟨w.heap.size, 0, none⟩ = some (.int .i64 x) ∧ wX.cell? ⟨w.heap.size, 1, none⟩ = some (.int .i64 y) ∧ wX.cell? ⟨w.heap.size, 2, none⟩ = some (.int .i64 m) ∧ wX.cell? ⟨w.heap.size, 3, none⟩ = some (.int .i64 n) ∧ w.heap.size + 1 < wX.heap.size ∧ RC wX ⟨w.heap.size + 1, 0, none⟩ ∧ Below w.heap.size w wX) (b : Bool) : (wX.setCell ⟨w.heap.size + 1, 0, none⟩ (.bool b)).cell? ⟨w.heap.size, 0, none⟩ = some (.int .i64 x) ∧ (wX.setCell ⟨w.heap.size + 1, 0, none⟩ (.bool b)).cell? ⟨w.heap.size, 1, none⟩ = some (.int .i64 y) ∧ (wX.setCell ⟨w.heap.size + 1, 0, none⟩ (.bool b)).cell? ⟨w.heap.size, 2, none⟩ = some (.int .i64 m) ∧ (wX.setCell ⟨w.heap.size + 1, 0, none⟩ (.bool b)).cell? ⟨w.heap.size, 3, none⟩ = some (.int .i64 n) ∧ w.heap.size + 1 < (wX.setCell ⟨w.heap.size + 1, 0, none⟩ (.bool b)).heap.size ∧ RC (wX.setCell ⟨w.heap.size + 1, 0, none⟩ (.bool b)) ⟨w.heap.size + 1, 0, none⟩ ∧ Below w.heap.size w (wX.setCell ⟨w.heap.size + 1, 0, none⟩ (.bool b)) := by
  obtain ⟨g0, g1, g2, g3, g4, ⟨⟨b', g5⟩, g6⟩, g7⟩ := h
  have e : ∀ o, (wX.setCell ⟨w.heap.size + 1, 0, none⟩ (.bool b)).cell? ⟨w.heap.size, o, none⟩ = wX.cell? ⟨w.heap.size, o, none⟩ := fun o => World.cell?_setCell_other _ _ _ _ (by intro h; injection h with h; omega)
  exact ⟨(e _).trans g0, (e _).trans g1, (e _).trans g2, (e _).trans g3, by simpa using g4, ⟨⟨b, World.cell?_setCell_same' _ _ _ (by rw [g5]; rfl)⟩, by rw [World.frozen?_setCell]; exact g6⟩, g7.setCell (by simp) _⟩
theorem tS_rc {x y m n : Int} {w wX : World} (h : wX.cell? ⟨w.heap.size, 0, none⟩ = some (.int .i64 x) ∧ wX.cell? ⟨w.heap.size, 1, none⟩ = some (.int .i64 y) ∧ wX.cell? ⟨w.heap.size, 2, none⟩ = some (.int .i64 m) ∧ wX.cell? ⟨w.heap.size, 3, none⟩ = some (.int .i64 n) ∧ w.heap.size + 1 < wX.heap.size ∧ RC wX ⟨w.heap.size + 1, 0, none⟩ ∧ Below w.heap.size w wX) : ∃ b : Bool, wX.cell? ⟨w.heap.size + 1, 0, none⟩ = some (.bool b) ∧ wX.frozen? ⟨w.heap.size + 1, 0, none⟩ = false := by
  obtain ⟨g0, g1, g2, g3, g4, ⟨⟨b', g5⟩, g6⟩, g7⟩ := h
  exact ⟨b', g5, g6⟩
theorem tS_bel {x y m n : Int} {w wX : World} (h : wX.cell? ⟨w.heap.size, 0, none⟩ = some (.int .i64 x) ∧ wX.cell? ⟨w.heap.size, 1, none⟩ = some (.int .i64 y) ∧ wX.cell? ⟨w.heap.size, 2, none⟩ = some (.int .i64 m) ∧ wX.cell? ⟨w.heap.size, 3, none⟩ = some (.int .i64 n) ∧ w.heap.size + 1 < wX.heap.size ∧ RC wX ⟨w.heap.size + 1, 0, none⟩ ∧ Below w.heap.size w wX) : Below w.heap.size w wX := h.2.2.2.2.2.2

theorem area_as (x y m n : Int) (w : World) (hr : rightB x y m n = true) :
    Calls Try.prog 20 #[.agg #[.int .i64 x, .int .i64 y, .int .i64 m, .int .i64 n]] w fun e w' => e = .returned (.int .i64 (m * n)) ∧ Below w.heap.size w w' := by
  have := area_any x y m n w
  rwa [show areaV x y m n = m * n by simp [areaV, hr]] at this

theorem keep4 {A : Nat} {a b c d : Int} {W w1 : World} (hA : A < W.heap.size) (h : Below W.heap.size W w1) (hW : W.cell? ⟨A, 0, none⟩ = some (.int .i64 a) ∧ W.cell? ⟨A, 1, none⟩ = some (.int .i64 b) ∧ W.cell? ⟨A, 2, none⟩ = some (.int .i64 c) ∧ W.cell? ⟨A, 3, none⟩ = some (.int .i64 d)) : w1.cell? ⟨A, 0, none⟩ = some (.int .i64 a) ∧ w1.cell? ⟨A, 1, none⟩ = some (.int .i64 b) ∧ w1.cell? ⟨A, 2, none⟩ = some (.int .i64 c) ∧ w1.cell? ⟨A, 3, none⟩ = some (.int .i64 d) ∧ Below W.heap.size W w1 := by
  have e : ∀ b o, b < W.heap.size → w1.cell? ⟨b, o, none⟩ = W.cell? ⟨b, o, none⟩ := fun b o hb => h.cell (p := ⟨b, o, none⟩) hb
  simp only [e A _ hA]
  obtain ⟨g0, g1, g2, g3⟩ := hW
  exact ⟨g0, g1, g2, g3, h⟩
theorem last4 {A : Nat} {a b c d : Int} {W wX : World} (h : wX.cell? ⟨A, 0, none⟩ = some (.int .i64 a) ∧ wX.cell? ⟨A, 1, none⟩ = some (.int .i64 b) ∧ wX.cell? ⟨A, 2, none⟩ = some (.int .i64 c) ∧ wX.cell? ⟨A, 3, none⟩ = some (.int .i64 d) ∧ Below W.heap.size W wX) : Below W.heap.size W wX := h.2.2.2.2
theorem more4 {A : Nat} {a b c d : Int} {W wX w1 : World} (k : Below wX.heap.size wX w1) (h : wX.cell? ⟨A, 0, none⟩ = some (.int .i64 a) ∧ wX.cell? ⟨A, 1, none⟩ = some (.int .i64 b) ∧ wX.cell? ⟨A, 2, none⟩ = some (.int .i64 c) ∧ wX.cell? ⟨A, 3, none⟩ = some (.int .i64 d) ∧ Below W.heap.size W wX) : Below W.heap.size W w1 := bstep h.2.2.2.2 k

set_option maxRecDepth 100000 in
set_option maxHeartbeats 1000000 in
theorem lawTiles_no (x y m n i k : Int) (w : World) (hi : i ≤ 9223372036854775807) (hk : k ≤ 9223372036854775807) (hr : rightB x y m n = false) :
    Calls Try.prog 6 #[.agg #[.int .i64 x, .int .i64 y, .int .i64 m, .int .i64 n], .int .i64 i, .int .i64 k] w fun e w' => e = .returned (.bool true) ∧ Below w.heap.size w w' := by
  have ha : areaV x y m n = 0 := by simp [areaV, hr]
  go_enter Try.func6, Try.ntmps6
  go_wp2_with fail
  refine (ref_any _ _ _ _ _).mono ?_
  rintro e w1 ⟨rfl, hbw1⟩
  obtain ⟨hcw1, hfw1⟩ := bcell hbw1
  have hsw1 := hbw1.size
  try simp at hcw1 hfw1 hsw1
  have lw1_0 : w.heap.size < w1.heap.size := by omega
  have lw1_1 : w.heap.size + 1 < w1.heap.size := by omega
  go_wp2_with fail
  refine (refRight_any _ _ _ _ _).mono ?_
  rintro e w2 ⟨rfl, hbw2⟩
  obtain ⟨hcw2, hfw2⟩ := bcell hbw2
  have hsw2 := hbw2.size
  try simp at hcw2 hfw2 hsw2
  have lw2_0 : w.heap.size < w2.heap.size := by omega
  have lw2_1 : w.heap.size + 1 < w2.heap.size := by omega
  go_upto_region 2 with fail
  have hS : w2.cell? ⟨w.heap.size, 0, none⟩ = some (.int .i64 x) ∧ w2.cell? ⟨w.heap.size, 1, none⟩ = some (.int .i64 y) ∧ w2.cell? ⟨w.heap.size, 2, none⟩ = some (.int .i64 m) ∧ w2.cell? ⟨w.heap.size, 3, none⟩ = some (.int .i64 n) ∧ w2.cell? ⟨w.heap.size + 1, 0, none⟩ = some (.bool false) ∧ w2.frozen? ⟨w.heap.size + 1, 0, none⟩ = false := by simp [go_sem, hcw1, hcw2, hfw1, hfw2, lw1_0, lw1_1]
  obtain ⟨g0, g1, g2, g3, g4, g5⟩ := hS
  have hS2 := And.intro g0 (And.intro g1 (And.intro g2 g3))
  have hbw : Below w.heap.size w w2 := by
    repeat' (first | with_reducible assumption | with_reducible refine Below.setCell ?_ ?_ _ | with_reducible refine below_drewN ?_ _ | with_reducible refine Below.drew ?_ | with_reducible refine balloc ?_ _ | with_reducible exact Below.refl _ _ | with_reducible refine bstep ?_ (by assumption) | with_reducible refine Below.alloc ?_ ?_ _ | with_reducible refine bthrough ?_ (by assumption) ?_)
    all_goals (first | omega | (simp; done) | (simp; omega))
  clear hcw1 hfw1 hcw2 hfw2 hbw1 hbw2
  go_cut [30] (fun s30 wx => s30 = .bool false ∧ wx.cell? ⟨w.heap.size, 0, none⟩ = some (.int .i64 x) ∧ wx.cell? ⟨w.heap.size, 1, none⟩ = some (.int .i64 y) ∧ wx.cell? ⟨w.heap.size, 2, none⟩ = some (.int .i64 m) ∧ wx.cell? ⟨w.heap.size, 3, none⟩ = some (.int .i64 n) ∧ Below w2.heap.size w2 wx)
  case first =>
    go_region_held3 (fun w' => w'.cell? ⟨w.heap.size, 0, none⟩ = some (.int .i64 x) ∧ w'.cell? ⟨w.heap.size, 1, none⟩ = some (.int .i64 y) ∧ w'.cell? ⟨w.heap.size, 2, none⟩ = some (.int .i64 m) ∧ w'.cell? ⟨w.heap.size, 3, none⟩ = some (.int .i64 n) ∧ Below w2.heap.size w2 w') (first | exact keep4 lw2_0 (Below.refl _ _) hS2 | exact keep4 lw2_0 (Below.refl _ _).drew hS2 | exact keep4 lw2_0 (more4 (by assumption) (by assumption)) hS2)
      (first
      | (go_at_call 9; refine (ref_any _ _ _ _ _).mono ?_; rintro e wq ⟨rfl, hbq⟩)
      | (go_at_call 16; refine (right_any _ _ _ _ _).mono ?_; rintro e wq ⟨rfl, hbq⟩)
      | (go_at_call 15; refine (holds_any _ _ _ _ _ _ _).mono ?_; rintro e wq ⟨rfl, hbq⟩)
      | (go_at_call 19; refine (refHolds_as _ _ _ _ _ _ _ hi hk).mono ?_; rintro e wq ⟨rfl, hbq⟩)
      | (go_at_call 20; refine (area_any _ _ _ _ _).mono ?_; rintro e wq ⟨rfl, hbq⟩)
      | (go_at_call 10; refine (awake_any _).mono ?_; rintro e wq ⟨rfl, hbq⟩))
    all_goals go_wp2_with fail
    all_goals go_meet
    all_goals exact ⟨rfl, by assumption⟩
  case rest =>
    obtain ⟨rfl, h0, h1, h2, h3, hbc⟩ := hcut
    have hsc := hbc.size
    have h4 : wc.cell? ⟨w.heap.size + 1, 0, none⟩ = some (.bool false) := (hbc.cell (p := ⟨w.heap.size + 1, 0, none⟩) lw2_1).trans g4
    have h5 : wc.frozen? ⟨w.heap.size + 1, 0, none⟩ = false := (hbc.frozen (p := ⟨w.heap.size + 1, 0, none⟩) lw2_1).trans g5
    have lwc_0 : w.heap.size < wc.heap.size := by omega
    have lwc_1 : w.heap.size + 1 < wc.heap.size := by omega
    have hbv : Below w.heap.size w wc := bstep hbw hbc
    clear g0 g1 g2 g3 g4 g5 hS2 hbc hbw
    go_wp2_with fail
    refine (area_any _ _ _ _ _).mono ?_
    rintro e w3 ⟨rfl, hbw3⟩
    obtain ⟨hcw3, hfw3⟩ := bcell hbw3
    have hsw3 := hbw3.size
    try simp at hcw3 hfw3 hsw3
    have lw3_0 : w.heap.size < w3.heap.size := by omega
    have lw3_1 : w.heap.size + 1 < w3.heap.size := by omega
    rw [ha]
    go_wp2_with fail
    refine (count_no _ _ _ _ _ hr).mono ?_
    rintro e w4 ⟨rfl, hbw4⟩
    obtain ⟨hcw4, hfw4⟩ := bcell hbw4
    have hsw4 := hbw4.size
    try simp at hcw4 hfw4 hsw4
    have lw4_0 : w.heap.size < w4.heap.size := by omega
    have lw4_1 : w.heap.size + 1 < w4.heap.size := by omega
    go_wp2_with fail
    refine (awake_any _).mono ?_
    rintro e w5 ⟨rfl, hbw5⟩
    obtain ⟨hcw5, hfw5⟩ := bcell hbw5
    have hsw5 := hbw5.size
    try simp at hcw5 hfw5 hsw5
    have lw5_0 : w.heap.size < w5.heap.size := by omega
    have lw5_1 : w.heap.size + 1 < w5.heap.size := by omega
    go_wp2
    refine bodyPost_ret (v := .bool true) (by simp [results, Try.results6, go_sem, *]) rfl ⟨rfl, ?_⟩
    repeat' (first | with_reducible assumption | with_reducible refine Below.setCell ?_ ?_ _ | with_reducible refine below_drewN ?_ _ | with_reducible refine Below.drew ?_ | with_reducible refine balloc ?_ _ | with_reducible exact Below.refl _ _ | with_reducible refine bstep ?_ (by assumption) | with_reducible refine Below.alloc ?_ ?_ _ | with_reducible refine bthrough ?_ (by assumption) ?_)
    all_goals (first | omega | (simp; done) | (simp; omega))

set_option maxRecDepth 100000 in
set_option maxHeartbeats 1000000 in
theorem lawTiles_big (x y m n i k : Int) (w : World) (hi : i ≤ 9223372036854775807) (hk : k ≤ 9223372036854775807) (hr : rightB x y m n = true) (hs : smallB x y m n = false) :
    Calls Try.prog 6 #[.agg #[.int .i64 x, .int .i64 y, .int .i64 m, .int .i64 n], .int .i64 i, .int .i64 k] w fun e w' => e = .returned (.bool true) ∧ Below w.heap.size w w' := by
  have ha : areaV x y m n = m * n := by simp [areaV, hr]
  have hq := areaV_bd x y m n
  rw [ha] at hq
  obtain ⟨q1, q2⟩ := hq
  have HA := hid ha
  clear ha
  go_enter Try.func6, Try.ntmps6
  go_wp2_with fail
  refine (ref_any _ _ _ _ _).mono ?_
  rintro e w1 ⟨rfl, hbw1⟩
  obtain ⟨hcw1, hfw1⟩ := bcell hbw1
  have hsw1 := hbw1.size
  try simp at hcw1 hfw1 hsw1
  have lw1_0 : w.heap.size < w1.heap.size := by omega
  have lw1_1 : w.heap.size + 1 < w1.heap.size := by omega
  go_wp2_with fail
  refine (refRight_any _ _ _ _ _).mono ?_
  rintro e w2 ⟨rfl, hbw2⟩
  obtain ⟨hcw2, hfw2⟩ := bcell hbw2
  have hsw2 := hbw2.size
  try simp at hcw2 hfw2 hsw2
  have lw2_0 : w.heap.size < w2.heap.size := by omega
  have lw2_1 : w.heap.size + 1 < w2.heap.size := by omega
  go_upto_region 2 with fail
  have hS : w2.cell? ⟨w.heap.size, 0, none⟩ = some (.int .i64 x) ∧ w2.cell? ⟨w.heap.size, 1, none⟩ = some (.int .i64 y) ∧ w2.cell? ⟨w.heap.size, 2, none⟩ = some (.int .i64 m) ∧ w2.cell? ⟨w.heap.size, 3, none⟩ = some (.int .i64 n) ∧ w2.cell? ⟨w.heap.size + 1, 0, none⟩ = some (.bool false) ∧ w2.frozen? ⟨w.heap.size + 1, 0, none⟩ = false := by simp [go_sem, hcw1, hcw2, hfw1, hfw2, lw1_0, lw1_1]
  obtain ⟨g0, g1, g2, g3, g4, g5⟩ := hS
  have hS2 := And.intro g0 (And.intro g1 (And.intro g2 g3))
  have hbw : Below w.heap.size w w2 := by
    repeat' (first | with_reducible assumption | with_reducible refine Below.setCell ?_ ?_ _ | with_reducible refine below_drewN ?_ _ | with_reducible refine Below.drew ?_ | with_reducible refine balloc ?_ _ | with_reducible exact Below.refl _ _ | with_reducible refine bstep ?_ (by assumption) | with_reducible refine Below.alloc ?_ ?_ _ | with_reducible refine bthrough ?_ (by assumption) ?_)
    all_goals (first | omega | (simp; done) | (simp; omega))
  clear hcw1 hfw1 hcw2 hfw2 hbw1 hbw2
  go_cut [30] (fun s30 wx => s30 = .bool false ∧ wx.cell? ⟨w.heap.size, 0, none⟩ = some (.int .i64 x) ∧ wx.cell? ⟨w.heap.size, 1, none⟩ = some (.int .i64 y) ∧ wx.cell? ⟨w.heap.size, 2, none⟩ = some (.int .i64 m) ∧ wx.cell? ⟨w.heap.size, 3, none⟩ = some (.int .i64 n) ∧ Below w2.heap.size w2 wx)
  case first =>
    go_region_held3 (fun w' => w'.cell? ⟨w.heap.size, 0, none⟩ = some (.int .i64 x) ∧ w'.cell? ⟨w.heap.size, 1, none⟩ = some (.int .i64 y) ∧ w'.cell? ⟨w.heap.size, 2, none⟩ = some (.int .i64 m) ∧ w'.cell? ⟨w.heap.size, 3, none⟩ = some (.int .i64 n) ∧ Below w2.heap.size w2 w') (first | exact keep4 lw2_0 (Below.refl _ _) hS2 | exact keep4 lw2_0 (Below.refl _ _).drew hS2 | exact keep4 lw2_0 (more4 (by assumption) (by assumption)) hS2)
      (first
      | (go_at_call 9; refine (ref_any _ _ _ _ _).mono ?_; rintro e wq ⟨rfl, hbq⟩)
      | (go_at_call 16; refine (right_any _ _ _ _ _).mono ?_; rintro e wq ⟨rfl, hbq⟩)
      | (go_at_call 15; refine (holds_any _ _ _ _ _ _ _).mono ?_; rintro e wq ⟨rfl, hbq⟩)
      | (go_at_call 19; refine (refHolds_as _ _ _ _ _ _ _ hi hk).mono ?_; rintro e wq ⟨rfl, hbq⟩)
      | (go_at_call 20; refine (area_any _ _ _ _ _).mono ?_; rintro e wq ⟨rfl, hbq⟩)
      | (go_at_call 10; refine (awake_any _).mono ?_; rintro e wq ⟨rfl, hbq⟩))
    all_goals go_wp2_with fail
    all_goals go_meet
    all_goals exact ⟨rfl, by assumption⟩
  case rest =>
    obtain ⟨rfl, h0, h1, h2, h3, hbc⟩ := hcut
    have hsc := hbc.size
    have h4 : wc.cell? ⟨w.heap.size + 1, 0, none⟩ = some (.bool false) := (hbc.cell (p := ⟨w.heap.size + 1, 0, none⟩) lw2_1).trans g4
    have h5 : wc.frozen? ⟨w.heap.size + 1, 0, none⟩ = false := (hbc.frozen (p := ⟨w.heap.size + 1, 0, none⟩) lw2_1).trans g5
    have lwc_0 : w.heap.size < wc.heap.size := by omega
    have lwc_1 : w.heap.size + 1 < wc.heap.size := by omega
    have hbv : Below w.heap.size w wc := bstep hbw hbc
    clear g0 g1 g2 g3 g4 g5 hS2 hbc hbw
    go_wp2_with fail
    refine (small_any _ _ _ _ _).mono ?_
    rintro e w3 ⟨rfl, hbw3⟩
    obtain ⟨hcw3, hfw3⟩ := bcell hbw3
    have hsw3 := hbw3.size
    try simp at hcw3 hfw3 hsw3
    have lw3_0 : w.heap.size < w3.heap.size := by omega
    have lw3_1 : w.heap.size + 1 < w3.heap.size := by omega
    go_wp2_with fail
    have hS3 : w3.cell? ⟨w.heap.size, 0, none⟩ = some (.int .i64 x) ∧ w3.cell? ⟨w.heap.size, 1, none⟩ = some (.int .i64 y) ∧ w3.cell? ⟨w.heap.size, 2, none⟩ = some (.int .i64 m) ∧ w3.cell? ⟨w.heap.size, 3, none⟩ = some (.int .i64 n) ∧ w.heap.size + 1 < w3.heap.size ∧ RC w3 ⟨w.heap.size + 1, 0, none⟩ ∧ Below w.heap.size w w3 := tS_call ⟨h0, h1, h2, h3, lwc_1, ⟨⟨_, h4⟩, h5⟩, hbv⟩ hbw3
    have hwr : IntKind.i64.wrap (m * n) = m * n := IntWalk.i64_in _ (by omega)
    go_region_held3 (fun w' => w'.cell? ⟨w.heap.size, 0, none⟩ = some (.int .i64 x) ∧ w'.cell? ⟨w.heap.size, 1, none⟩ = some (.int .i64 y) ∧ w'.cell? ⟨w.heap.size, 2, none⟩ = some (.int .i64 m) ∧ w'.cell? ⟨w.heap.size, 3, none⟩ = some (.int .i64 n) ∧ w.heap.size + 1 < w'.heap.size ∧ RC w' ⟨w.heap.size + 1, 0, none⟩ ∧ Below w.heap.size w w') (first | exact hS3 | exact tS_drew hS3 | exact tS_call (by assumption) (by assumption) | exact tS_set (by assumption) _)
      (first
        | (go_at_call 20; refine (area_as _ _ _ _ _ hr).mono ?_; rintro e wq ⟨rfl, hbq⟩)
        | (go_at_call 10; refine (awake_any _).mono ?_; rintro e wq ⟨rfl, hbq⟩; obtain ⟨bb, hbb, hff⟩ := tS_rc (x := x) (y := y) (m := m) (n := n) (tS_call (by assumption) hbq)))
    go_wp2
    refine bodyPost_ret (v := .bool true) (by simp [results, Try.results6, go_sem, hbb]) rfl ⟨rfl, ?_⟩
    exact tS_bel (by assumption)

theorem tU_lt {x y : Int} {M N D G : Nat} {w wX : World} (h : wX.cell? ⟨w.heap.size, 0, none⟩ = some (.int .i64 x) ∧ wX.cell? ⟨w.heap.size, 1, none⟩ = some (.int .i64 y) ∧ wX.cell? ⟨w.heap.size, 2, none⟩ = some (.int .i64 (M : Int)) ∧ wX.cell? ⟨w.heap.size, 3, none⟩ = some (.int .i64 (N : Int)) ∧ wX.cell? ⟨G, 0, none⟩ = some (.int .i64 ((M : Int) * (N : Int))) ∧ RC wX ⟨w.heap.size + 1, 0, none⟩ ∧ wX.heap[D]? = some (.deferred (some [])) ∧ Below w.heap.size w wX) : D < wX.heap.size := (Array.getElem?_eq_some_iff.1 h.2.2.2.2.2.2.1).1
theorem tU_call {x y : Int} {M N D G : Nat} {w wX wq : World} (hG : G < D) (hD : w.heap.size + 1 < D) (h : wX.cell? ⟨w.heap.size, 0, none⟩ = some (.int .i64 x) ∧ wX.cell? ⟨w.heap.size, 1, none⟩ = some (.int .i64 y) ∧ wX.cell? ⟨w.heap.size, 2, none⟩ = some (.int .i64 (M : Int)) ∧ wX.cell? ⟨w.heap.size, 3, none⟩ = some (.int .i64 (N : Int)) ∧ wX.cell? ⟨G, 0, none⟩ = some (.int .i64 ((M : Int) * (N : Int))) ∧ RC wX ⟨w.heap.size + 1, 0, none⟩ ∧ wX.heap[D]? = some (.deferred (some [])) ∧ Below w.heap.size w wX) (k : Below wX.heap.size wX wq) : wq.cell? ⟨w.heap.size, 0, none⟩ = some (.int .i64 x) ∧ wq.cell? ⟨w.heap.size, 1, none⟩ = some (.int .i64 y) ∧ wq.cell? ⟨w.heap.size, 2, none⟩ = some (.int .i64 (M : Int)) ∧ wq.cell? ⟨w.heap.size, 3, none⟩ = some (.int .i64 (N : Int)) ∧ wq.cell? ⟨G, 0, none⟩ = some (.int .i64 ((M : Int) * (N : Int))) ∧ RC wq ⟨w.heap.size + 1, 0, none⟩ ∧ wq.heap[D]? = some (.deferred (some [])) ∧ Below w.heap.size w wq := by
  have hlt := tU_lt h
  obtain ⟨g0, g1, g2, g3, g4, ⟨⟨b, g5⟩, g6⟩, g7, g8⟩ := h
  have e : ∀ q o, q < D → wq.cell? ⟨q, o, none⟩ = wX.cell? ⟨q, o, none⟩ := fun q o hq => k.cell (p := ⟨q, o, none⟩) (by show q < _; omega)
  exact ⟨(e _ _ (by omega)).trans g0, (e _ _ (by omega)).trans g1, (e _ _ (by omega)).trans g2, (e _ _ (by omega)).trans g3, (e _ _ hG).trans g4, ⟨⟨b, (e _ _ hD).trans g5⟩, (k.frozen (p := ⟨w.heap.size + 1, 0, none⟩) (by show w.heap.size + 1 < _; omega)).trans g6⟩, (k.block D hlt).trans g7, bstep g8 k⟩
theorem tU_drew {x y : Int} {M N D G : Nat} {w wX : World} (h : wX.cell? ⟨w.heap.size, 0, none⟩ = some (.int .i64 x) ∧ wX.cell? ⟨w.heap.size, 1, none⟩ = some (.int .i64 y) ∧ wX.cell? ⟨w.heap.size, 2, none⟩ = some (.int .i64 (M : Int)) ∧ wX.cell? ⟨w.heap.size, 3, none⟩ = some (.int .i64 (N : Int)) ∧ wX.cell? ⟨G, 0, none⟩ = some (.int .i64 ((M : Int) * (N : Int))) ∧ RC wX ⟨w.heap.size + 1, 0, none⟩ ∧ wX.heap[D]? = some (.deferred (some [])) ∧ Below w.heap.size w wX) : wX.drew.cell? ⟨w.heap.size, 0, none⟩ = some (.int .i64 x) ∧ wX.drew.cell? ⟨w.heap.size, 1, none⟩ = some (.int .i64 y) ∧ wX.drew.cell? ⟨w.heap.size, 2, none⟩ = some (.int .i64 (M : Int)) ∧ wX.drew.cell? ⟨w.heap.size, 3, none⟩ = some (.int .i64 (N : Int)) ∧ wX.drew.cell? ⟨G, 0, none⟩ = some (.int .i64 ((M : Int) * (N : Int))) ∧ RC wX.drew ⟨w.heap.size + 1, 0, none⟩ ∧ wX.drew.heap[D]? = some (.deferred (some [])) ∧ Below w.heap.size w wX.drew := by
  obtain ⟨g0, g1, g2, g3, g4, g5, g6, g7⟩ := h
  exact ⟨g0, g1, g2, g3, g4, g5, g6, g7.drew⟩
theorem tU_set {x y : Int} {M N D G : Nat} {w wX : World} (hG : w.heap.size + 1 < G) (hD : w.heap.size + 1 < D) (h : wX.cell? ⟨w.heap.size, 0, none⟩ = some (.int .i64 x) ∧ wX.cell? ⟨w.heap.size, 1, none⟩ = some (.int .i64 y) ∧ wX.cell? ⟨w.heap.size, 2, none⟩ = some (.int .i64 (M : Int)) ∧ wX.cell? ⟨w.heap.size, 3, none⟩ = some (.int .i64 (N : Int)) ∧ wX.cell? ⟨G, 0, none⟩ = some (.int .i64 ((M : Int) * (N : Int))) ∧ RC wX ⟨w.heap.size + 1, 0, none⟩ ∧ wX.heap[D]? = some (.deferred (some [])) ∧ Below w.heap.size w wX) (b : Bool) : (wX.setCell ⟨w.heap.size + 1, 0, none⟩ (.bool b)).cell? ⟨w.heap.size, 0, none⟩ = some (.int .i64 x) ∧ (wX.setCell ⟨w.heap.size + 1, 0, none⟩ (.bool b)).cell? ⟨w.heap.size, 1, none⟩ = some (.int .i64 y) ∧ (wX.setCell ⟨w.heap.size + 1, 0, none⟩ (.bool b)).cell? ⟨w.heap.size, 2, none⟩ = some (.int .i64 (M : Int)) ∧ (wX.setCell ⟨w.heap.size + 1, 0, none⟩ (.bool b)).cell? ⟨w.heap.size, 3, none⟩ = some (.int .i64 (N : Int)) ∧ (wX.setCell ⟨w.heap.size + 1, 0, none⟩ (.bool b)).cell? ⟨G, 0, none⟩ = some (.int .i64 ((M : Int) * (N : Int))) ∧ RC (wX.setCell ⟨w.heap.size + 1, 0, none⟩ (.bool b)) ⟨w.heap.size + 1, 0, none⟩ ∧ (wX.setCell ⟨w.heap.size + 1, 0, none⟩ (.bool b)).heap[D]? = some (.deferred (some [])) ∧ Below w.heap.size w (wX.setCell ⟨w.heap.size + 1, 0, none⟩ (.bool b)) := by
  obtain ⟨g0, g1, g2, g3, g4, ⟨⟨b', g5⟩, g6⟩, g7, g8⟩ := h
  have e : ∀ q o, q ≠ w.heap.size + 1 → (wX.setCell ⟨w.heap.size + 1, 0, none⟩ (.bool b)).cell? ⟨q, o, none⟩ = wX.cell? ⟨q, o, none⟩ := fun q o hq => World.cell?_setCell_other _ _ _ _ (by intro h; injection h with h; omega)
  exact ⟨(e _ _ (by omega)).trans g0, (e _ _ (by omega)).trans g1, (e _ _ (by omega)).trans g2, (e _ _ (by omega)).trans g3, (e _ _ (by omega)).trans g4, ⟨⟨b, World.cell?_setCell_same' _ _ _ (by rw [g5]; rfl)⟩, by rw [World.frozen?_setCell]; exact g6⟩, (Below.heap_setCell wX _ _ D (by show D ≠ w.heap.size + 1; omega)).trans g7, g8.setCell (by simp) _⟩
theorem tU_rc {x y : Int} {M N D G : Nat} {w wX : World} (h : wX.cell? ⟨w.heap.size, 0, none⟩ = some (.int .i64 x) ∧ wX.cell? ⟨w.heap.size, 1, none⟩ = some (.int .i64 y) ∧ wX.cell? ⟨w.heap.size, 2, none⟩ = some (.int .i64 (M : Int)) ∧ wX.cell? ⟨w.heap.size, 3, none⟩ = some (.int .i64 (N : Int)) ∧ wX.cell? ⟨G, 0, none⟩ = some (.int .i64 ((M : Int) * (N : Int))) ∧ RC wX ⟨w.heap.size + 1, 0, none⟩ ∧ wX.heap[D]? = some (.deferred (some [])) ∧ Below w.heap.size w wX) : ∃ b : Bool, wX.cell? ⟨w.heap.size + 1, 0, none⟩ = some (.bool b) ∧ wX.frozen? ⟨w.heap.size + 1, 0, none⟩ = false := by
  obtain ⟨g0, g1, g2, g3, g4, ⟨⟨b', g5⟩, g6⟩, g7⟩ := h
  exact ⟨b', g5, g6⟩
theorem tU_dfr {x y : Int} {M N D G : Nat} {w wX : World} (h : wX.cell? ⟨w.heap.size, 0, none⟩ = some (.int .i64 x) ∧ wX.cell? ⟨w.heap.size, 1, none⟩ = some (.int .i64 y) ∧ wX.cell? ⟨w.heap.size, 2, none⟩ = some (.int .i64 (M : Int)) ∧ wX.cell? ⟨w.heap.size, 3, none⟩ = some (.int .i64 (N : Int)) ∧ wX.cell? ⟨G, 0, none⟩ = some (.int .i64 ((M : Int) * (N : Int))) ∧ RC wX ⟨w.heap.size + 1, 0, none⟩ ∧ wX.heap[D]? = some (.deferred (some [])) ∧ Below w.heap.size w wX) : wX.heap[D]? = some (.deferred (some [])) ∧ Below w.heap.size w wX := ⟨h.2.2.2.2.2.2.1, h.2.2.2.2.2.2.2⟩

set_option maxRecDepth 100000 in
set_option maxHeartbeats 1000000 in
theorem lawTiles_small (x y : Int) (M N : Nat) (i k : Int) (w : World) (hi : i ≤ 9223372036854775807) (hk : k ≤ 9223372036854775807) (hr : rightB x y (M : Int) (N : Int) = true) (hs : smallB x y (M : Int) (N : Int) = true) :
    Calls Try.prog 6 #[.agg #[.int .i64 x, .int .i64 y, .int .i64 ((M : Int)), .int .i64 ((N : Int))], .int .i64 i, .int .i64 k] w fun e w' => e = .returned (.bool true) ∧ Below w.heap.size w w' := by
  obtain ⟨⟨a1, a2, a3, a4⟩, a5, a6, a7, a8⟩ := of_rightB hr
  refine (callsIn_wide (n := 9)).1 ?_
  refine callsIn_of_wp_marks Try.func6 rfl trivial ?_ rfl
  simp only [Try.ntmps6, List.size_toArray, List.length_cons, List.length_nil, Nat.reduceAdd, Nat.reduceSub, Array.replicate_succ, Array.replicate_zero, List.push_toArray, List.append_toArray, List.nil_append, List.cons_append]
  refine wpIn_wide.2 ?_
  go_wp2_with fail
  refine (ref_any _ _ _ _ _).mono ?_
  rintro e w1 ⟨rfl, hbw1⟩
  obtain ⟨hcw1, hfw1⟩ := bcell hbw1
  have hsw1 := hbw1.size
  try simp at hcw1 hfw1 hsw1
  have lw1_0 : w.heap.size < w1.heap.size := by omega
  have lw1_1 : w.heap.size + 1 < w1.heap.size := by omega
  go_wp2_with fail
  refine (refRight_any _ _ _ _ _).mono ?_
  rintro e w2 ⟨rfl, hbw2⟩
  obtain ⟨hcw2, hfw2⟩ := bcell hbw2
  have hsw2 := hbw2.size
  try simp at hcw2 hfw2 hsw2
  have lw2_0 : w.heap.size < w2.heap.size := by omega
  have lw2_1 : w.heap.size + 1 < w2.heap.size := by omega
  go_upto_region 2 with fail
  have hS : w2.cell? ⟨w.heap.size, 0, none⟩ = some (.int .i64 x) ∧ w2.cell? ⟨w.heap.size, 1, none⟩ = some (.int .i64 y) ∧ w2.cell? ⟨w.heap.size, 2, none⟩ = some (.int .i64 (M : Int)) ∧ w2.cell? ⟨w.heap.size, 3, none⟩ = some (.int .i64 (N : Int)) ∧ w2.cell? ⟨w.heap.size + 1, 0, none⟩ = some (.bool false) ∧ w2.frozen? ⟨w.heap.size + 1, 0, none⟩ = false := by simp [go_sem, hcw1, hcw2, hfw1, hfw2, lw1_0, lw1_1]
  obtain ⟨g0, g1, g2, g3, g4, g5⟩ := hS
  have hS2 := And.intro g0 (And.intro g1 (And.intro g2 g3))
  have hbw : Below w.heap.size w w2 := by
    repeat' (first | with_reducible assumption | with_reducible refine Below.setCell ?_ ?_ _ | with_reducible refine below_drewN ?_ _ | with_reducible refine Below.drew ?_ | with_reducible refine balloc ?_ _ | with_reducible exact Below.refl _ _ | with_reducible refine bstep ?_ (by assumption) | with_reducible refine Below.alloc ?_ ?_ _ | with_reducible refine bthrough ?_ (by assumption) ?_)
    all_goals (first | omega | (simp; done) | (simp; omega))
  clear hcw1 hfw1 hcw2 hfw2 hbw1 hbw2
  go_cut [30] from 15 to 30 (fun s30 wx => s30 = .bool false ∧ wx.cell? ⟨w.heap.size, 0, none⟩ = some (.int .i64 x) ∧ wx.cell? ⟨w.heap.size, 1, none⟩ = some (.int .i64 y) ∧ wx.cell? ⟨w.heap.size, 2, none⟩ = some (.int .i64 (M : Int)) ∧ wx.cell? ⟨w.heap.size, 3, none⟩ = some (.int .i64 (N : Int)) ∧ Below w2.heap.size w2 wx)
  case first =>
    go_region_held3 (fun w' => w'.cell? ⟨w.heap.size, 0, none⟩ = some (.int .i64 x) ∧ w'.cell? ⟨w.heap.size, 1, none⟩ = some (.int .i64 y) ∧ w'.cell? ⟨w.heap.size, 2, none⟩ = some (.int .i64 (M : Int)) ∧ w'.cell? ⟨w.heap.size, 3, none⟩ = some (.int .i64 (N : Int)) ∧ Below w2.heap.size w2 w') (first | exact keep4 lw2_0 (Below.refl _ _) hS2 | exact keep4 lw2_0 (Below.refl _ _).drew hS2 | exact keep4 lw2_0 (more4 (by assumption) (by assumption)) hS2)
      (first
      | (go_at_call 9; refine (ref_any _ _ _ _ _).mono ?_; rintro e wq ⟨rfl, hbq⟩)
      | (go_at_call 16; refine (right_any _ _ _ _ _).mono ?_; rintro e wq ⟨rfl, hbq⟩)
      | (go_at_call 15; refine (holds_any _ _ _ _ _ _ _).mono ?_; rintro e wq ⟨rfl, hbq⟩)
      | (go_at_call 19; refine (refHolds_as _ _ _ _ _ _ _ hi hk).mono ?_; rintro e wq ⟨rfl, hbq⟩)
      | (go_at_call 20; refine (area_any _ _ _ _ _).mono ?_; rintro e wq ⟨rfl, hbq⟩)
      | (go_at_call 10; refine (awake_any _).mono ?_; rintro e wq ⟨rfl, hbq⟩))
    all_goals go_wp2_with fail
    all_goals go_meet
    all_goals exact ⟨rfl, by assumption⟩
  case rest =>
    obtain ⟨rfl, h0, h1, h2, h3, hbc⟩ := hcut
    have hsc := hbc.size
    have h4 : wc.cell? ⟨w.heap.size + 1, 0, none⟩ = some (.bool false) := (hbc.cell (p := ⟨w.heap.size + 1, 0, none⟩) lw2_1).trans g4
    have h5 : wc.frozen? ⟨w.heap.size + 1, 0, none⟩ = false := (hbc.frozen (p := ⟨w.heap.size + 1, 0, none⟩) lw2_1).trans g5
    have lwc_0 : w.heap.size < wc.heap.size := by omega
    have lwc_1 : w.heap.size + 1 < wc.heap.size := by omega
    have hbv : Below w.heap.size w wc := bstep hbw hbc
    clear g0 g1 g2 g3 g4 g5 hS2 hbc hbw
    go_wp2_with fail
    refine (small_any _ _ _ _ _).mono ?_
    rintro e w3 ⟨rfl, hbw3⟩
    obtain ⟨hcw3, hfw3⟩ := bcell hbw3
    have hsw3 := hbw3.size
    try simp at hcw3 hfw3 hsw3
    have lw3_0 : w.heap.size < w3.heap.size := by omega
    have lw3_1 : w.heap.size + 1 < w3.heap.size := by omega
    rw [hs]
    have hnn := seq_not_nil
    go_wp2_with (go_at_call 23; refine (tiles_any _ _ _ _ _).mono ?_; rintro e w4 ⟨rfl, rfl⟩)
    have hB4 : Below w.heap.size w ((w3.alloc (.cells #[.int .i64 0] 3)).alloc (.cells #[.int .i64 x, .int .i64 y, .int .i64 (M : Int), .int .i64 (N : Int)] 23)) := balloc (balloc (bstep hbv hbw3) _) _
    have hsz : ((w3.alloc (.cells #[.int .i64 0] 3)).alloc (.cells #[.int .i64 x, .int .i64 y, .int .i64 (M : Int), .int .i64 (N : Int)] 23)).heap.size = w3.heap.size + 2 := by simp
    have hI0 : ([] : List (Int × Int)) = upto (tileF x y M) ([] : List (Int × Int)).length ∧ ([] : List (Int × Int)).length ≤ N * M ∧ ((w3.alloc (.cells #[.int .i64 0] 3)).alloc (.cells #[.int .i64 x, .int .i64 y, .int .i64 (M : Int), .int .i64 (N : Int)] 23)).cell? ⟨w3.heap.size, 0, none⟩ = some (.int .i64 (([] : List (Int × Int)).length : Int)) ∧ ((w3.alloc (.cells #[.int .i64 0] 3)).alloc (.cells #[.int .i64 x, .int .i64 y, .int .i64 (M : Int), .int .i64 (N : Int)] 23)).frozen? ⟨w3.heap.size, 0, none⟩ = false ∧ ((w3.alloc (.cells #[.int .i64 0] 3)).alloc (.cells #[.int .i64 x, .int .i64 y, .int .i64 (M : Int), .int .i64 (N : Int)] 23)).cell? ⟨w.heap.size, 0, none⟩ = some (.int .i64 x) ∧ ((w3.alloc (.cells #[.int .i64 0] 3)).alloc (.cells #[.int .i64 x, .int .i64 y, .int .i64 (M : Int), .int .i64 (N : Int)] 23)).cell? ⟨w.heap.size, 1, none⟩ = some (.int .i64 y) ∧ ((w3.alloc (.cells #[.int .i64 0] 3)).alloc (.cells #[.int .i64 x, .int .i64 y, .int .i64 (M : Int), .int .i64 (N : Int)] 23)).cell? ⟨w.heap.size, 2, none⟩ = some (.int .i64 (M : Int)) ∧ ((w3.alloc (.cells #[.int .i64 0] 3)).alloc (.cells #[.int .i64 x, .int .i64 y, .int .i64 (M : Int), .int .i64 (N : Int)] 23)).cell? ⟨w.heap.size, 3, none⟩ = some (.int .i64 (N : Int)) ∧ ((w3.alloc (.cells #[.int .i64 0] 3)).alloc (.cells #[.int .i64 x, .int .i64 y, .int .i64 (M : Int), .int .i64 (N : Int)] 23)).cell? ⟨w.heap.size + 1, 0, none⟩ = some (.bool false) ∧ ((w3.alloc (.cells #[.int .i64 0] 3)).alloc (.cells #[.int .i64 x, .int .i64 y, .int .i64 (M : Int), .int .i64 (N : Int)] 23)).frozen? ⟨w.heap.size + 1, 0, none⟩ = false := by
      refine ⟨rfl, Nat.zero_le _, by simp [go_sem], by simp [go_sem], by simp [go_sem, hcw3, lw3_0, lwc_0, h0], by simp [go_sem, hcw3, lw3_0, lwc_0, h1], by simp [go_sem, hcw3, lw3_0, lwc_0, h2], by simp [go_sem, hcw3, lw3_0, lwc_0, h3], ?_, ?_⟩
      ·
        simp [go_sem, hcw3, lw3_0, lw3_1, lwc_1, h4]
      · simp [go_sem, hfw3, lw3_0, lw3_1, lwc_1, h5]
    refine (wpIn_wide (n := 9)).1 ?_
    refine wpIn_rangeFunc_ownF rfl (by omega) (gf := 29) (lb := #[.pointer (some ⟨w3.heap.size + 1, 0, none⟩)]) rfl trivial (enters_of Try.func29 (by kernel_rfl) rfl)
      (tiles_stops_yes 8 (by omega) (w3.heap.size + 1) x y M N _ (by simp) hr (by simp [go_sem]) (by simp [go_sem]) (by simp [go_sem]) (by simp [go_sem])) keepB_t (keepB_b (by simp)) (Below.refl _ _) (fun _ => rfl)
      (fun (pre : List (Int × Int)) W => (pre = upto (tileF x y M) pre.length ∧ pre.length ≤ N * M ∧ W.cell? ⟨w3.heap.size, 0, none⟩ = some (.int .i64 (pre.length : Int)) ∧ W.frozen? ⟨w3.heap.size, 0, none⟩ = false ∧ W.cell? ⟨w.heap.size, 0, none⟩ = some (.int .i64 x) ∧ W.cell? ⟨w.heap.size, 1, none⟩ = some (.int .i64 y) ∧ W.cell? ⟨w.heap.size, 2, none⟩ = some (.int .i64 (M : Int)) ∧ W.cell? ⟨w.heap.size, 3, none⟩ = some (.int .i64 (N : Int)) ∧ W.cell? ⟨w.heap.size + 1, 0, none⟩ = some (.bool false) ∧ W.frozen? ⟨w.heap.size + 1, 0, none⟩ = false) ∧ Below w.heap.size w W)
      (fun c (pre : List (Int × Int)) _ => c = .ret ∧ ∃ (pre' : List (Int × Int)) (p : Int × Int), pre = pre' ++ [p] ∧ p ≠ tileF x y M pre'.length)
      (OwnFrom.and (Own.from (fun s A B row hs hg hr => ⟨hs.1, hs.2.1, cell_kept hs.2.2.1 hg hr, (frozen_kept hs.2.2.1 hg hr).trans hs.2.2.2.1, cell_kept hs.2.2.2.2.1 hg hr, cell_kept hs.2.2.2.2.2.1 hg hr, cell_kept hs.2.2.2.2.2.2.1 hg hr, cell_kept hs.2.2.2.2.2.2.2.1 hg hr, cell_kept hs.2.2.2.2.2.2.2.2.1 hg hr, (frozen_kept hs.2.2.2.2.2.2.2.2.1 hg hr).trans hs.2.2.2.2.2.2.2.2.2⟩) _) (ownFrom_below (Nat.le_refl _) (by rw [hsz]; omega)))
      (fun c s A B row hs hg hr => ⟨hs.1, hs.2⟩)
      ⟨hI0, hB4⟩
      (fun p => { tmps := #[(.agg #[.int .i64 x, .int .i64 y, .int .i64 (M : Int), .int .i64 (N : Int)]), .int .i64 i, .int .i64 k, .pointer (some ⟨w.heap.size, 0, none⟩), undef, undef, .pointer (some ⟨w.heap.size + 1, 0, none⟩), .bool true, .pointer (some ⟨w3.heap.size, 0, none⟩), (.func (.func 29) #[] #[.pointer (some ⟨w3.heap.size + 1, 0, none⟩)]), .int .i64 p.1, .int .i64 p.2, (.agg #[.int .i64 x, .int .i64 y, .int .i64 (M : Int), .int .i64 (N : Int)]), (.agg #[.int .i64 x, .int .i64 y, .int .i64 (M : Int), .int .i64 (N : Int)]), .bool true, u15, u16, u17, u18, u19, u20, u21, u22, u23, u24, u25, u26, u27, u28, u29, .bool false, .bool true, .bool false, undef, undef, undef, undef, undef, undef, undef, undef, undef, undef, undef, (.agg #[.int .i64 x, .int .i64 y, .int .i64 (M : Int), .int .i64 (N : Int)]), .bool true, .bool false, undef, undef, undef, undef, undef, undef, undef, undef, undef, undef, undef, (.agg #[.int .i64 x, .int .i64 y, .int .i64 (M : Int), .int .i64 (N : Int)]), (.func (.func 29) #[] #[.pointer (some ⟨w3.heap.size + 1, 0, none⟩)]), (.func (.func 29) #[] #[.pointer (some ⟨w3.heap.size + 1, 0, none⟩)]), .bool true, (.func (.func 29) #[] #[.pointer (some ⟨w3.heap.size + 1, 0, none⟩)]), .int .i64 p.1, .int .i64 p.2, undef, undef, undef, undef, undef, undef, undef, undef, undef, undef, undef, undef, undef, undef, undef, undef, undef, undef, undef, undef, undef, undef, undef, undef, undef, undef, undef, undef, undef, undef, undef, undef, undef, undef, undef, undef, undef, undef, undef, undef, undef, undef], defers := [] }) ?assign ?body ?done ?stop
    case assign =>
      intro l p W K hK
      gi_wp2
      exact hK
    case body =>
      rintro l pre p W ⟨⟨hp0, hp1, ca, fa, c0, c1, c2, c3, cr, fcr⟩, hB⟩ hlt
      obtain ⟨t, ht⟩ : ∃ t : Nat, t = pre.length := ⟨_, rfl⟩
      rw [← ht] at hp0 hp1 ca
      have HP := hid hp0
      have HT := hid ht
      clear hp0 ht
      have hm0 : ¬ (M : Int) = 0 := by omega
      have d1 : 0 ≤ (t : Int) % (M : Int) := Int.emod_nonneg _ hm0
      have d2 : (t : Int) % (M : Int) < M := Int.emod_lt_of_pos _ (by omega)
      have d3 : 0 ≤ (t : Int) / (M : Int) := Int.ediv_nonneg (by omega) (by omega)
      have d4 : (t : Int) / (M : Int) ≤ t := Int.ediv_le_self _ (by omega)
      have hNM : N * M ≤ 256 * 256 := Nat.mul_le_mul (by omega) (by omega)
      have d5 : (t : Int) ≤ 65536 := by omega
      clear hNM
      have hne0 : ∀ {q : Nat}, (⟨w3.heap.size, 0, none⟩ : Addr) ≠ ⟨w.heap.size, q, none⟩ := fun h => by injection h with h; omega
      have hne1 : ∀ {q : Nat}, (⟨w3.heap.size, 0, none⟩ : Addr) ≠ ⟨w.heap.size + 1, q, none⟩ := fun h => by injection h with h; omega
      by_cases e1 : p.1 = x + (t : Int) % (M : Int)
      · by_cases e2 : p.2 = y + (t : Int) / (M : Int)
        · gi_wp2
          refine region_quiet_round (by kernel_rfl) (by kernel_rfl) (by kernel_rfl) ?_
          repeat (gi_big_quiet_step (fail))
          refine wpQuietIn_nil ?_
          intro _ hw'
          obtain ⟨nq, hw''⟩ := hw'
          subst hw''
          generalize hWd : W.drewN nq = Wd
          have ca' : Wd.cell? ⟨w3.heap.size, 0, none⟩ = some (.int .i64 (t : Int)) := by rw [← hWd]; exact ca
          have fa' : Wd.frozen? ⟨w3.heap.size, 0, none⟩ = false := by rw [← hWd]; exact fa
          have c0' : Wd.cell? ⟨w.heap.size, 0, none⟩ = some (.int .i64 x) := by rw [← hWd]; exact c0
          have c1' : Wd.cell? ⟨w.heap.size, 1, none⟩ = some (.int .i64 y) := by rw [← hWd]; exact c1
          have c2' : Wd.cell? ⟨w.heap.size, 2, none⟩ = some (.int .i64 (M : Int)) := by rw [← hWd]; exact c2
          have c3' : Wd.cell? ⟨w.heap.size, 3, none⟩ = some (.int .i64 (N : Int)) := by rw [← hWd]; exact c3
          have cr' : Wd.cell? ⟨w.heap.size + 1, 0, none⟩ = some (.bool false) := by rw [← hWd]; exact cr
          have fcr' : Wd.frozen? ⟨w.heap.size + 1, 0, none⟩ = false := by rw [← hWd]; exact fcr
          have hB' : Below w.heap.size w Wd := by rw [← hWd]; exact below_drewN hB _
          have hKd : KeepsOthers W Wd := by rw [← hWd]; exact ⟨Nat.le_refl _, fun _ _ h _ => h⟩
          have hKb : KeepB (w3.heap.size + 1) W Wd := by rw [← hWd]; rfl
          clear hWd ca fa c0 c1 c2 c3 cr fcr hB
          gi_wp2
          have hpe : p = tileF x y M t := by
            obtain ⟨p1, p2⟩ := p
            simp only [tileF, Int.natCast_emod, Int.natCast_ediv]
            simp only at e1 e2
            rw [e1, e2]
          have hlen : (pre ++ [p]).length = t + 1 := by simp [HT.out]
          have hlt' : t + 1 ≤ N * M := by rw [HT.out]; omega
          refine ⟨hKd.trans (KeepsOthers.setCell _ _ _), hKb.trans (keepB_set _ _ _ (by simp) _), ⟨?_, by rw [hlen]; exact hlt', ?_, ?_, ?_, ?_, ?_, ?_, ?_, ?_⟩, hB'.setCell (p := ⟨w3.heap.size, 0, none⟩) (by simp; omega) _⟩
          · rw [hlen, upto_succ, ← HP.out, hpe]
          · rw [hlen, World.cell?_setCell_same' _ _ _ (by rw [ca']; rfl)]
            rfl
          · rw [World.frozen?_setCell]; exact fa'
          · rw [World.cell?_setCell_other _ _ _ _ hne0]; exact c0'
          · rw [World.cell?_setCell_other _ _ _ _ hne0]; exact c1'
          · rw [World.cell?_setCell_other _ _ _ _ hne0]; exact c2'
          · rw [World.cell?_setCell_other _ _ _ _ hne0]; exact c3'
          · rw [World.cell?_setCell_other _ _ _ _ hne1]; exact cr'
          · rw [World.frozen?_setCell]; exact fcr'
        · have hbad : p ≠ tileF x y M pre.length := fun h => e2 (by rw [h, ← HT.out]; simp [tileF])
          gi_wp2
          refine region_quiet_round (by kernel_rfl) (by kernel_rfl) (by kernel_rfl) ?_
          repeat (gi_big_quiet_step (fail))
          refine wpQuietIn_nil ?_
          intro _ hw'
          obtain ⟨nq, hw''⟩ := hw'
          subst hw''
          generalize hWd : W.drewN nq = Wd
          have ca' : Wd.cell? ⟨w3.heap.size, 0, none⟩ = some (.int .i64 (t : Int)) := by rw [← hWd]; exact ca
          have fa' : Wd.frozen? ⟨w3.heap.size, 0, none⟩ = false := by rw [← hWd]; exact fa
          have c0' : Wd.cell? ⟨w.heap.size, 0, none⟩ = some (.int .i64 x) := by rw [← hWd]; exact c0
          have c1' : Wd.cell? ⟨w.heap.size, 1, none⟩ = some (.int .i64 y) := by rw [← hWd]; exact c1
          have c2' : Wd.cell? ⟨w.heap.size, 2, none⟩ = some (.int .i64 (M : Int)) := by rw [← hWd]; exact c2
          have c3' : Wd.cell? ⟨w.heap.size, 3, none⟩ = some (.int .i64 (N : Int)) := by rw [← hWd]; exact c3
          have cr' : Wd.cell? ⟨w.heap.size + 1, 0, none⟩ = some (.bool false) := by rw [← hWd]; exact cr
          have fcr' : Wd.frozen? ⟨w.heap.size + 1, 0, none⟩ = false := by rw [← hWd]; exact fcr
          have hB' : Below w.heap.size w Wd := by rw [← hWd]; exact below_drewN hB _
          have hKd : KeepsOthers W Wd := by rw [← hWd]; exact ⟨Nat.le_refl _, fun _ _ h _ => h⟩
          have hKb : KeepB (w3.heap.size + 1) W Wd := by rw [← hWd]; rfl
          clear hWd ca fa c0 c1 c2 c3 cr fcr hB
          gi_wp2
          exact ⟨hKd.trans (KeepsOthers.setCell _ _ _), rfl, pre, p, rfl, hbad⟩
      · have hbad : p ≠ tileF x y M pre.length := fun h => e1 (by rw [h, ← HT.out]; simp [tileF])
        have b1 : (p.1 == x + (t : Int) % (M : Int)) = false := by simpa using e1
        have b2 : (p.1 != x + (t : Int) % (M : Int)) = true := by simpa using e1
        have b3 : decide (p.1 = x + (t : Int) % (M : Int)) = false := by simpa using e1
        gi_wp2
        refine region_quiet_round (by kernel_rfl) (by kernel_rfl) (by kernel_rfl) ?_
        repeat (gi_big_quiet_step (fail))
        refine wpQuietIn_nil ?_
        intro _ hw'
        obtain ⟨nq, hw''⟩ := hw'
        subst hw''
        generalize hWd : W.drewN nq = Wd
        have ca' : Wd.cell? ⟨w3.heap.size, 0, none⟩ = some (.int .i64 (t : Int)) := by rw [← hWd]; exact ca
        have fa' : Wd.frozen? ⟨w3.heap.size, 0, none⟩ = false := by rw [← hWd]; exact fa
        have c0' : Wd.cell? ⟨w.heap.size, 0, none⟩ = some (.int .i64 x) := by rw [← hWd]; exact c0
        have c1' : Wd.cell? ⟨w.heap.size, 1, none⟩ = some (.int .i64 y) := by rw [← hWd]; exact c1
        have c2' : Wd.cell? ⟨w.heap.size, 2, none⟩ = some (.int .i64 (M : Int)) := by rw [← hWd]; exact c2
        have c3' : Wd.cell? ⟨w.heap.size, 3, none⟩ = some (.int .i64 (N : Int)) := by rw [← hWd]; exact c3
        have cr' : Wd.cell? ⟨w.heap.size + 1, 0, none⟩ = some (.bool false) := by rw [← hWd]; exact cr
        have fcr' : Wd.frozen? ⟨w.heap.size + 1, 0, none⟩ = false := by rw [← hWd]; exact fcr
        have hB' : Below w.heap.size w Wd := by rw [← hWd]; exact below_drewN hB _
        have hKd : KeepsOthers W Wd := by rw [← hWd]; exact ⟨Nat.le_refl _, fun _ _ h _ => h⟩
        have hKb : KeepB (w3.heap.size + 1) W Wd := by rw [← hWd]; rfl
        clear hWd ca fa c0 c1 c2 c3 cr fcr hB
        gi_wp2
        exact ⟨hKd.trans (KeepsOthers.setCell _ _ _), rfl, pre, p, rfl, hbad⟩
    case done =>
      rintro D ys W hD rfl ⟨⟨hp0, hp1, ca, fa, c0, c1, c2, c3, cr, fcr⟩, hB⟩ hK
      rw [upto_length, show ((N * M : Nat) : Int) = (M : Int) * (N : Int) by rw [Int.natCast_mul, Int.mul_comm]] at ca
      rw [hsz] at hD
      have hU : W.cell? ⟨w.heap.size, 0, none⟩ = some (.int .i64 x) ∧ W.cell? ⟨w.heap.size, 1, none⟩ = some (.int .i64 y) ∧ W.cell? ⟨w.heap.size, 2, none⟩ = some (.int .i64 (M : Int)) ∧ W.cell? ⟨w.heap.size, 3, none⟩ = some (.int .i64 (N : Int)) ∧ W.cell? ⟨w3.heap.size, 0, none⟩ = some (.int .i64 ((M : Int) * (N : Int))) ∧ RC W ⟨w.heap.size + 1, 0, none⟩ ∧ W.heap[D]? = some (.deferred (some [])) ∧ Below w.heap.size w W := ⟨c0, c1, c2, c3, ca, ⟨⟨_, cr⟩, fcr⟩, hK, hB⟩
      have hD1 : w.heap.size + 1 < D := by omega
      have hD2 : w3.heap.size < D := by omega
      have ha := areaV_bd x y (M : Int) (N : Int)
      rw [show areaV x y (M : Int) (N : Int) = (M : Int) * (N : Int) by simp [areaV, hr]] at ha
      obtain ⟨q1, q2⟩ := ha
      clear hp0 hp1 ca fa c0 c1 c2 c3 cr fcr hB hK hsz hI0
      have hwr : IntKind.i64.wrap ((M : Int) * (N : Int)) = (M : Int) * (N : Int) := IntWalk.i64_in _ (by omega)
      go_wp2_with fail
      go_region_held3 (fun w' => w'.cell? ⟨w.heap.size, 0, none⟩ = some (.int .i64 x) ∧ w'.cell? ⟨w.heap.size, 1, none⟩ = some (.int .i64 y) ∧ w'.cell? ⟨w.heap.size, 2, none⟩ = some (.int .i64 (M : Int)) ∧ w'.cell? ⟨w.heap.size, 3, none⟩ = some (.int .i64 (N : Int)) ∧ w'.cell? ⟨w3.heap.size, 0, none⟩ = some (.int .i64 ((M : Int) * (N : Int))) ∧ RC w' ⟨w.heap.size + 1, 0, none⟩ ∧ w'.heap[D]? = some (.deferred (some [])) ∧ Below w.heap.size w w') (first | exact hU | exact tU_drew hU | exact tU_call hD2 hD1 (by assumption) (by assumption) | exact tU_set lw3_1 hD1 (by assumption) _)
        (first
          | (go_at_call 20; refine (area_as _ _ _ _ _ hr).mono ?_; rintro e wq ⟨rfl, hbq⟩)
          | (go_at_call 24; refine (first_yes _ _ _ _ _ hr).mono ?_; rintro e wq ⟨rfl, hbq⟩)
          | (go_at_call 10; refine (awake_any _).mono ?_; rintro e wq ⟨rfl, hbq⟩; obtain ⟨bb, hbb, hff⟩ := tU_rc (x := x) (y := y) (M := M) (N := N) (D := D) (G := w3.heap.size) (tU_call hD2 hD1 (by assumption) hbq)))
      go_wp2
      obtain ⟨hK', hB'⟩ := tU_dfr (x := x) (y := y) (M := M) (N := N) (D := D) (G := w3.heap.size) (w := w) (wX := wq.setCell ⟨w.heap.size + 1, 0, none⟩ (.bool true)) (by assumption)
      have hc4 : (wq.setCell ⟨w.heap.size + 1, 0, none⟩ (.bool true)).cell? ⟨w.heap.size + 1, 0, none⟩ = some (.bool true) := World.cell?_setCell_same' wq ⟨w.heap.size + 1, 0, none⟩ (.bool true) (by rw [hbb]; rfl)
      generalize wq.setCell ⟨w.heap.size + 1, 0, none⟩ (.bool true) = wz at hK' hB' hc4 ⊢
      refine ⟨by simp, .inl ⟨_, _, rfl, run_takeDeferred hK', ?_⟩⟩
      have hc5 := cell_kept hc4 (grownBy_putObj' _ D (.deferred none)) (fun r e => by cases e; exact ⟨_, hK', rfl⟩)
      refine ⟨.bool true, ?_, rfl, hB'.trans (belowK_b (w := w) (Nat.le_refl _) _ D _ _ (by omega) hK' rfl rfl)⟩
      simp [results, Try.f6, go_sem, hc5]
    case stop =>
      rintro D c pre W hD hpre ⟨rfl, pre', p, rfl, hne⟩ hK
      exfalso
      obtain ⟨t, ht⟩ := hpre
      have h1 : (upto (tileF x y M) (N * M))[pre'.length]? = some p := by
        rw [← ht, List.append_assoc, List.getElem?_append_right (Nat.le_refl _)]
        simp
      have hl : pre'.length < N * M := by
        have := congrArg List.length ht
        rw [upto_length] at this
        simp at this
        omega
      rw [upto_get _ hl] at h1
      injection h1 with h1
      exact hne h1.symm

theorem lawTiles (x y m n i k : Int) (w : World) (hi : i ≤ 9223372036854775807) (hk : k ≤ 9223372036854775807) :
    Calls Try.prog 6 #[.agg #[.int .i64 x, .int .i64 y, .int .i64 m, .int .i64 n], .int .i64 i, .int .i64 k] w fun e w' => e = .returned (.bool true) ∧ Below w.heap.size w w' := by
  cases hr : rightB x y m n
  · exact lawTiles_no x y m n i k w hi hk hr
  · cases hs : smallB x y m n
    · exact lawTiles_big x y m n i k w hi hk hr hs
    · obtain ⟨⟨a1, a2, a3, a4⟩, a5, a6, a7, a8⟩ := of_rightB hr
      obtain ⟨M, rfl⟩ := Int.eq_ofNat_of_zero_le (show 0 ≤ m by omega)
      obtain ⟨N, rfl⟩ := Int.eq_ofNat_of_zero_le (show 0 ≤ n by omega)
      exact lawTiles_small x y M N i k w hi hk hr hs
end Go.Proofs.Ytipfngliahhhiaa
