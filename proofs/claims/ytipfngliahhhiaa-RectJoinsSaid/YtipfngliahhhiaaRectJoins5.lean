/-
  The walk of the statement RectJoins where both rectangles are right.
-/
import Derived.Test.YtipfngliahhhiaaRectJoins0
import Derived.Test.YtipfngliahhhiaaRectJoinsM
namespace Go.Proofs.Ytipfngliahhhiaa
open Go.RowKit

theorem id12 {A B C : Nat} {va0 va1 va2 va3 vb0 vb1 vb2 vb3 vc0 vc1 vc2 vc3 : Int} {W wX : World} (h : wX.cell? ⟨A, 0, none⟩ = some (.int .i64 va0) ∧ wX.cell? ⟨A, 1, none⟩ = some (.int .i64 va1) ∧ wX.cell? ⟨A, 2, none⟩ = some (.int .i64 va2) ∧ wX.cell? ⟨A, 3, none⟩ = some (.int .i64 va3) ∧ wX.cell? ⟨B, 0, none⟩ = some (.int .i64 vb0) ∧ wX.cell? ⟨B, 1, none⟩ = some (.int .i64 vb1) ∧ wX.cell? ⟨B, 2, none⟩ = some (.int .i64 vb2) ∧ wX.cell? ⟨B, 3, none⟩ = some (.int .i64 vb3) ∧ wX.cell? ⟨C, 0, none⟩ = some (.int .i64 vc0) ∧ wX.cell? ⟨C, 1, none⟩ = some (.int .i64 vc1) ∧ wX.cell? ⟨C, 2, none⟩ = some (.int .i64 vc2) ∧ wX.cell? ⟨C, 3, none⟩ = some (.int .i64 vc3) ∧ Below W.heap.size W wX) : wX.cell? ⟨A, 0, none⟩ = some (.int .i64 va0) ∧ wX.cell? ⟨A, 1, none⟩ = some (.int .i64 va1) ∧ wX.cell? ⟨A, 2, none⟩ = some (.int .i64 va2) ∧ wX.cell? ⟨A, 3, none⟩ = some (.int .i64 va3) ∧ wX.cell? ⟨B, 0, none⟩ = some (.int .i64 vb0) ∧ wX.cell? ⟨B, 1, none⟩ = some (.int .i64 vb1) ∧ wX.cell? ⟨B, 2, none⟩ = some (.int .i64 vb2) ∧ wX.cell? ⟨B, 3, none⟩ = some (.int .i64 vb3) ∧ wX.cell? ⟨C, 0, none⟩ = some (.int .i64 vc0) ∧ wX.cell? ⟨C, 1, none⟩ = some (.int .i64 vc1) ∧ wX.cell? ⟨C, 2, none⟩ = some (.int .i64 vc2) ∧ wX.cell? ⟨C, 3, none⟩ = some (.int .i64 vc3) ∧ Below W.heap.size W wX := h
theorem eq_or {p a b : Int} (h : p = a ∨ p = b) : (p == a) = true ∨ ((p == a) = false ∧ (p == b) = true) := by
  by_cases h1 : p = a
  · exact .inl (by simpa using h1)
  · exact .inr ⟨by simpa using h1, by simpa using h.resolve_left h1⟩
theorem wpList_yield {P : Program} {ops : Array Oper} {Q : Exit → Act → World → Prop} {o : Oper} {rest : List Oper} {a : Act} {w : World} {v : Value} (hw : Region.wanted o (yielded ops a.tmps) = true) (hx : (execOp a.eval o).run P w = .ok (.value v) w) (h : wpList P ops Q rest (a.put o.dst v) w) : wpList P ops Q (o :: rest) a w :=
  wpList_step fun K hK => by
    rw [if_pos hw]
    unfold Oper.wp
    rw [hx]
    exact hK _ _ h

set_option maxRecDepth 100000 in
set_option maxHeartbeats 40000000 in
theorem lawJoins_both (x y m n x' y' m' n' : Int) (h1 : rightB x y m n = true) (h2 : rightB x' y' m' n' = true) (w : World) :
    Calls Try.prog 5 #[.agg #[.int .i64 x, .int .i64 y, .int .i64 m, .int .i64 n], .agg #[.int .i64 x', .int .i64 y', .int .i64 m', .int .i64 n']] w fun e w' => e = .returned (.bool true) ∧ Below w.heap.size w w' := by
  obtain ⟨px, py, pw, ph, ⟨hj, hj2, hg, hr, hi1, hi2⟩, o1, o2, o3, o4⟩ := jn_both x y m n x' y' m' n' h1 h2
  obtain ⟨⟨r1, r2, r3, r4⟩, r5, r6, r7, r8⟩ := of_rightB hr
  obtain ⟨⟨a1, a2, a3, a4⟩, a5, a6, a7, a8⟩ := of_rightB h1
  obtain ⟨⟨b1, b2, b3, b4⟩, b5, b6, b7, b8⟩ := of_rightB h2
  obtain ⟨q1, q2⟩ := mul_bd h1
  obtain ⟨q3, q4⟩ := mul_bd hr
  have HJ := hid hj
  have HJ2 := hid hj2
  have HG := hid hg
  have O := hid (And.intro o1 (And.intro o2 (And.intro o3 o4)))
  clear hj hg hj2 o1 o2 o3 o4
  go_enter Try.func5, Try.ntmps5
  go_wp2_with fail
  refine (join_as _ _ _ _ _ _ _ _ px py pw ph _ HJ.out).mono ?_
  rintro e w1 ⟨rfl, hbw1⟩
  obtain ⟨hcw1, hfw1⟩ := bcell hbw1
  have hsw1 := hbw1.size
  try simp at hcw1 hfw1 hsw1
  have lw1_0 : w.heap.size < w1.heap.size := by omega
  have lw1_1 : w.heap.size + 1 < w1.heap.size := by omega
  go_wp2_with fail
  have hS2 : (w1.alloc (.cells #[.int .i64 px, .int .i64 py, .int .i64 pw, .int .i64 ph] 23)).cell? ⟨w.heap.size, 0, none⟩ = some (.int .i64 x) ∧ (w1.alloc (.cells #[.int .i64 px, .int .i64 py, .int .i64 pw, .int .i64 ph] 23)).cell? ⟨w.heap.size, 1, none⟩ = some (.int .i64 y) ∧ (w1.alloc (.cells #[.int .i64 px, .int .i64 py, .int .i64 pw, .int .i64 ph] 23)).cell? ⟨w.heap.size, 2, none⟩ = some (.int .i64 m) ∧ (w1.alloc (.cells #[.int .i64 px, .int .i64 py, .int .i64 pw, .int .i64 ph] 23)).cell? ⟨w.heap.size, 3, none⟩ = some (.int .i64 n) ∧ (w1.alloc (.cells #[.int .i64 px, .int .i64 py, .int .i64 pw, .int .i64 ph] 23)).cell? ⟨w.heap.size + 1, 0, none⟩ = some (.int .i64 x') ∧ (w1.alloc (.cells #[.int .i64 px, .int .i64 py, .int .i64 pw, .int .i64 ph] 23)).cell? ⟨w.heap.size + 1, 1, none⟩ = some (.int .i64 y') ∧ (w1.alloc (.cells #[.int .i64 px, .int .i64 py, .int .i64 pw, .int .i64 ph] 23)).cell? ⟨w.heap.size + 1, 2, none⟩ = some (.int .i64 m') ∧ (w1.alloc (.cells #[.int .i64 px, .int .i64 py, .int .i64 pw, .int .i64 ph] 23)).cell? ⟨w.heap.size + 1, 3, none⟩ = some (.int .i64 n') ∧ (w1.alloc (.cells #[.int .i64 px, .int .i64 py, .int .i64 pw, .int .i64 ph] 23)).cell? ⟨w1.heap.size, 0, none⟩ = some (.int .i64 px) ∧ (w1.alloc (.cells #[.int .i64 px, .int .i64 py, .int .i64 pw, .int .i64 ph] 23)).cell? ⟨w1.heap.size, 1, none⟩ = some (.int .i64 py) ∧ (w1.alloc (.cells #[.int .i64 px, .int .i64 py, .int .i64 pw, .int .i64 ph] 23)).cell? ⟨w1.heap.size, 2, none⟩ = some (.int .i64 pw) ∧ (w1.alloc (.cells #[.int .i64 px, .int .i64 py, .int .i64 pw, .int .i64 ph] 23)).cell? ⟨w1.heap.size, 3, none⟩ = some (.int .i64 ph) := by
    simp [go_sem, hcw1, lw1_0, lw1_1]
  have hb2 : Below w.heap.size w (w1.alloc (.cells #[.int .i64 px, .int .i64 py, .int .i64 pw, .int .i64 ph] 23)) := by
    repeat' (first | with_reducible assumption | with_reducible refine Below.setCell ?_ ?_ _ | with_reducible refine below_drewN ?_ _ | with_reducible refine Below.drew ?_ | with_reducible refine balloc ?_ _ | with_reducible exact Below.refl _ _ | with_reducible refine bstep ?_ (by assumption) | with_reducible refine Below.alloc ?_ ?_ _ | with_reducible refine bthrough ?_ (by assumption) ?_)
    all_goals (first | omega | (simp; done) | (simp; omega))
  have hs2 : (w1.alloc (.cells #[.int .i64 px, .int .i64 py, .int .i64 pw, .int .i64 ph] 23)).heap.size = w1.heap.size + 1 := by simp
  generalize w1.alloc (.cells #[.int .i64 px, .int .i64 py, .int .i64 pw, .int .i64 ph] 23) = W2 at hS2 hb2 hs2 ⊢
  have lW2_0 : w.heap.size < W2.heap.size := by omega
  have lW2_1 : w.heap.size + 1 < W2.heap.size := by omega
  have lW2_2 : w1.heap.size < W2.heap.size := by omega
  clear hcw1 hfw1 hbw1 hs2
  go_upto_region 2 with fail
  go_cut [6, 7] (fun s6 s7 wx => s6 = .bool true ∧ s7 = .bool true ∧ wx.cell? ⟨w.heap.size, 0, none⟩ = some (.int .i64 x) ∧ wx.cell? ⟨w.heap.size, 1, none⟩ = some (.int .i64 y) ∧ wx.cell? ⟨w.heap.size, 2, none⟩ = some (.int .i64 m) ∧ wx.cell? ⟨w.heap.size, 3, none⟩ = some (.int .i64 n) ∧ wx.cell? ⟨w.heap.size + 1, 0, none⟩ = some (.int .i64 x') ∧ wx.cell? ⟨w.heap.size + 1, 1, none⟩ = some (.int .i64 y') ∧ wx.cell? ⟨w.heap.size + 1, 2, none⟩ = some (.int .i64 m') ∧ wx.cell? ⟨w.heap.size + 1, 3, none⟩ = some (.int .i64 n') ∧ wx.cell? ⟨w1.heap.size, 0, none⟩ = some (.int .i64 px) ∧ wx.cell? ⟨w1.heap.size, 1, none⟩ = some (.int .i64 py) ∧ wx.cell? ⟨w1.heap.size, 2, none⟩ = some (.int .i64 pw) ∧ wx.cell? ⟨w1.heap.size, 3, none⟩ = some (.int .i64 ph) ∧ Below W2.heap.size W2 wx)
  case first =>
    go_region_held3 (fun w' => w'.cell? ⟨w.heap.size, 0, none⟩ = some (.int .i64 x) ∧ w'.cell? ⟨w.heap.size, 1, none⟩ = some (.int .i64 y) ∧ w'.cell? ⟨w.heap.size, 2, none⟩ = some (.int .i64 m) ∧ w'.cell? ⟨w.heap.size, 3, none⟩ = some (.int .i64 n) ∧ w'.cell? ⟨w.heap.size + 1, 0, none⟩ = some (.int .i64 x') ∧ w'.cell? ⟨w.heap.size + 1, 1, none⟩ = some (.int .i64 y') ∧ w'.cell? ⟨w.heap.size + 1, 2, none⟩ = some (.int .i64 m') ∧ w'.cell? ⟨w.heap.size + 1, 3, none⟩ = some (.int .i64 n') ∧ w'.cell? ⟨w1.heap.size, 0, none⟩ = some (.int .i64 px) ∧ w'.cell? ⟨w1.heap.size, 1, none⟩ = some (.int .i64 py) ∧ w'.cell? ⟨w1.heap.size, 2, none⟩ = some (.int .i64 pw) ∧ w'.cell? ⟨w1.heap.size, 3, none⟩ = some (.int .i64 ph) ∧ Below W2.heap.size W2 w') (first | exact keep12 lW2_0 lW2_1 lW2_2 (Below.refl _ _) hS2 | exact keep12 lW2_0 lW2_1 lW2_2 (Below.refl _ _).drew hS2 | exact keep12 lW2_0 lW2_1 lW2_2 (more12 (by assumption) (by assumption)) hS2)
      (first
      | (go_at_call 9; refine (ref_any _ _ _ _ _).mono ?_; rintro e wq ⟨rfl, hbq⟩)
      | (go_at_call 8; refine (refRight_any _ _ _ _ _).mono ?_; rintro e wq ⟨rfl, hbq⟩)
      | (go_at_call 16; refine (right_any _ _ _ _ _).mono ?_; rintro e wq ⟨rfl, hbq⟩)
      | (go_at_call 14; refine (in_any _ _ _ _ _ _ _ _ _).mono ?_; rintro e wq ⟨rfl, hbq⟩)
      | (go_at_call 18; refine (growth_as _ _ _ _ _ _ _ _ _ HG.out).mono ?_; rintro e wq ⟨rfl, hbq⟩)
      | (go_at_call 17; refine (join_as2 _ _ _ _ _ _ _ _ _ _ _ _ _ HJ2.out).mono ?_; rintro e wq ⟨rfl, hbq⟩)
      | (go_at_call 10; refine (awake_any _).mono ?_; rintro e wq ⟨rfl, hbq⟩))
    all_goals go_wp2_with fail
    all_goals go_meet
    all_goals exact ⟨rfl, rfl, by assumption⟩
  case rest =>
    obtain ⟨wk, rfl⟩ : ∃ wk : World, wk = wc := ⟨_, rfl⟩
    obtain ⟨rfl, rfl, hSc⟩ := hcut
    have hbc := last12 hSc
    have hsc := hbc.size
    have hSd : wk.cell? ⟨w.heap.size, 0, none⟩ = some (.int .i64 x) ∧ wk.cell? ⟨w.heap.size, 1, none⟩ = some (.int .i64 y) ∧ wk.cell? ⟨w.heap.size, 2, none⟩ = some (.int .i64 m) ∧ wk.cell? ⟨w.heap.size, 3, none⟩ = some (.int .i64 n) ∧ wk.cell? ⟨w.heap.size + 1, 0, none⟩ = some (.int .i64 x') ∧ wk.cell? ⟨w.heap.size + 1, 1, none⟩ = some (.int .i64 y') ∧ wk.cell? ⟨w.heap.size + 1, 2, none⟩ = some (.int .i64 m') ∧ wk.cell? ⟨w.heap.size + 1, 3, none⟩ = some (.int .i64 n') ∧ wk.cell? ⟨w1.heap.size, 0, none⟩ = some (.int .i64 px) ∧ wk.cell? ⟨w1.heap.size, 1, none⟩ = some (.int .i64 py) ∧ wk.cell? ⟨w1.heap.size, 2, none⟩ = some (.int .i64 pw) ∧ wk.cell? ⟨w1.heap.size, 3, none⟩ = some (.int .i64 ph) := by
      obtain ⟨g0, g1, g2, g3, g4, g5, g6, g7, g8, g9, g10, g11, _⟩ := hSc
      exact ⟨g0, g1, g2, g3, g4, g5, g6, g7, g8, g9, g10, g11⟩
    have lwk_0 : w.heap.size < wk.heap.size := by omega
    have lwk_1 : w.heap.size + 1 < wk.heap.size := by omega
    have lwk_2 : w1.heap.size < wk.heap.size := by omega
    clear hS2 hSc
    go_upto_region 9 with fail
    go_region_held3 (fun w' => w'.cell? ⟨w.heap.size, 0, none⟩ = some (.int .i64 x) ∧ w'.cell? ⟨w.heap.size, 1, none⟩ = some (.int .i64 y) ∧ w'.cell? ⟨w.heap.size, 2, none⟩ = some (.int .i64 m) ∧ w'.cell? ⟨w.heap.size, 3, none⟩ = some (.int .i64 n) ∧ w'.cell? ⟨w.heap.size + 1, 0, none⟩ = some (.int .i64 x') ∧ w'.cell? ⟨w.heap.size + 1, 1, none⟩ = some (.int .i64 y') ∧ w'.cell? ⟨w.heap.size + 1, 2, none⟩ = some (.int .i64 m') ∧ w'.cell? ⟨w.heap.size + 1, 3, none⟩ = some (.int .i64 n') ∧ w'.cell? ⟨w1.heap.size, 0, none⟩ = some (.int .i64 px) ∧ w'.cell? ⟨w1.heap.size, 1, none⟩ = some (.int .i64 py) ∧ w'.cell? ⟨w1.heap.size, 2, none⟩ = some (.int .i64 pw) ∧ w'.cell? ⟨w1.heap.size, 3, none⟩ = some (.int .i64 ph) ∧ Below wk.heap.size wk w') (first | exact keep12 lwk_0 lwk_1 lwk_2 (Below.refl _ _) hSd | exact keep12 lwk_0 lwk_1 lwk_2 (Below.refl _ _).drew hSd | exact keep12 lwk_0 lwk_1 lwk_2 (more12 (by assumption) (by assumption)) hSd)
      (first
      | (go_at_call 9; refine (ref_any _ _ _ _ _).mono ?_; rintro e wq ⟨rfl, hbq⟩)
      | (go_at_call 8; refine (refRight_any _ _ _ _ _).mono ?_; rintro e wq ⟨rfl, hbq⟩)
      | (go_at_call 16; refine (right_any _ _ _ _ _).mono ?_; rintro e wq ⟨rfl, hbq⟩)
      | (go_at_call 14; refine (in_any _ _ _ _ _ _ _ _ _).mono ?_; rintro e wq ⟨rfl, hbq⟩)
      | (go_at_call 18; refine (growth_as _ _ _ _ _ _ _ _ _ HG.out).mono ?_; rintro e wq ⟨rfl, hbq⟩)
      | (go_at_call 17; refine (join_as2 _ _ _ _ _ _ _ _ _ _ _ _ _ HJ2.out).mono ?_; rintro e wq ⟨rfl, hbq⟩)
      | (go_at_call 10; refine (awake_any _).mono ?_; rintro e wq ⟨rfl, hbq⟩))
    have hl1 := id12 (A := w.heap.size) (B := w.heap.size + 1) (C := w1.heap.size) (W := wk) (by assumption)
    have hl0 := last12 (A := w.heap.size) (B := w.heap.size + 1) (C := w1.heap.size) (W := wk) (by assumption)
    go_upto_region 11 with fail
    go_cut [8] (fun s8 wx => s8 = .bool true ∧ wx.cell? ⟨w.heap.size, 0, none⟩ = some (.int .i64 x) ∧ wx.cell? ⟨w.heap.size, 1, none⟩ = some (.int .i64 y) ∧ wx.cell? ⟨w.heap.size, 2, none⟩ = some (.int .i64 m) ∧ wx.cell? ⟨w.heap.size, 3, none⟩ = some (.int .i64 n) ∧ wx.cell? ⟨w.heap.size + 1, 0, none⟩ = some (.int .i64 x') ∧ wx.cell? ⟨w.heap.size + 1, 1, none⟩ = some (.int .i64 y') ∧ wx.cell? ⟨w.heap.size + 1, 2, none⟩ = some (.int .i64 m') ∧ wx.cell? ⟨w.heap.size + 1, 3, none⟩ = some (.int .i64 n') ∧ wx.cell? ⟨w1.heap.size, 0, none⟩ = some (.int .i64 px) ∧ wx.cell? ⟨w1.heap.size, 1, none⟩ = some (.int .i64 py) ∧ wx.cell? ⟨w1.heap.size, 2, none⟩ = some (.int .i64 pw) ∧ wx.cell? ⟨w1.heap.size, 3, none⟩ = some (.int .i64 ph) ∧ Below wk.heap.size wk wx)
    case first =>
      obtain ⟨o1, o2, o3, o4⟩ := O.out
      have E0 := eq_or (show px = x ∨ px = x' by omega)
      have E1 := eq_or (show py = y ∨ py = y' by omega)
      have E2 := eq_or (show px + pw = x + m ∨ px + pw = x' + m' by omega)
      have E3 := eq_or (show py + ph = y + n ∨ py + ph = y' + n' by omega)
      have v1 : IntKind.i64.wrap (px + pw) = px + pw := IntWalk.i64_in _ (by omega)
      have v2 : IntKind.i64.wrap (py + ph) = py + ph := IntWalk.i64_in _ (by omega)
      have v3 : IntKind.i64.wrap (x + m) = x + m := IntWalk.i64_in _ (by omega)
      have v4 : IntKind.i64.wrap (y + n) = y + n := IntWalk.i64_in _ (by omega)
      have v5 : IntKind.i64.wrap (x' + m') = x' + m' := IntWalk.i64_in _ (by omega)
      have v6 : IntKind.i64.wrap (y' + n') = y' + n' := IntWalk.i64_in _ (by omega)
      clear O HJ HJ2 HG hi1 hi2 hr h1 h2 q1 q2 q3 q4 o1 o2 o3 o4 r1 r2 r3 r4 r5 r6 r7 r8 a1 a2 a3 a4 a5 a6 a7 a8 b1 b2 b3 b4 b5 b6 b7 b8
      refine wp_region_lit ?_
      obtain ⟨c0, c1, c2, c3, d0, d1, d2, d3, j0, j1, j2, j3, _⟩ := hl1
      refine jabs (A := w.heap.size) (B := w.heap.size + 1) (C := w1.heap.size) rfl rfl rfl rfl (fun a0 hr H2 H3 H5 J8 => ?_) ?_
      · have O : Out 94 172 a0 a0 := Out.refl (by omega)
        refine cutT0 (a0 := a0) ?_ ?_
        · intro J
          rcases E0 with e0 | ⟨e0, f0⟩
          · refine stp O (wn0 rfl) rfl (by decide) (jfa0 (ev (O.at (.inl (by decide)) H5))) fun a O n E94 => ?_
            clear n
            refine stp O (wn0 rfl) rfl (by decide) (jld (ev E94) j0) fun a O n E95 => ?_
            clear n
            refine stp O (wn0 rfl) rfl (by decide) (jfa0 (ev (O.at (.inl (by decide)) H2))) fun a O n E96 => ?_
            replace E95 := (n 95 (by decide)).trans E95
            clear n
            refine stp O (wn0 rfl) rfl (by decide) (jld (ev E96) c0) fun a O n E97 => ?_
            replace E95 := (n 95 (by decide)).trans E95
            clear n
            refine stp O (wn0 rfl) rfl (by decide) (jeq (ev E95) (ev E97) e0) fun a O n E98 => ?_
            clear n
            refine stp O (wn0 rfl) rfl (by decide) (jmv (ev E98)) fun a O n E99 => ?_
            clear n
            refine skp O (wn1 (s := 99) rfl (by kernel_rfl) E99 rfl) rfl (by decide) fun a O n => ?_
            replace E99 := (n 99 (by decide)).trans E99
            clear n
            refine skp O (wn1 (s := 99) rfl (by kernel_rfl) E99 rfl) rfl (by decide) fun a O n => ?_
            replace E99 := (n 99 (by decide)).trans E99
            clear n
            refine skp O (wn1 (s := 99) rfl (by kernel_rfl) E99 rfl) rfl (by decide) fun a O n => ?_
            replace E99 := (n 99 (by decide)).trans E99
            clear n
            refine skp O (wn1 (s := 99) rfl (by kernel_rfl) E99 rfl) rfl (by decide) fun a O n => ?_
            replace E99 := (n 99 (by decide)).trans E99
            clear n
            refine skp O (wn1 (s := 99) rfl (by kernel_rfl) E99 rfl) rfl (by decide) fun a O n => ?_
            replace E99 := (n 99 (by decide)).trans E99
            clear n
            refine stp O (wn0 rfl) rfl (by decide) (jpt (ev E99) rfl) fun a O n E105 => ?_
            clear n
            refine stp O (wn0 rfl) rfl (by decide) (jmv (ev E105)) fun a O n E106 => ?_
            clear n
            exact J _ O E106
          · refine stp O (wn0 rfl) rfl (by decide) (jfa0 (ev (O.at (.inl (by decide)) H5))) fun a O n E94 => ?_
            clear n
            refine stp O (wn0 rfl) rfl (by decide) (jld (ev E94) j0) fun a O n E95 => ?_
            clear n
            refine stp O (wn0 rfl) rfl (by decide) (jfa0 (ev (O.at (.inl (by decide)) H2))) fun a O n E96 => ?_
            replace E95 := (n 95 (by decide)).trans E95
            clear n
            refine stp O (wn0 rfl) rfl (by decide) (jld (ev E96) c0) fun a O n E97 => ?_
            replace E95 := (n 95 (by decide)).trans E95
            clear n
            refine stp O (wn0 rfl) rfl (by decide) (jeq (ev E95) (ev E97) e0) fun a O n E98 => ?_
            clear n
            refine stp O (wn0 rfl) rfl (by decide) (jmv (ev E98)) fun a O n E99 => ?_
            clear n
            refine stp O (wn1 (s := 99) rfl (by kernel_rfl) E99 rfl) rfl (by decide) (jfa0 (ev (O.at (.inl (by decide)) H5))) fun a O n E100 => ?_
            replace E99 := (n 99 (by decide)).trans E99
            clear n
            refine stp O (wn1 (s := 99) rfl (by kernel_rfl) E99 rfl) rfl (by decide) (jld (ev E100) j0) fun a O n E101 => ?_
            replace E99 := (n 99 (by decide)).trans E99
            clear n
            refine stp O (wn1 (s := 99) rfl (by kernel_rfl) E99 rfl) rfl (by decide) (jfa0 (ev (O.at (.inl (by decide)) H3))) fun a O n E102 => ?_
            replace E99 := (n 99 (by decide)).trans E99
            replace E101 := (n 101 (by decide)).trans E101
            clear n
            refine stp O (wn1 (s := 99) rfl (by kernel_rfl) E99 rfl) rfl (by decide) (jld (ev E102) d0) fun a O n E103 => ?_
            replace E99 := (n 99 (by decide)).trans E99
            replace E101 := (n 101 (by decide)).trans E101
            clear n
            refine stp O (wn1 (s := 99) rfl (by kernel_rfl) E99 rfl) rfl (by decide) (jeq (ev E101) (ev E103) f0) fun a O n E104 => ?_
            replace E99 := (n 99 (by decide)).trans E99
            clear n
            refine stp O (wn0 rfl) rfl (by decide) (jpf (ev E99) (ev E104)) fun a O n E105 => ?_
            clear n
            refine stp O (wn0 rfl) rfl (by decide) (jmv (ev E105)) fun a O n E106 => ?_
            clear n
            exact J _ O E106
        intro a O E106
        refine cutT1 (a0 := a0) ?_ ?_
        · intro J
          rcases E1 with e1 | ⟨e1, f1⟩
          · refine stp O (wn1 (s := 106) rfl (by kernel_rfl) E106 rfl) rfl (by decide) (jfa1 (ev (O.at (.inl (by decide)) H5))) fun a O n E107 => ?_
            replace E106 := (n 106 (by decide)).trans E106
            clear n
            refine stp O (wn1 (s := 106) rfl (by kernel_rfl) E106 rfl) rfl (by decide) (jld (ev E107) j1) fun a O n E108 => ?_
            replace E106 := (n 106 (by decide)).trans E106
            clear n
            refine stp O (wn1 (s := 106) rfl (by kernel_rfl) E106 rfl) rfl (by decide) (jfa1 (ev (O.at (.inl (by decide)) H2))) fun a O n E109 => ?_
            replace E106 := (n 106 (by decide)).trans E106
            replace E108 := (n 108 (by decide)).trans E108
            clear n
            refine stp O (wn1 (s := 106) rfl (by kernel_rfl) E106 rfl) rfl (by decide) (jld (ev E109) c1) fun a O n E110 => ?_
            replace E106 := (n 106 (by decide)).trans E106
            replace E108 := (n 108 (by decide)).trans E108
            clear n
            refine stp O (wn1 (s := 106) rfl (by kernel_rfl) E106 rfl) rfl (by decide) (jeq (ev E108) (ev E110) e1) fun a O n E111 => ?_
            replace E106 := (n 106 (by decide)).trans E106
            clear n
            refine stp O (wn1 (s := 106) rfl (by kernel_rfl) E106 rfl) rfl (by decide) (jmv (ev E111)) fun a O n E112 => ?_
            replace E106 := (n 106 (by decide)).trans E106
            clear n
            refine skp O (wn1 (s := 112) rfl (by kernel_rfl) E112 rfl) rfl (by decide) fun a O n => ?_
            replace E106 := (n 106 (by decide)).trans E106
            replace E112 := (n 112 (by decide)).trans E112
            clear n
            refine skp O (wn1 (s := 112) rfl (by kernel_rfl) E112 rfl) rfl (by decide) fun a O n => ?_
            replace E106 := (n 106 (by decide)).trans E106
            replace E112 := (n 112 (by decide)).trans E112
            clear n
            refine skp O (wn1 (s := 112) rfl (by kernel_rfl) E112 rfl) rfl (by decide) fun a O n => ?_
            replace E106 := (n 106 (by decide)).trans E106
            replace E112 := (n 112 (by decide)).trans E112
            clear n
            refine skp O (wn1 (s := 112) rfl (by kernel_rfl) E112 rfl) rfl (by decide) fun a O n => ?_
            replace E106 := (n 106 (by decide)).trans E106
            replace E112 := (n 112 (by decide)).trans E112
            clear n
            refine skp O (wn1 (s := 112) rfl (by kernel_rfl) E112 rfl) rfl (by decide) fun a O n => ?_
            replace E106 := (n 106 (by decide)).trans E106
            replace E112 := (n 112 (by decide)).trans E112
            clear n
            refine stp O (wn1 (s := 106) rfl (by kernel_rfl) E106 rfl) rfl (by decide) (jpt (ev E112) rfl) fun a O n E118 => ?_
            replace E106 := (n 106 (by decide)).trans E106
            clear n
            refine stp O (wn0 rfl) rfl (by decide) (jpt (ev E106) (ev E118)) fun a O n E119 => ?_
            clear n
            refine stp O (wn0 rfl) rfl (by decide) (jmv (ev E119)) fun a O n E120 => ?_
            clear n
            exact J _ O E120
          · refine stp O (wn1 (s := 106) rfl (by kernel_rfl) E106 rfl) rfl (by decide) (jfa1 (ev (O.at (.inl (by decide)) H5))) fun a O n E107 => ?_
            replace E106 := (n 106 (by decide)).trans E106
            clear n
            refine stp O (wn1 (s := 106) rfl (by kernel_rfl) E106 rfl) rfl (by decide) (jld (ev E107) j1) fun a O n E108 => ?_
            replace E106 := (n 106 (by decide)).trans E106
            clear n
            refine stp O (wn1 (s := 106) rfl (by kernel_rfl) E106 rfl) rfl (by decide) (jfa1 (ev (O.at (.inl (by decide)) H2))) fun a O n E109 => ?_
            replace E106 := (n 106 (by decide)).trans E106
            replace E108 := (n 108 (by decide)).trans E108
            clear n
            refine stp O (wn1 (s := 106) rfl (by kernel_rfl) E106 rfl) rfl (by decide) (jld (ev E109) c1) fun a O n E110 => ?_
            replace E106 := (n 106 (by decide)).trans E106
            replace E108 := (n 108 (by decide)).trans E108
            clear n
            refine stp O (wn1 (s := 106) rfl (by kernel_rfl) E106 rfl) rfl (by decide) (jeq (ev E108) (ev E110) e1) fun a O n E111 => ?_
            replace E106 := (n 106 (by decide)).trans E106
            clear n
            refine stp O (wn1 (s := 106) rfl (by kernel_rfl) E106 rfl) rfl (by decide) (jmv (ev E111)) fun a O n E112 => ?_
            replace E106 := (n 106 (by decide)).trans E106
            clear n
            refine stp O (wn1 (s := 112) rfl (by kernel_rfl) E112 rfl) rfl (by decide) (jfa1 (ev (O.at (.inl (by decide)) H5))) fun a O n E113 => ?_
            replace E106 := (n 106 (by decide)).trans E106
            replace E112 := (n 112 (by decide)).trans E112
            clear n
            refine stp O (wn1 (s := 112) rfl (by kernel_rfl) E112 rfl) rfl (by decide) (jld (ev E113) j1) fun a O n E114 => ?_
            replace E106 := (n 106 (by decide)).trans E106
            replace E112 := (n 112 (by decide)).trans E112
            clear n
            refine stp O (wn1 (s := 112) rfl (by kernel_rfl) E112 rfl) rfl (by decide) (jfa1 (ev (O.at (.inl (by decide)) H3))) fun a O n E115 => ?_
            replace E106 := (n 106 (by decide)).trans E106
            replace E112 := (n 112 (by decide)).trans E112
            replace E114 := (n 114 (by decide)).trans E114
            clear n
            refine stp O (wn1 (s := 112) rfl (by kernel_rfl) E112 rfl) rfl (by decide) (jld (ev E115) d1) fun a O n E116 => ?_
            replace E106 := (n 106 (by decide)).trans E106
            replace E112 := (n 112 (by decide)).trans E112
            replace E114 := (n 114 (by decide)).trans E114
            clear n
            refine stp O (wn1 (s := 112) rfl (by kernel_rfl) E112 rfl) rfl (by decide) (jeq (ev E114) (ev E116) f1) fun a O n E117 => ?_
            replace E106 := (n 106 (by decide)).trans E106
            replace E112 := (n 112 (by decide)).trans E112
            clear n
            refine stp O (wn1 (s := 106) rfl (by kernel_rfl) E106 rfl) rfl (by decide) (jpf (ev E112) (ev E117)) fun a O n E118 => ?_
            replace E106 := (n 106 (by decide)).trans E106
            clear n
            refine stp O (wn0 rfl) rfl (by decide) (jpt (ev E106) (ev E118)) fun a O n E119 => ?_
            clear n
            refine stp O (wn0 rfl) rfl (by decide) (jmv (ev E119)) fun a O n E120 => ?_
            clear n
            exact J _ O E120
        intro a O E120
        refine cutT2 (a0 := a0) ?_ ?_
        · intro J
          rcases E2 with e2 | ⟨e2, f2⟩
          · refine stp O (wn1 (s := 120) rfl (by kernel_rfl) E120 rfl) rfl (by decide) (jfa0 (ev (O.at (.inl (by decide)) H5))) fun a O n E121 => ?_
            replace E120 := (n 120 (by decide)).trans E120
            clear n
            refine stp O (wn1 (s := 120) rfl (by kernel_rfl) E120 rfl) rfl (by decide) (jld (ev E121) j0) fun a O n E122 => ?_
            replace E120 := (n 120 (by decide)).trans E120
            clear n
            refine stp O (wn1 (s := 120) rfl (by kernel_rfl) E120 rfl) rfl (by decide) (jfa2 (ev (O.at (.inl (by decide)) H5))) fun a O n E123 => ?_
            replace E120 := (n 120 (by decide)).trans E120
            replace E122 := (n 122 (by decide)).trans E122
            clear n
            refine stp O (wn1 (s := 120) rfl (by kernel_rfl) E120 rfl) rfl (by decide) (jld (ev E123) j2) fun a O n E124 => ?_
            replace E120 := (n 120 (by decide)).trans E120
            replace E122 := (n 122 (by decide)).trans E122
            clear n
            refine stp O (wn1 (s := 120) rfl (by kernel_rfl) E120 rfl) rfl (by decide) (jad (ev E122) (ev E124) v1) fun a O n E125 => ?_
            replace E120 := (n 120 (by decide)).trans E120
            clear n
            refine stp O (wn1 (s := 120) rfl (by kernel_rfl) E120 rfl) rfl (by decide) (jfa0 (ev (O.at (.inl (by decide)) H2))) fun a O n E126 => ?_
            replace E120 := (n 120 (by decide)).trans E120
            replace E125 := (n 125 (by decide)).trans E125
            clear n
            refine stp O (wn1 (s := 120) rfl (by kernel_rfl) E120 rfl) rfl (by decide) (jld (ev E126) c0) fun a O n E127 => ?_
            replace E120 := (n 120 (by decide)).trans E120
            replace E125 := (n 125 (by decide)).trans E125
            clear n
            refine stp O (wn1 (s := 120) rfl (by kernel_rfl) E120 rfl) rfl (by decide) (jfa2 (ev (O.at (.inl (by decide)) H2))) fun a O n E128 => ?_
            replace E120 := (n 120 (by decide)).trans E120
            replace E125 := (n 125 (by decide)).trans E125
            replace E127 := (n 127 (by decide)).trans E127
            clear n
            refine stp O (wn1 (s := 120) rfl (by kernel_rfl) E120 rfl) rfl (by decide) (jld (ev E128) c2) fun a O n E129 => ?_
            replace E120 := (n 120 (by decide)).trans E120
            replace E125 := (n 125 (by decide)).trans E125
            replace E127 := (n 127 (by decide)).trans E127
            clear n
            refine stp O (wn1 (s := 120) rfl (by kernel_rfl) E120 rfl) rfl (by decide) (jad (ev E127) (ev E129) v3) fun a O n E130 => ?_
            replace E120 := (n 120 (by decide)).trans E120
            replace E125 := (n 125 (by decide)).trans E125
            clear n
            refine stp O (wn1 (s := 120) rfl (by kernel_rfl) E120 rfl) rfl (by decide) (jeq (ev E125) (ev E130) e2) fun a O n E131 => ?_
            replace E120 := (n 120 (by decide)).trans E120
            clear n
            refine stp O (wn1 (s := 120) rfl (by kernel_rfl) E120 rfl) rfl (by decide) (jmv (ev E131)) fun a O n E132 => ?_
            replace E120 := (n 120 (by decide)).trans E120
            clear n
            refine skp O (wn1 (s := 132) rfl (by kernel_rfl) E132 rfl) rfl (by decide) fun a O n => ?_
            replace E120 := (n 120 (by decide)).trans E120
            replace E132 := (n 132 (by decide)).trans E132
            clear n
            refine skp O (wn1 (s := 132) rfl (by kernel_rfl) E132 rfl) rfl (by decide) fun a O n => ?_
            replace E120 := (n 120 (by decide)).trans E120
            replace E132 := (n 132 (by decide)).trans E132
            clear n
            refine skp O (wn1 (s := 132) rfl (by kernel_rfl) E132 rfl) rfl (by decide) fun a O n => ?_
            replace E120 := (n 120 (by decide)).trans E120
            replace E132 := (n 132 (by decide)).trans E132
            clear n
            refine skp O (wn1 (s := 132) rfl (by kernel_rfl) E132 rfl) rfl (by decide) fun a O n => ?_
            replace E120 := (n 120 (by decide)).trans E120
            replace E132 := (n 132 (by decide)).trans E132
            clear n
            refine skp O (wn1 (s := 132) rfl (by kernel_rfl) E132 rfl) rfl (by decide) fun a O n => ?_
            replace E120 := (n 120 (by decide)).trans E120
            replace E132 := (n 132 (by decide)).trans E132
            clear n
            refine skp O (wn1 (s := 132) rfl (by kernel_rfl) E132 rfl) rfl (by decide) fun a O n => ?_
            replace E120 := (n 120 (by decide)).trans E120
            replace E132 := (n 132 (by decide)).trans E132
            clear n
            refine skp O (wn1 (s := 132) rfl (by kernel_rfl) E132 rfl) rfl (by decide) fun a O n => ?_
            replace E120 := (n 120 (by decide)).trans E120
            replace E132 := (n 132 (by decide)).trans E132
            clear n
            refine skp O (wn1 (s := 132) rfl (by kernel_rfl) E132 rfl) rfl (by decide) fun a O n => ?_
            replace E120 := (n 120 (by decide)).trans E120
            replace E132 := (n 132 (by decide)).trans E132
            clear n
            refine skp O (wn1 (s := 132) rfl (by kernel_rfl) E132 rfl) rfl (by decide) fun a O n => ?_
            replace E120 := (n 120 (by decide)).trans E120
            replace E132 := (n 132 (by decide)).trans E132
            clear n
            refine skp O (wn1 (s := 132) rfl (by kernel_rfl) E132 rfl) rfl (by decide) fun a O n => ?_
            replace E120 := (n 120 (by decide)).trans E120
            replace E132 := (n 132 (by decide)).trans E132
            clear n
            refine skp O (wn1 (s := 132) rfl (by kernel_rfl) E132 rfl) rfl (by decide) fun a O n => ?_
            replace E120 := (n 120 (by decide)).trans E120
            replace E132 := (n 132 (by decide)).trans E132
            clear n
            refine stp O (wn1 (s := 120) rfl (by kernel_rfl) E120 rfl) rfl (by decide) (jpt (ev E132) rfl) fun a O n E144 => ?_
            replace E120 := (n 120 (by decide)).trans E120
            clear n
            refine stp O (wn0 rfl) rfl (by decide) (jpt (ev E120) (ev E144)) fun a O n E145 => ?_
            clear n
            refine stp O (wn0 rfl) rfl (by decide) (jmv (ev E145)) fun a O n E146 => ?_
            clear n
            exact J _ O E146
          · refine stp O (wn1 (s := 120) rfl (by kernel_rfl) E120 rfl) rfl (by decide) (jfa0 (ev (O.at (.inl (by decide)) H5))) fun a O n E121 => ?_
            replace E120 := (n 120 (by decide)).trans E120
            clear n
            refine stp O (wn1 (s := 120) rfl (by kernel_rfl) E120 rfl) rfl (by decide) (jld (ev E121) j0) fun a O n E122 => ?_
            replace E120 := (n 120 (by decide)).trans E120
            clear n
            refine stp O (wn1 (s := 120) rfl (by kernel_rfl) E120 rfl) rfl (by decide) (jfa2 (ev (O.at (.inl (by decide)) H5))) fun a O n E123 => ?_
            replace E120 := (n 120 (by decide)).trans E120
            replace E122 := (n 122 (by decide)).trans E122
            clear n
            refine stp O (wn1 (s := 120) rfl (by kernel_rfl) E120 rfl) rfl (by decide) (jld (ev E123) j2) fun a O n E124 => ?_
            replace E120 := (n 120 (by decide)).trans E120
            replace E122 := (n 122 (by decide)).trans E122
            clear n
            refine stp O (wn1 (s := 120) rfl (by kernel_rfl) E120 rfl) rfl (by decide) (jad (ev E122) (ev E124) v1) fun a O n E125 => ?_
            replace E120 := (n 120 (by decide)).trans E120
            clear n
            refine stp O (wn1 (s := 120) rfl (by kernel_rfl) E120 rfl) rfl (by decide) (jfa0 (ev (O.at (.inl (by decide)) H2))) fun a O n E126 => ?_
            replace E120 := (n 120 (by decide)).trans E120
            replace E125 := (n 125 (by decide)).trans E125
            clear n
            refine stp O (wn1 (s := 120) rfl (by kernel_rfl) E120 rfl) rfl (by decide) (jld (ev E126) c0) fun a O n E127 => ?_
            replace E120 := (n 120 (by decide)).trans E120
            replace E125 := (n 125 (by decide)).trans E125
            clear n
            refine stp O (wn1 (s := 120) rfl (by kernel_rfl) E120 rfl) rfl (by decide) (jfa2 (ev (O.at (.inl (by decide)) H2))) fun a O n E128 => ?_
            replace E120 := (n 120 (by decide)).trans E120
            replace E125 := (n 125 (by decide)).trans E125
            replace E127 := (n 127 (by decide)).trans E127
            clear n
            refine stp O (wn1 (s := 120) rfl (by kernel_rfl) E120 rfl) rfl (by decide) (jld (ev E128) c2) fun a O n E129 => ?_
            replace E120 := (n 120 (by decide)).trans E120
            replace E125 := (n 125 (by decide)).trans E125
            replace E127 := (n 127 (by decide)).trans E127
            clear n
            refine stp O (wn1 (s := 120) rfl (by kernel_rfl) E120 rfl) rfl (by decide) (jad (ev E127) (ev E129) v3) fun a O n E130 => ?_
            replace E120 := (n 120 (by decide)).trans E120
            replace E125 := (n 125 (by decide)).trans E125
            clear n
            refine stp O (wn1 (s := 120) rfl (by kernel_rfl) E120 rfl) rfl (by decide) (jeq (ev E125) (ev E130) e2) fun a O n E131 => ?_
            replace E120 := (n 120 (by decide)).trans E120
            clear n
            refine stp O (wn1 (s := 120) rfl (by kernel_rfl) E120 rfl) rfl (by decide) (jmv (ev E131)) fun a O n E132 => ?_
            replace E120 := (n 120 (by decide)).trans E120
            clear n
            refine stp O (wn1 (s := 132) rfl (by kernel_rfl) E132 rfl) rfl (by decide) (jfa0 (ev (O.at (.inl (by decide)) H5))) fun a O n E133 => ?_
            replace E120 := (n 120 (by decide)).trans E120
            replace E132 := (n 132 (by decide)).trans E132
            clear n
            refine stp O (wn1 (s := 132) rfl (by kernel_rfl) E132 rfl) rfl (by decide) (jld (ev E133) j0) fun a O n E134 => ?_
            replace E120 := (n 120 (by decide)).trans E120
            replace E132 := (n 132 (by decide)).trans E132
            clear n
            refine stp O (wn1 (s := 132) rfl (by kernel_rfl) E132 rfl) rfl (by decide) (jfa2 (ev (O.at (.inl (by decide)) H5))) fun a O n E135 => ?_
            replace E120 := (n 120 (by decide)).trans E120
            replace E132 := (n 132 (by decide)).trans E132
            replace E134 := (n 134 (by decide)).trans E134
            clear n
            refine stp O (wn1 (s := 132) rfl (by kernel_rfl) E132 rfl) rfl (by decide) (jld (ev E135) j2) fun a O n E136 => ?_
            replace E120 := (n 120 (by decide)).trans E120
            replace E132 := (n 132 (by decide)).trans E132
            replace E134 := (n 134 (by decide)).trans E134
            clear n
            refine stp O (wn1 (s := 132) rfl (by kernel_rfl) E132 rfl) rfl (by decide) (jad (ev E134) (ev E136) v1) fun a O n E137 => ?_
            replace E120 := (n 120 (by decide)).trans E120
            replace E132 := (n 132 (by decide)).trans E132
            clear n
            refine stp O (wn1 (s := 132) rfl (by kernel_rfl) E132 rfl) rfl (by decide) (jfa0 (ev (O.at (.inl (by decide)) H3))) fun a O n E138 => ?_
            replace E120 := (n 120 (by decide)).trans E120
            replace E132 := (n 132 (by decide)).trans E132
            replace E137 := (n 137 (by decide)).trans E137
            clear n
            refine stp O (wn1 (s := 132) rfl (by kernel_rfl) E132 rfl) rfl (by decide) (jld (ev E138) d0) fun a O n E139 => ?_
            replace E120 := (n 120 (by decide)).trans E120
            replace E132 := (n 132 (by decide)).trans E132
            replace E137 := (n 137 (by decide)).trans E137
            clear n
            refine stp O (wn1 (s := 132) rfl (by kernel_rfl) E132 rfl) rfl (by decide) (jfa2 (ev (O.at (.inl (by decide)) H3))) fun a O n E140 => ?_
            replace E120 := (n 120 (by decide)).trans E120
            replace E132 := (n 132 (by decide)).trans E132
            replace E137 := (n 137 (by decide)).trans E137
            replace E139 := (n 139 (by decide)).trans E139
            clear n
            refine stp O (wn1 (s := 132) rfl (by kernel_rfl) E132 rfl) rfl (by decide) (jld (ev E140) d2) fun a O n E141 => ?_
            replace E120 := (n 120 (by decide)).trans E120
            replace E132 := (n 132 (by decide)).trans E132
            replace E137 := (n 137 (by decide)).trans E137
            replace E139 := (n 139 (by decide)).trans E139
            clear n
            refine stp O (wn1 (s := 132) rfl (by kernel_rfl) E132 rfl) rfl (by decide) (jad (ev E139) (ev E141) v5) fun a O n E142 => ?_
            replace E120 := (n 120 (by decide)).trans E120
            replace E132 := (n 132 (by decide)).trans E132
            replace E137 := (n 137 (by decide)).trans E137
            clear n
            refine stp O (wn1 (s := 132) rfl (by kernel_rfl) E132 rfl) rfl (by decide) (jeq (ev E137) (ev E142) f2) fun a O n E143 => ?_
            replace E120 := (n 120 (by decide)).trans E120
            replace E132 := (n 132 (by decide)).trans E132
            clear n
            refine stp O (wn1 (s := 120) rfl (by kernel_rfl) E120 rfl) rfl (by decide) (jpf (ev E132) (ev E143)) fun a O n E144 => ?_
            replace E120 := (n 120 (by decide)).trans E120
            clear n
            refine stp O (wn0 rfl) rfl (by decide) (jpt (ev E120) (ev E144)) fun a O n E145 => ?_
            clear n
            refine stp O (wn0 rfl) rfl (by decide) (jmv (ev E145)) fun a O n E146 => ?_
            clear n
            exact J _ O E146
        intro a O E146
        refine cutT3 (a0 := a0) ?_ ?_
        · intro J
          rcases E3 with e3 | ⟨e3, f3⟩
          · refine stp O (wn1 (s := 146) rfl (by kernel_rfl) E146 rfl) rfl (by decide) (jfa1 (ev (O.at (.inl (by decide)) H5))) fun a O n E147 => ?_
            replace E146 := (n 146 (by decide)).trans E146
            clear n
            refine stp O (wn1 (s := 146) rfl (by kernel_rfl) E146 rfl) rfl (by decide) (jld (ev E147) j1) fun a O n E148 => ?_
            replace E146 := (n 146 (by decide)).trans E146
            clear n
            refine stp O (wn1 (s := 146) rfl (by kernel_rfl) E146 rfl) rfl (by decide) (jfa3 (ev (O.at (.inl (by decide)) H5))) fun a O n E149 => ?_
            replace E146 := (n 146 (by decide)).trans E146
            replace E148 := (n 148 (by decide)).trans E148
            clear n
            refine stp O (wn1 (s := 146) rfl (by kernel_rfl) E146 rfl) rfl (by decide) (jld (ev E149) j3) fun a O n E150 => ?_
            replace E146 := (n 146 (by decide)).trans E146
            replace E148 := (n 148 (by decide)).trans E148
            clear n
            refine stp O (wn1 (s := 146) rfl (by kernel_rfl) E146 rfl) rfl (by decide) (jad (ev E148) (ev E150) v2) fun a O n E151 => ?_
            replace E146 := (n 146 (by decide)).trans E146
            clear n
            refine stp O (wn1 (s := 146) rfl (by kernel_rfl) E146 rfl) rfl (by decide) (jfa1 (ev (O.at (.inl (by decide)) H2))) fun a O n E152 => ?_
            replace E146 := (n 146 (by decide)).trans E146
            replace E151 := (n 151 (by decide)).trans E151
            clear n
            refine stp O (wn1 (s := 146) rfl (by kernel_rfl) E146 rfl) rfl (by decide) (jld (ev E152) c1) fun a O n E153 => ?_
            replace E146 := (n 146 (by decide)).trans E146
            replace E151 := (n 151 (by decide)).trans E151
            clear n
            refine stp O (wn1 (s := 146) rfl (by kernel_rfl) E146 rfl) rfl (by decide) (jfa3 (ev (O.at (.inl (by decide)) H2))) fun a O n E154 => ?_
            replace E146 := (n 146 (by decide)).trans E146
            replace E151 := (n 151 (by decide)).trans E151
            replace E153 := (n 153 (by decide)).trans E153
            clear n
            refine stp O (wn1 (s := 146) rfl (by kernel_rfl) E146 rfl) rfl (by decide) (jld (ev E154) c3) fun a O n E155 => ?_
            replace E146 := (n 146 (by decide)).trans E146
            replace E151 := (n 151 (by decide)).trans E151
            replace E153 := (n 153 (by decide)).trans E153
            clear n
            refine stp O (wn1 (s := 146) rfl (by kernel_rfl) E146 rfl) rfl (by decide) (jad (ev E153) (ev E155) v4) fun a O n E156 => ?_
            replace E146 := (n 146 (by decide)).trans E146
            replace E151 := (n 151 (by decide)).trans E151
            clear n
            refine stp O (wn1 (s := 146) rfl (by kernel_rfl) E146 rfl) rfl (by decide) (jeq (ev E151) (ev E156) e3) fun a O n E157 => ?_
            replace E146 := (n 146 (by decide)).trans E146
            clear n
            refine stp O (wn1 (s := 146) rfl (by kernel_rfl) E146 rfl) rfl (by decide) (jmv (ev E157)) fun a O n E158 => ?_
            replace E146 := (n 146 (by decide)).trans E146
            clear n
            refine skp O (wn1 (s := 158) rfl (by kernel_rfl) E158 rfl) rfl (by decide) fun a O n => ?_
            replace E146 := (n 146 (by decide)).trans E146
            replace E158 := (n 158 (by decide)).trans E158
            clear n
            refine skp O (wn1 (s := 158) rfl (by kernel_rfl) E158 rfl) rfl (by decide) fun a O n => ?_
            replace E146 := (n 146 (by decide)).trans E146
            replace E158 := (n 158 (by decide)).trans E158
            clear n
            refine skp O (wn1 (s := 158) rfl (by kernel_rfl) E158 rfl) rfl (by decide) fun a O n => ?_
            replace E146 := (n 146 (by decide)).trans E146
            replace E158 := (n 158 (by decide)).trans E158
            clear n
            refine skp O (wn1 (s := 158) rfl (by kernel_rfl) E158 rfl) rfl (by decide) fun a O n => ?_
            replace E146 := (n 146 (by decide)).trans E146
            replace E158 := (n 158 (by decide)).trans E158
            clear n
            refine skp O (wn1 (s := 158) rfl (by kernel_rfl) E158 rfl) rfl (by decide) fun a O n => ?_
            replace E146 := (n 146 (by decide)).trans E146
            replace E158 := (n 158 (by decide)).trans E158
            clear n
            refine skp O (wn1 (s := 158) rfl (by kernel_rfl) E158 rfl) rfl (by decide) fun a O n => ?_
            replace E146 := (n 146 (by decide)).trans E146
            replace E158 := (n 158 (by decide)).trans E158
            clear n
            refine skp O (wn1 (s := 158) rfl (by kernel_rfl) E158 rfl) rfl (by decide) fun a O n => ?_
            replace E146 := (n 146 (by decide)).trans E146
            replace E158 := (n 158 (by decide)).trans E158
            clear n
            refine skp O (wn1 (s := 158) rfl (by kernel_rfl) E158 rfl) rfl (by decide) fun a O n => ?_
            replace E146 := (n 146 (by decide)).trans E146
            replace E158 := (n 158 (by decide)).trans E158
            clear n
            refine skp O (wn1 (s := 158) rfl (by kernel_rfl) E158 rfl) rfl (by decide) fun a O n => ?_
            replace E146 := (n 146 (by decide)).trans E146
            replace E158 := (n 158 (by decide)).trans E158
            clear n
            refine skp O (wn1 (s := 158) rfl (by kernel_rfl) E158 rfl) rfl (by decide) fun a O n => ?_
            replace E146 := (n 146 (by decide)).trans E146
            replace E158 := (n 158 (by decide)).trans E158
            clear n
            refine skp O (wn1 (s := 158) rfl (by kernel_rfl) E158 rfl) rfl (by decide) fun a O n => ?_
            replace E146 := (n 146 (by decide)).trans E146
            replace E158 := (n 158 (by decide)).trans E158
            clear n
            refine stp O (wn1 (s := 146) rfl (by kernel_rfl) E146 rfl) rfl (by decide) (jpt (ev E158) rfl) fun a O n E170 => ?_
            replace E146 := (n 146 (by decide)).trans E146
            clear n
            refine stp O (wn0 rfl) rfl (by decide) (jpt (ev E146) (ev E170)) fun a O n E171 => ?_
            clear n
            exact J _ O E171
          · refine stp O (wn1 (s := 146) rfl (by kernel_rfl) E146 rfl) rfl (by decide) (jfa1 (ev (O.at (.inl (by decide)) H5))) fun a O n E147 => ?_
            replace E146 := (n 146 (by decide)).trans E146
            clear n
            refine stp O (wn1 (s := 146) rfl (by kernel_rfl) E146 rfl) rfl (by decide) (jld (ev E147) j1) fun a O n E148 => ?_
            replace E146 := (n 146 (by decide)).trans E146
            clear n
            refine stp O (wn1 (s := 146) rfl (by kernel_rfl) E146 rfl) rfl (by decide) (jfa3 (ev (O.at (.inl (by decide)) H5))) fun a O n E149 => ?_
            replace E146 := (n 146 (by decide)).trans E146
            replace E148 := (n 148 (by decide)).trans E148
            clear n
            refine stp O (wn1 (s := 146) rfl (by kernel_rfl) E146 rfl) rfl (by decide) (jld (ev E149) j3) fun a O n E150 => ?_
            replace E146 := (n 146 (by decide)).trans E146
            replace E148 := (n 148 (by decide)).trans E148
            clear n
            refine stp O (wn1 (s := 146) rfl (by kernel_rfl) E146 rfl) rfl (by decide) (jad (ev E148) (ev E150) v2) fun a O n E151 => ?_
            replace E146 := (n 146 (by decide)).trans E146
            clear n
            refine stp O (wn1 (s := 146) rfl (by kernel_rfl) E146 rfl) rfl (by decide) (jfa1 (ev (O.at (.inl (by decide)) H2))) fun a O n E152 => ?_
            replace E146 := (n 146 (by decide)).trans E146
            replace E151 := (n 151 (by decide)).trans E151
            clear n
            refine stp O (wn1 (s := 146) rfl (by kernel_rfl) E146 rfl) rfl (by decide) (jld (ev E152) c1) fun a O n E153 => ?_
            replace E146 := (n 146 (by decide)).trans E146
            replace E151 := (n 151 (by decide)).trans E151
            clear n
            refine stp O (wn1 (s := 146) rfl (by kernel_rfl) E146 rfl) rfl (by decide) (jfa3 (ev (O.at (.inl (by decide)) H2))) fun a O n E154 => ?_
            replace E146 := (n 146 (by decide)).trans E146
            replace E151 := (n 151 (by decide)).trans E151
            replace E153 := (n 153 (by decide)).trans E153
            clear n
            refine stp O (wn1 (s := 146) rfl (by kernel_rfl) E146 rfl) rfl (by decide) (jld (ev E154) c3) fun a O n E155 => ?_
            replace E146 := (n 146 (by decide)).trans E146
            replace E151 := (n 151 (by decide)).trans E151
            replace E153 := (n 153 (by decide)).trans E153
            clear n
            refine stp O (wn1 (s := 146) rfl (by kernel_rfl) E146 rfl) rfl (by decide) (jad (ev E153) (ev E155) v4) fun a O n E156 => ?_
            replace E146 := (n 146 (by decide)).trans E146
            replace E151 := (n 151 (by decide)).trans E151
            clear n
            refine stp O (wn1 (s := 146) rfl (by kernel_rfl) E146 rfl) rfl (by decide) (jeq (ev E151) (ev E156) e3) fun a O n E157 => ?_
            replace E146 := (n 146 (by decide)).trans E146
            clear n
            refine stp O (wn1 (s := 146) rfl (by kernel_rfl) E146 rfl) rfl (by decide) (jmv (ev E157)) fun a O n E158 => ?_
            replace E146 := (n 146 (by decide)).trans E146
            clear n
            refine stp O (wn1 (s := 158) rfl (by kernel_rfl) E158 rfl) rfl (by decide) (jfa1 (ev (O.at (.inl (by decide)) H5))) fun a O n E159 => ?_
            replace E146 := (n 146 (by decide)).trans E146
            replace E158 := (n 158 (by decide)).trans E158
            clear n
            refine stp O (wn1 (s := 158) rfl (by kernel_rfl) E158 rfl) rfl (by decide) (jld (ev E159) j1) fun a O n E160 => ?_
            replace E146 := (n 146 (by decide)).trans E146
            replace E158 := (n 158 (by decide)).trans E158
            clear n
            refine stp O (wn1 (s := 158) rfl (by kernel_rfl) E158 rfl) rfl (by decide) (jfa3 (ev (O.at (.inl (by decide)) H5))) fun a O n E161 => ?_
            replace E146 := (n 146 (by decide)).trans E146
            replace E158 := (n 158 (by decide)).trans E158
            replace E160 := (n 160 (by decide)).trans E160
            clear n
            refine stp O (wn1 (s := 158) rfl (by kernel_rfl) E158 rfl) rfl (by decide) (jld (ev E161) j3) fun a O n E162 => ?_
            replace E146 := (n 146 (by decide)).trans E146
            replace E158 := (n 158 (by decide)).trans E158
            replace E160 := (n 160 (by decide)).trans E160
            clear n
            refine stp O (wn1 (s := 158) rfl (by kernel_rfl) E158 rfl) rfl (by decide) (jad (ev E160) (ev E162) v2) fun a O n E163 => ?_
            replace E146 := (n 146 (by decide)).trans E146
            replace E158 := (n 158 (by decide)).trans E158
            clear n
            refine stp O (wn1 (s := 158) rfl (by kernel_rfl) E158 rfl) rfl (by decide) (jfa1 (ev (O.at (.inl (by decide)) H3))) fun a O n E164 => ?_
            replace E146 := (n 146 (by decide)).trans E146
            replace E158 := (n 158 (by decide)).trans E158
            replace E163 := (n 163 (by decide)).trans E163
            clear n
            refine stp O (wn1 (s := 158) rfl (by kernel_rfl) E158 rfl) rfl (by decide) (jld (ev E164) d1) fun a O n E165 => ?_
            replace E146 := (n 146 (by decide)).trans E146
            replace E158 := (n 158 (by decide)).trans E158
            replace E163 := (n 163 (by decide)).trans E163
            clear n
            refine stp O (wn1 (s := 158) rfl (by kernel_rfl) E158 rfl) rfl (by decide) (jfa3 (ev (O.at (.inl (by decide)) H3))) fun a O n E166 => ?_
            replace E146 := (n 146 (by decide)).trans E146
            replace E158 := (n 158 (by decide)).trans E158
            replace E163 := (n 163 (by decide)).trans E163
            replace E165 := (n 165 (by decide)).trans E165
            clear n
            refine stp O (wn1 (s := 158) rfl (by kernel_rfl) E158 rfl) rfl (by decide) (jld (ev E166) d3) fun a O n E167 => ?_
            replace E146 := (n 146 (by decide)).trans E146
            replace E158 := (n 158 (by decide)).trans E158
            replace E163 := (n 163 (by decide)).trans E163
            replace E165 := (n 165 (by decide)).trans E165
            clear n
            refine stp O (wn1 (s := 158) rfl (by kernel_rfl) E158 rfl) rfl (by decide) (jad (ev E165) (ev E167) v6) fun a O n E168 => ?_
            replace E146 := (n 146 (by decide)).trans E146
            replace E158 := (n 158 (by decide)).trans E158
            replace E163 := (n 163 (by decide)).trans E163
            clear n
            refine stp O (wn1 (s := 158) rfl (by kernel_rfl) E158 rfl) rfl (by decide) (jeq (ev E163) (ev E168) f3) fun a O n E169 => ?_
            replace E146 := (n 146 (by decide)).trans E146
            replace E158 := (n 158 (by decide)).trans E158
            clear n
            refine stp O (wn1 (s := 146) rfl (by kernel_rfl) E146 rfl) rfl (by decide) (jpf (ev E158) (ev E169)) fun a O n E170 => ?_
            replace E146 := (n 146 (by decide)).trans E146
            clear n
            refine stp O (wn0 rfl) rfl (by decide) (jpt (ev E146) (ev E170)) fun a O n E171 => ?_
            clear n
            exact J _ O E171
        intro a O E171
        exact J8 _ O E171
      · intro a1 O E171
        refine jlast (wn0 rfl) rfl (jas (ev E171)) (by rw [O.size]; show 8 < 193; decide) fun a h8 hk hs hd => ?_
        obtain ⟨m, hm, rfl⟩ := fin_of rfl O h8 hk hs hd
        clear h8 hk hs hd O E171
        revert hm
        revert m
        refine jfin ?_
        intro u94 u95 u96 u97 u98 u99 u100 u101 u102 u103 u104 u105 u106 u107 u108 u109 u110 u111 u112 u113 u114 u115 u116 u117 u118 u119 u120 u121 u122 u123 u124 u125 u126 u127 u128 u129 u130 u131 u132 u133 u134 u135 u136 u137 u138 u139 u140 u141 u142 u143 u144 u145 u146 u147 u148 u149 u150 u151 u152 u153 u154 u155 u156 u157 u158 u159 u160 u161 u162 u163 u164 u165 u166 u167 u168 u169 u170 u171
        go_wp2_with fail
        go_meet
        exact ⟨rfl, by assumption⟩
    case rest =>
      obtain ⟨rfl, hSe⟩ := hcut
      have hbe := last12 hSe
      have hse := hbe.size
      have hSf : wc.cell? ⟨w.heap.size, 0, none⟩ = some (.int .i64 x) ∧ wc.cell? ⟨w.heap.size, 1, none⟩ = some (.int .i64 y) ∧ wc.cell? ⟨w.heap.size, 2, none⟩ = some (.int .i64 m) ∧ wc.cell? ⟨w.heap.size, 3, none⟩ = some (.int .i64 n) ∧ wc.cell? ⟨w.heap.size + 1, 0, none⟩ = some (.int .i64 x') ∧ wc.cell? ⟨w.heap.size + 1, 1, none⟩ = some (.int .i64 y') ∧ wc.cell? ⟨w.heap.size + 1, 2, none⟩ = some (.int .i64 m') ∧ wc.cell? ⟨w.heap.size + 1, 3, none⟩ = some (.int .i64 n') ∧ wc.cell? ⟨w1.heap.size, 0, none⟩ = some (.int .i64 px) ∧ wc.cell? ⟨w1.heap.size, 1, none⟩ = some (.int .i64 py) ∧ wc.cell? ⟨w1.heap.size, 2, none⟩ = some (.int .i64 pw) ∧ wc.cell? ⟨w1.heap.size, 3, none⟩ = some (.int .i64 ph) := by
        obtain ⟨g0, g1, g2, g3, g4, g5, g6, g7, g8, g9, g10, g11, _⟩ := hSe
        exact ⟨g0, g1, g2, g3, g4, g5, g6, g7, g8, g9, g10, g11⟩
      have lwc_0 : w.heap.size < wc.heap.size := by omega
      have lwc_1 : w.heap.size + 1 < wc.heap.size := by omega
      have lwc_2 : w1.heap.size < wc.heap.size := by omega
      clear hSe
      have hw1 : IntKind.i64.wrap (pw * ph) = pw * ph := IntWalk.i64_in _ (by omega)
      have hw2 : IntKind.i64.wrap (m * n) = m * n := IntWalk.i64_in _ (by omega)
      have hw3 : IntKind.i64.wrap (pw * ph - m * n) = pw * ph - m * n := IntWalk.i64_in _ (by omega)
      go_upto_region 12 with fail
      go_region_held3 (fun w' => w'.cell? ⟨w.heap.size, 0, none⟩ = some (.int .i64 x) ∧ w'.cell? ⟨w.heap.size, 1, none⟩ = some (.int .i64 y) ∧ w'.cell? ⟨w.heap.size, 2, none⟩ = some (.int .i64 m) ∧ w'.cell? ⟨w.heap.size, 3, none⟩ = some (.int .i64 n) ∧ w'.cell? ⟨w.heap.size + 1, 0, none⟩ = some (.int .i64 x') ∧ w'.cell? ⟨w.heap.size + 1, 1, none⟩ = some (.int .i64 y') ∧ w'.cell? ⟨w.heap.size + 1, 2, none⟩ = some (.int .i64 m') ∧ w'.cell? ⟨w.heap.size + 1, 3, none⟩ = some (.int .i64 n') ∧ w'.cell? ⟨w1.heap.size, 0, none⟩ = some (.int .i64 px) ∧ w'.cell? ⟨w1.heap.size, 1, none⟩ = some (.int .i64 py) ∧ w'.cell? ⟨w1.heap.size, 2, none⟩ = some (.int .i64 pw) ∧ w'.cell? ⟨w1.heap.size, 3, none⟩ = some (.int .i64 ph) ∧ Below wc.heap.size wc w') (first | exact keep12 lwc_0 lwc_1 lwc_2 (Below.refl _ _) hSf | exact keep12 lwc_0 lwc_1 lwc_2 (Below.refl _ _).drew hSf | exact keep12 lwc_0 lwc_1 lwc_2 (more12 (by assumption) (by assumption)) hSf)
        (first
      | (go_at_call 9; refine (ref_any _ _ _ _ _).mono ?_; rintro e wq ⟨rfl, hbq⟩)
      | (go_at_call 8; refine (refRight_any _ _ _ _ _).mono ?_; rintro e wq ⟨rfl, hbq⟩)
      | (go_at_call 16; refine (right_any _ _ _ _ _).mono ?_; rintro e wq ⟨rfl, hbq⟩)
      | (go_at_call 14; refine (in_any _ _ _ _ _ _ _ _ _).mono ?_; rintro e wq ⟨rfl, hbq⟩)
      | (go_at_call 18; refine (growth_as _ _ _ _ _ _ _ _ _ HG.out).mono ?_; rintro e wq ⟨rfl, hbq⟩)
      | (go_at_call 17; refine (join_as2 _ _ _ _ _ _ _ _ _ _ _ _ _ HJ2.out).mono ?_; rintro e wq ⟨rfl, hbq⟩)
      | (go_at_call 10; refine (awake_any _).mono ?_; rintro e wq ⟨rfl, hbq⟩))
      all_goals go_wp2
      all_goals go_ret
      all_goals refine ⟨rfl, ?_⟩
      repeat' (first | with_reducible assumption | with_reducible refine Below.setCell ?_ ?_ _ | with_reducible refine below_drewN ?_ _ | with_reducible refine Below.drew ?_ | with_reducible refine balloc ?_ _ | with_reducible exact Below.refl _ _ | with_reducible refine bstep ?_ (by assumption) | with_reducible refine Below.alloc ?_ ?_ _ | with_reducible refine bthrough ?_ (by assumption) ?_)
      all_goals (first | omega | (simp; done) | (simp; omega))

end Go.Proofs.Ytipfngliahhhiaa
