/-
  Package rect: Common, Meets, In, Holds, Area, Join, Growth, for every input.
-/
import Derived.Test.YtdpdkjpkehgdnaaRectA
namespace Go.Proofs.Ytdpdkjpkehgdnaa
open Go.RowKit

theorem of_rightB {x y m n : Int} (h : rightB x y m n = true) : (0 ≤ x ∧ x < 256 ∧ 1 ≤ m ∧ m ≤ 256 - x) ∧ (0 ≤ y ∧ y < 256 ∧ 1 ≤ n ∧ n ≤ 256 - y) := by
  simp only [rightB, Bool.and_eq_true] at h
  exact ⟨of_sideB h.1, of_sideB h.2⟩

set_option maxHeartbeats 400000 in
theorem common_yes (x y m n x' y' m' n' : Int) (w : World) (h1 : rightB x y m n = true) (h2 : rightB x' y' m' n' = true) (h3 : max x x' < min (x + m) (x' + m')) (h4 : max y y' < min (y + n) (y' + n')) :
    Calls Try.prog 46 #[.agg #[.int .i64 x, .int .i64 y, .int .i64 m, .int .i64 n], .agg #[.int .i64 x', .int .i64 y', .int .i64 m', .int .i64 n']] w fun e w' =>
      e = .returned (.tuple #[.agg #[.int .i64 (max x x'), .int .i64 (max y y'), .int .i64 (min (x + m) (x' + m') - max x x'), .int .i64 (min (y + n) (y' + n') - max y y')], .bool true]) ∧ Below w.heap.size w w' := by
  obtain ⟨⟨a1, a2, a3, a4⟩, a5, a6, a7, a8⟩ := of_rightB h1
  obtain ⟨⟨b1, b2, b3, b4⟩, b5, b6, b7, b8⟩ := of_rightB h2
  go_enter Try.func46, Try.ntmps46
  go_wp2_with fail
  refine (right_any _ _ _ _ _).mono ?_
  rintro e w1 ⟨rfl, hb1⟩
  obtain ⟨c1, f1⟩ := bcell hb1
  have s1 := hb1.size
  simp at s1 c1 f1
  go_wp2_with fail
  refine (right_any _ _ _ _ _).mono ?_
  rintro e w2 ⟨rfl, hb2⟩
  replace hb2 := bstep hb1 hb2
  clear c1 f1 s1 hb1
  obtain ⟨c1, f1⟩ := bcell hb2
  have s1 := hb2.size
  simp at s1 c1 f1
  go_wp2_with fail
  refine (ends_any _ _ _ _ _ (by omega) (by omega) (by omega) (by omega)).mono ?_
  rintro e w3 ⟨rfl, hb3⟩
  replace hb3 := bstep hb2 hb3
  clear c1 f1 s1 hb2
  obtain ⟨c1, f1⟩ := bcell hb3
  have s1 := hb3.size
  simp at s1 c1 f1
  go_wp2_with fail
  refine (ends_any _ _ _ _ _ (by omega) (by omega) (by omega) (by omega)).mono ?_
  rintro e w4 ⟨rfl, hb4⟩
  replace hb4 := bstep hb3 hb4
  clear c1 f1 s1 hb3
  obtain ⟨c1, f1⟩ := bcell hb4
  have s1 := hb4.size
  simp at s1 c1 f1
  go_upto_region 5 with fail
  go_cut [10] (fun s10 wx => ∃ (g : Nat) (cx cy cw ch : Int), s10 = .pointer (some ⟨g, 0, none⟩) ∧ w.heap.size + 2 < g ∧ g < wx.heap.size ∧ wx.cell? ⟨g, 0, none⟩ = some (.int .i64 cx) ∧ wx.cell? ⟨g, 1, none⟩ = some (.int .i64 cy) ∧ wx.cell? ⟨g, 2, none⟩ = some (.int .i64 cw) ∧ wx.cell? ⟨g, 3, none⟩ = some (.int .i64 ch) ∧ 0 < cw ∧ Hid (cx = max x x' ∧ cy = max y y' ∧ cw = min (x + m) (x' + m') - max x x' ∧ ch = min (y + n) (y' + n') - max y y') ∧ Below (w.heap.size + 3) w4 wx)
  case first =>
    go_wp2_with fail
    all_goals refine (between_yes _ _ _ _ _ (by omega) (by omega) (by omega) (by omega) (by omega) (by omega)).mono ?_
    all_goals rintro e w5 ⟨rfl, hb5⟩
    all_goals go_wp2_with fail
    all_goals go_meet
    all_goals have hs5 := hb5.size
    all_goals refine ⟨_, _, _, _, _, rfl, by omega, by simp, by rw [World.cell?_alloc_new]; rfl, by rw [World.cell?_alloc_new]; rfl, by rw [World.cell?_alloc_new]; rfl, by rw [World.cell?_alloc_new]; rfl, by omega, ⟨by omega, by omega, by omega, by omega⟩, (hb5.mono (by omega)).alloc (by omega) _⟩
  case rest =>
    obtain ⟨g, cx, cy, cw, ch, rfl, hg1, hg2, hc0, hc1, hc2, hc3, hpos, HC, hbx⟩ := hcut
    clear c1 f1 s1 h3 h4
    have hb6 := hb4.trans (hbx.mono (by simp))
    obtain ⟨c1, f1⟩ := bcell hb6
    have s1 := hb6.size
    simp at s1 c1 f1
    go_wp2_with fail
    go_region
    go_wp2
    refine bodyPost_ret (v := .tuple #[.agg #[.int .i64 cx, .int .i64 cy, .int .i64 cw, .int .i64 ch], .bool true]) (by simp [results, Try.results46, go_sem, c1]) rfl ⟨?_, ?_⟩
    · obtain ⟨r1, r2, r3, r4⟩ := HC
      rw [r1, r2, r3, r4]
    · have hb7 := ((((Below.refl w.heap.size w).alloc (Nat.le_refl _) _).alloc (by simp) _).alloc (by simp; omega) _).trans (hb6.mono (by simp; omega))
      exact ((((hb7.setCell (by simp; omega) _).setCell (by simp; omega) _).setCell (by simp; omega) _).setCell (by simp; omega) _).drew

end Go.Proofs.Ytdpdkjpkehgdnaa
