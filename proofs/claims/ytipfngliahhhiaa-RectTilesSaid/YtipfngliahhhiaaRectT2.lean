/-
  The law's helpers over the iterator: small, count (of a rectangle that is not right), first.
-/
import Derived.Test.YtipfngliahhhiaaRectT
namespace Go.Proofs.Ytipfngliahhhiaa
open Go.RowKit Go.Shelf

attribute [local go_sem] Oper.semAt_some

def smallB (x y m n : Int) : Bool := !rightB x y m n || (decide (m ≤ 24) && decide (n ≤ 24))

set_option maxHeartbeats 400000 in
theorem small_any (x y m n : Int) (w : World) :
    Calls Try.prog 22 #[.agg #[.int .i64 x, .int .i64 y, .int .i64 m, .int .i64 n]] w fun e w' => e = .returned (.bool (smallB x y m n)) ∧ Below w.heap.size w w' := by
  cases h : rightB x y m n
  ·
    go_enter Try.func22, Try.ntmps22
    go_wp2_with fail
    refine (ref_any _ _ _ _ _).mono ?_
    rintro e w1 ⟨rfl, hbw1⟩
    obtain ⟨hcw1, hfw1⟩ := bcell hbw1
    have hsw1 := hbw1.size
    try simp at hcw1 hfw1 hsw1
    have lw1_0 : w.heap.size < w1.heap.size := by omega
    go_wp2_with fail
    refine (refRight_any _ _ _ _ _).mono ?_
    rintro e w2 ⟨rfl, hbw2⟩
    obtain ⟨hcw2, hfw2⟩ := bcell hbw2
    have hsw2 := hbw2.size
    try simp at hcw2 hfw2 hsw2
    have lw2_0 : w.heap.size < w2.heap.size := by omega
    go_wp2
    go_ret
    refine ⟨ret_bool (by simp [smallB, h]), ?_⟩
    repeat' (first | with_reducible assumption | with_reducible refine Below.setCell ?_ ?_ _ | with_reducible refine below_drewN ?_ _ | with_reducible refine Below.drew ?_ | with_reducible refine balloc ?_ _ | with_reducible exact Below.refl _ _ | with_reducible refine bstep ?_ (by assumption) | with_reducible refine Below.alloc ?_ ?_ _ | with_reducible refine bthrough ?_ (by assumption) ?_)
    all_goals (first | omega | (simp; done) | (simp; omega))
  ·
    go_enter Try.func22, Try.ntmps22
    go_wp2_with fail
    refine (ref_any _ _ _ _ _).mono ?_
    rintro e w1 ⟨rfl, hbw1⟩
    obtain ⟨hcw1, hfw1⟩ := bcell hbw1
    have hsw1 := hbw1.size
    try simp at hcw1 hfw1 hsw1
    have lw1_0 : w.heap.size < w1.heap.size := by omega
    go_wp2_with fail
    refine (refRight_any _ _ _ _ _).mono ?_
    rintro e w2 ⟨rfl, hbw2⟩
    obtain ⟨hcw2, hfw2⟩ := bcell hbw2
    have hsw2 := hbw2.size
    try simp at hcw2 hfw2 hsw2
    have lw2_0 : w.heap.size < w2.heap.size := by omega
    go_wp2
    all_goals go_ret
    all_goals refine ⟨ret_bool (by rw [Bool.eq_iff_iff]; simp [smallB, h]; omega), ?_⟩
    repeat' (first | with_reducible assumption | with_reducible refine Below.setCell ?_ ?_ _ | with_reducible refine below_drewN ?_ _ | with_reducible refine Below.drew ?_ | with_reducible refine balloc ?_ _ | with_reducible exact Below.refl _ _ | with_reducible refine bstep ?_ (by assumption) | with_reducible refine Below.alloc ?_ ?_ _ | with_reducible refine bthrough ?_ (by assumption) ?_)
    all_goals (first | omega | (simp; done) | (simp; omega))

theorem seq_not_nil (p : Value) (w : World) : (binOp BinOp.neq 44 (.func (.func 29) #[] #[p]) .nilFunc).run Try.prog w = .ok (.bool true) w := by kernel_rfl

set_option maxRecDepth 100000 in
set_option maxHeartbeats 1000000 in
theorem count_no (x y m n : Int) (w : World) (hr : rightB x y m n = false) :
    Calls Try.prog 21 #[.agg #[.int .i64 x, .int .i64 y, .int .i64 m, .int .i64 n]] w fun e w' => e = .returned (.int .i64 0) ∧ Below w.heap.size w w' := by
  refine (callsIn_wide (n := 9)).1 ?_
  refine callsIn_of_wp_marks Try.func21 rfl trivial ?_ rfl
  simp only [Try.ntmps21, List.size_toArray, List.length_cons, List.length_nil, Nat.reduceAdd, Nat.reduceSub, Array.replicate_succ, Array.replicate_zero, List.push_toArray, List.append_toArray, List.nil_append, List.cons_append]
  have hnn := seq_not_nil
  gi_wp2_with (refine ⟨trivial, ?_⟩; gi_at_call 23; refine (callsIn_wide.2 (tiles_any _ _ _ _ _)).mono ?_; rintro e w1 ⟨rfl, rfl⟩)
  have hB0 : Below w.heap.size w (((w.alloc (.cells #[.int .i64 x, .int .i64 y, .int .i64 m, .int .i64 n] 23)).alloc (.cells #[.int .i64 0] 3)).alloc (.cells #[.int .i64 x, .int .i64 y, .int .i64 m, .int .i64 n] 23)) := balloc (balloc (balloc (Below.refl _ _) _) _) _
  refine wpIn_rangeFunc_ownF rfl (by omega) (gf := 29) (lb := #[.pointer (some ⟨w.heap.size + 1 + 1, 0, none⟩)]) rfl trivial (enters_of Try.func29 (by kernel_rfl) rfl)
    (tiles_stops_no 8 (by omega) (w.heap.size + 1 + 1) x y m n _ (by simp) hr (by simp [go_sem]) (by simp [go_sem]) (by simp [go_sem]) (by simp [go_sem])) keepB_t (keepB_b (by simp)) (Below.refl _ _) (fun _ => rfl)
    (fun pre W => (W.cell? ⟨w.heap.size + 1, 0, none⟩ = some (.int .i64 0) ∧ W.frozen? ⟨w.heap.size + 1, 0, none⟩ = false) ∧ Below w.heap.size w W)
    (fun _ _ _ => False)
    (OwnFrom.and (Own.from (fun s A B row hs hg hr => ⟨cell_kept hs.1 hg hr, (frozen_kept hs.1 hg hr).trans hs.2⟩) _) (ownFrom_below (Nat.le_refl _) (by simp; omega)))
    (fun _ _ _ _ _ hs _ _ => hs)
    ⟨⟨by simp [go_sem], by simp [go_sem]⟩, hB0⟩
    (fun p => { tmps := #[.agg #[.int .i64 x, .int .i64 y, .int .i64 m, .int .i64 n], .pointer (some ⟨w.heap.size, 0, none⟩), .int .i64 0, .pointer (some ⟨w.heap.size + 1, 0, none⟩), .func (.func 29) #[] #[.pointer (some ⟨w.heap.size + 1 + 1, 0, none⟩)], .agg #[.int .i64 x, .int .i64 y, .int .i64 m, .int .i64 n], .func (.func 29) #[] #[.pointer (some ⟨w.heap.size + 1 + 1, 0, none⟩)], .func (.func 29) #[] #[.pointer (some ⟨w.heap.size + 1 + 1, 0, none⟩)], .bool true, .func (.func 29) #[] #[.pointer (some ⟨w.heap.size + 1 + 1, 0, none⟩)], .int .i64 p.1, .int .i64 p.2, undef, undef, undef], defers := [] }) ?assign ?body ?done ?stop
  case assign =>
    intro l p W K hK
    gi_wp2
    simpa [encT] using hK
  case body =>
    rintro l pre p W _ h
    omega
  case done =>
    rintro D ys W hD rfl ⟨⟨hc, _⟩, hB⟩ hK
    gi_wp2
    refine ⟨by simp, .inl ⟨_, _, rfl, run_takeDeferred hK, ?_⟩⟩
    exact ⟨_, results_tmp rfl _ _ _, rfl, hB.trans (belowK_b (w := w) (Nat.le_refl _) W D _ _ (by simp at hD; omega) hK rfl rfl)⟩
  case stop =>
    rintro D c pre W _ _ h _
    exact h.elim

set_option maxRecDepth 100000 in
set_option maxHeartbeats 1000000 in
theorem first_yes (x y : Int) (M N : Nat) (w : World) (hr : rightB x y (M : Int) (N : Int) = true) :
    Calls Try.prog 24 #[.agg #[.int .i64 x, .int .i64 y, .int .i64 (M : Int), .int .i64 (N : Int)]] w fun e w' => e = .returned (.bool true) ∧ Below w.heap.size w w' := by
  obtain ⟨⟨a1, a2, a3, a4⟩, a5, a6, a7, a8⟩ := of_rightB hr
  refine (callsIn_wide (n := 9)).1 ?_
  refine callsIn_of_wp_marks Try.func24 rfl trivial ?_ rfl
  simp only [Try.ntmps24, List.size_toArray, List.length_cons, List.length_nil, Nat.reduceAdd, Nat.reduceSub, Array.replicate_succ, Array.replicate_zero, List.push_toArray, List.append_toArray, List.nil_append, List.cons_append]
  have hnn := seq_not_nil
  gi_wp2_with (refine ⟨trivial, ?_⟩; gi_at_call 23; refine (callsIn_wide.2 (tiles_any _ _ _ _ _)).mono ?_; rintro e w1 ⟨rfl, rfl⟩)
  have hB0 : Below w.heap.size w (((w.alloc (.cells #[.int .i64 x, .int .i64 y, .int .i64 (M : Int), .int .i64 (N : Int)] 23)).alloc (.cells #[.bool false] 4)).alloc (.cells #[.int .i64 x, .int .i64 y, .int .i64 (M : Int), .int .i64 (N : Int)] 23)) := balloc (balloc (balloc (Below.refl _ _) _) _) _
  refine wpIn_rangeFunc_ownF rfl (by omega) (gf := 29) (lb := #[.pointer (some ⟨w.heap.size + 1 + 1, 0, none⟩)]) rfl trivial (enters_of Try.func29 (by kernel_rfl) rfl)
    (tiles_stops_yes 8 (by omega) (w.heap.size + 1 + 1) x y M N _ (by simp) hr (by simp [go_sem]) (by simp [go_sem]) (by simp [go_sem]) (by simp [go_sem])) keepB_t (keepB_b (by simp)) (Below.refl _ _) (fun _ => rfl)
    (fun pre W => (pre = [] ∧ W.cell? ⟨w.heap.size, 0, none⟩ = some (.int .i64 x) ∧ W.cell? ⟨w.heap.size, 1, none⟩ = some (.int .i64 y) ∧ W.cell? ⟨w.heap.size + 1, 0, none⟩ = some (.bool false) ∧ W.frozen? ⟨w.heap.size + 1, 0, none⟩ = false) ∧ Below w.heap.size w W)
    (fun c pre W => (c = .ret ∧ ∃ p, pre = [p] ∧ W.cell? ⟨w.heap.size + 1, 0, none⟩ = some (.bool (decide (p = (x, y))))) ∧ Below w.heap.size w W)
    (OwnFrom.and (Own.from (fun s A B row hs hg hr => ⟨hs.1, cell_kept hs.2.1 hg hr, cell_kept hs.2.2.1 hg hr, cell_kept hs.2.2.2.1 hg hr, (frozen_kept hs.2.2.2.1 hg hr).trans hs.2.2.2.2⟩) _) (ownFrom_below (Nat.le_refl _) (by simp; omega)))
    (fun c => OwnFrom.and (Own.from (fun s A B row hs hg hr => ⟨hs.1, by obtain ⟨p, hp, hcell⟩ := hs.2; exact ⟨p, hp, cell_kept hcell hg hr⟩⟩) _) (ownFrom_below (Nat.le_refl _) (by simp; omega)))
    ⟨⟨rfl, by simp [go_sem], by simp [go_sem], by simp [go_sem], by simp [go_sem]⟩, hB0⟩
    (fun p => { tmps := #[.agg #[.int .i64 x, .int .i64 y, .int .i64 (M : Int), .int .i64 (N : Int)], .pointer (some ⟨w.heap.size, 0, none⟩), .pointer (some ⟨w.heap.size + 1, 0, none⟩), (.func (.func 29) #[] #[.pointer (some ⟨w.heap.size + 1 + 1, 0, none⟩)]), .int .i64 p.1, .int .i64 p.2, .agg #[.int .i64 x, .int .i64 y, .int .i64 (M : Int), .int .i64 (N : Int)], (.func (.func 29) #[] #[.pointer (some ⟨w.heap.size + 1 + 1, 0, none⟩)]), (.func (.func 29) #[] #[.pointer (some ⟨w.heap.size + 1 + 1, 0, none⟩)]), .bool true, (.func (.func 29) #[] #[.pointer (some ⟨w.heap.size + 1 + 1, 0, none⟩)]), .int .i64 p.1, .int .i64 p.2, undef, undef, undef, undef, undef, undef, undef, undef, undef, undef], defers := [] }) ?assign ?body ?done ?stop
  case assign =>
    intro l p W K hK
    gi_wp2
    exact hK
  case body =>
    rintro l pre p W ⟨⟨rfl, c0, c1, c2, c3⟩, hB⟩ _
    gi_wp2
    all_goals refine ⟨KeepsOthers.setCell _ _ _, ⟨rfl, p, rfl, ?_⟩, hB.setCell (p := ⟨w.heap.size + 1, 0, none⟩) (by simp) _⟩
    all_goals rw [World.cell?_setCell_same' _ _ _ (by rw [c2]; rfl)]
    all_goals first | (simp [Prod.ext_iff, *]; done) | (simp [Prod.ext_iff, *]; rw [Bool.eq_iff_iff]; simp)
  case done =>
    rintro D ys W hD rfl ⟨⟨he, _⟩, hB⟩ hK
    exfalso
    have := congrArg List.length he
    rw [upto_length] at this
    have hp : 0 < N * M := Nat.mul_pos (by omega) (by omega)
    simp at this
    omega
  case stop =>
    rintro D c pre W hD hpre ⟨⟨rfl, p, rfl, hcr⟩, hB⟩ hK
    have hp : 0 < N * M := Nat.mul_pos (by omega) (by omega)
    have h1 : (upto (tileF x y M) (N * M))[0]? = some p := by
      obtain ⟨t, ht⟩ := hpre
      rw [← ht]
      rfl
    rw [upto_get _ hp] at h1
    have hpe : p = (x, y) := by
      injection h1 with h1
      rw [← h1]
      simp [tileF]
    subst hpe
    gi_wp2
    refine ⟨by simp, .inl ⟨_, _, rfl, run_takeDeferred hK, ?_⟩⟩
    have hc5 := cell_kept hcr (grownBy_putObj' _ D (.deferred none)) (fun r e => by cases e; exact ⟨_, hK, rfl⟩)
    refine ⟨.bool true, ?_, rfl, hB.trans (belowK_b (w := w) (Nat.le_refl _) W D _ _ (by simp at hD; omega) hK rfl rfl)⟩
    simp [results, Try.f24, go_sem, hc5]
end Go.Proofs.Ytipfngliahhhiaa
