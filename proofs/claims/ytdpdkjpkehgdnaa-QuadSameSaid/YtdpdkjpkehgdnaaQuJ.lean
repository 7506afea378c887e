/-
  Package quad's iterator over the leaves that meet a rectangle: it hands them over in order, as far as it is asked.
-/
import Derived.Test.YtdpdkjpkehgdnaaQuI
namespace Go.Proofs.Ytdpdkjpkehgdnaa
open Go.RowKit Go.Shelf

attribute [local go_sem] Oper.semAt_some

theorem meets_iter (g : Nat) (rx ry rw rh : Int) (w : World) :
    Calls Try.prog 31 #[.pointer (some ⟨g, 0, none⟩), .agg #[.int .i64 rx, .int .i64 ry, .int .i64 rw, .int .i64 rh]] w fun e w' => e = .returned (.func (.func 43) #[] #[.pointer (some ⟨w.heap.size, 0, none⟩), .pointer (some ⟨w.heap.size + 1, 0, none⟩)]) ∧
      w' = (w.alloc (.cells #[.pointer (some ⟨g, 0, none⟩)] 29)).alloc (.cells #[.int .i64 rx, .int .i64 ry, .int .i64 rw, .int .i64 rh] 24) := by
  go_enter Try.func31, Try.ntmps31
  go_wp2
  go_ret
  exact ⟨rfl, rfl⟩

theorem squares_iter (g : Nat) (side : Int) (w : World) (hg : g < w.heap.size) (h : w.cell? ⟨g, 0, none⟩ = some (.int .i64 side)) :
    Calls Try.prog 20 #[.pointer (some ⟨g, 0, none⟩)] w fun e w' => ∃ w1, Below w.heap.size w w1 ∧ e = .returned (.func (.func 43) #[] #[.pointer (some ⟨w1.heap.size, 0, none⟩), .pointer (some ⟨w1.heap.size + 1, 0, none⟩)]) ∧
      w' = (w1.alloc (.cells #[.pointer (some ⟨g, 0, none⟩)] 29)).alloc (.cells #[.int .i64 0, .int .i64 0, .int .i64 side, .int .i64 side] 24) := by
  go_enter Try.func20, Try.ntmps20
  go_wp2_with fail
  refine (all_get _ _ _ hg h).mono ?_
  rintro e w1 ⟨rfl, hbw1⟩
  obtain ⟨hcw1, hfw1⟩ := bcell hbw1
  have hsw1 := hbw1.size
  try simp at hcw1 hfw1 hsw1
  go_wp2_with fail
  refine (meets_iter _ _ _ _ _ _).mono ?_
  rintro e w2 ⟨rfl, rfl⟩
  go_wp2
  go_ret
  exact ⟨w1, hbw1, rfl, rfl⟩

set_option maxRecDepth 100000 in
set_option maxHeartbeats 1000000 in
/-- the iterator's contract -/
theorem meets_hands (nn : Nat) (N g P0 P1 : Nat) (k : Nat) (t : Sq) (rx ry rw rh : Int) (hi : Nat) (V W0 : World) (hb0 : Below V.heap.size V W0) (hq : QuadAt V N g (sd k) t) (hfit : t.fits k) (hk : k ≤ 8) (hhi : hi ≤ W0.heap.size)
    (hP0 : P0 < W0.heap.size) (hP1 : P1 < W0.heap.size) (c0 : W0.cell? ⟨P0, 0, none⟩ = some (.pointer (some ⟨g, 0, none⟩)))
    (d0 : W0.cell? ⟨P1, 0, none⟩ = some (.int .i64 rx)) (d1 : W0.cell? ⟨P1, 1, none⟩ = some (.int .i64 ry)) (d2 : W0.cell? ⟨P1, 2, none⟩ = some (.int .i64 rw)) (d3 : W0.cell? ⟨P1, 3, none⟩ = some (.int .i64 rh)) :
    SeqHands Fence.wide nn Try.prog 43 #[.pointer (some ⟨P0, 0, none⟩), .pointer (some ⟨P1, 0, none⟩)] encL (nextG (lvs k 0 0 rx ry rw rh t)) (KpL V hi) (fun xs => xs = lvs k 0 0 rx ry rw rh t) (fun pre => pre <+: lvs k 0 0 rx ry rw rh t) (lvs k 0 0 rx ry rw rh t).length W0 := by
  intro l J Jx W hW hJ _ hY h0
  generalize hall : lvs k 0 0 rx ry rw rh t = all at *
  have hsW := hW.size
  have hVW : Below V.heap.size V W := hb0.trans (hW.mono hb0.size)
  have hqW : g < W.heap.size := Nat.lt_of_lt_of_le hq.lt hVW.size
  have qc : W.cell? ⟨g, 0, none⟩ = some (.int .i64 (sd k)) := (hVW.cell (p := ⟨g, 0, none⟩) hq.lt).trans hq.side
  have e0 : W.cell? ⟨P0, 0, none⟩ = some (.pointer (some ⟨g, 0, none⟩)) := (hW.cell (p := ⟨P0, 0, none⟩) hP0).trans c0
  have f0 : W.cell? ⟨P1, 0, none⟩ = some (.int .i64 rx) := (hW.cell (p := ⟨P1, 0, none⟩) hP1).trans d0
  have f1 : W.cell? ⟨P1, 1, none⟩ = some (.int .i64 ry) := (hW.cell (p := ⟨P1, 1, none⟩) hP1).trans d1
  have f2 : W.cell? ⟨P1, 2, none⟩ = some (.int .i64 rw) := (hW.cell (p := ⟨P1, 2, none⟩) hP1).trans d2
  have f3 : W.cell? ⟨P1, 3, none⟩ = some (.int .i64 rh) := (hW.cell (p := ⟨P1, 3, none⟩) hP1).trans d3
  have hY' : ∀ pre p W1, J pre W1 → pre ++ [p] <+: all → ∀ m, YieldAt Fence.wide m Try.prog l (encL p) W1 fun e W' => ∃ r : Bool, e = .returned (.bool r) ∧ (r = true → KpL V hi W1 W' ∧ J (pre ++ [p]) W') ∧ (r = false → Jx (pre ++ [p]) W') := by
    intro pre p W1 hj hpre m
    have hlen : pre.length < all.length := by
      have := hpre.length_le
      simp at this
      omega
    obtain ⟨fn, tmps, assign, body, h1, h2⟩ := hY pre p W1 hj hlen hpre
    refine ⟨fn, tmps, assign, body, h1, (roundIn_wide h2).mono ?_⟩
    rintro e W' (⟨rfl, a, b⟩ | ⟨rfl, a⟩)
    · exact ⟨true, rfl, fun _ => ⟨b, a⟩, fun h => by cases h⟩
    · exact ⟨false, rfl, fun h => (by cases h), fun _ => a⟩
  have hL := leaves_all (V := V) (hi := hi) hJ hY' k rx ry rw rh
  obtain ⟨F, hF1, hF2, hF3⟩ := hq.root
  have hr : rightB 0 0 (sd k) (sd k) = true := by
    have h1 := sd_pos k
    have h2 : sd k ≤ 256 := by
      unfold sd
      have : 2 ^ k ≤ 2 ^ 8 := Nat.pow_le_pow_right (by decide) hk
      omega
    simp [rightB, sideB]
    omega
  refine (callsIn_wide (n := nn)).2 ((callsIn_wide (n := 9)).1 ?_)
  refine callsIn_of_wp Try.func43 rfl trivial ?_ rfl
  simp only [Try.ntmps43, List.size_toArray, List.length_cons, List.length_nil, Nat.reduceAdd, Nat.reduceSub, Array.replicate_succ, Array.replicate_zero, List.push_toArray, List.append_toArray, List.nil_append, List.cons_append]
  have hgd : g < W.drew.heap.size := hqW
  have hP1W : P1 < W.heap.size := Nat.lt_of_lt_of_le hP1 hsW
  have hbd : Below W.heap.size W W.drew := (Below.refl _ _).drew
  gi_wp2_with fail
  gi_region_with (first
    | (refine ⟨trivial, (callsIn_wide.2 (all_get g (sd k) W.drew hgd qc)).mono ?_⟩; rintro e wq ⟨rfl, hbq⟩; have hBq : Below W.heap.size W wq := hbd.trans hbq; have e0q := (hBq.cell (p := ⟨P0, 0, none⟩) (by dsimp only; omega)).trans e0; have f0q := (hBq.cell (p := ⟨P1, 0, none⟩) hP1W).trans f0; have f1q := (hBq.cell (p := ⟨P1, 1, none⟩) hP1W).trans f1; have f2q := (hBq.cell (p := ⟨P1, 2, none⟩) hP1W).trans f2; have f3q := (hBq.cell (p := ⟨P1, 3, none⟩) hP1W).trans f3)
    | (refine ⟨trivial, (callsIn_wide.2 (hL t 0 0 g 1 F [] wq hF1 hq.lt (fun c hc => (hF3 c hc).2) (hVW.trans (hBq.mono hVW.size)) (by have := hBq.size; omega) hfit hr (abides_step hJ h0 hBq) (by rw [hall]; exact List.prefix_refl _))).mono ?_⟩; rintro e w4 ⟨r, rfl, hp4⟩))
  all_goals go_end0
  all_goals refine ⟨⟨_, rfl⟩, ?_⟩
  all_goals cases r
  all_goals first
    | exact .inr (hp4.2 rfl)
    | exact .inl ⟨_, rfl, by have := (hp4.1 rfl).2; rwa [List.nil_append, hall] at this⟩
end Go.Proofs.Ytdpdkjpkehgdnaa
