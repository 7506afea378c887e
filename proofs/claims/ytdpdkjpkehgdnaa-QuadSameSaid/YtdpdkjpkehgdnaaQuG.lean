/-
  Package quad: a leaf is parted: its quarters are set, and joined where all have one value; set, at any square.
-/
import Derived.Test.YtdpdkjpkehgdnaaQuF
namespace Go.Proofs.Ytdpdkjpkehgdnaa
open Go.RowKit

set_option maxHeartbeats 4000000 in
set_option maxRecDepth 100000 in
theorem set_leaf (k : Nat) (u : Int) (x y rx ry rw rh v : Int) (ih : SetOk k rx ry rw rh v) (b o : Nat) (F : Nat → Prop) (w : World) (h : SqAt w (.leaf u) b o F) (hb : b < w.heap.size) (hFb : ¬ F b) (hF : ∀ c, F c → c < w.heap.size)
    (huv : u ≠ v) (hr : rightB x y (sd (k + 1)) (sd (k + 1)) = true) (hm : meetB x y (sd (k + 1)) (sd (k + 1)) rx ry rw rh = true) (hi : inB x y (sd (k + 1)) (sd (k + 1)) rx ry rw rh = false) :
    Calls Try.prog 42 #[.pointer (some ⟨b, o, none⟩), .agg #[.int .i64 x, .int .i64 y, .int .i64 (sd (k + 1)), .int .i64 (sd (k + 1))], .agg #[.int .i64 rx, .int .i64 ry, .int .i64 rw, .int .i64 rh], .int .u8 v] w (setQ w b o F (setT (k + 1) x y rx ry rw rh v (.leaf u))) := by
  rw [setT_go _ _ _ _ _ _ _ _ _ hm (by simpa [Sq.tag] using huv) hi]
  have hS : (fun i => setT k (quX x (sd k) i) (quY y (sd k) i) rx ry rw rh v (quart (.leaf u) i)) = fun i => setT k (quX x (sd k) i) (quY y (sd k) i) rx ry rw rh v (.leaf u) := rfl
  rw [hS]
  have hne : (u == v) = false := by simpa using huv
  obtain ⟨h1, h2, h3, h4, hu⟩ := h
  clear hS
  obtain ⟨S, hS⟩ : ∃ S, S = fun i => setT k (quX x (sd k) i) (quY y (sd k) i) rx ry rw rh v (.leaf u) := ⟨_, rfl⟩
  rw [← hS]
  unfold setQ
  have hsd : sd (k + 1) / 2 = sd k := by rw [sd_succ]; omega
  have hev : sd (k + 1) % 2 = 0 := by rw [sd_succ]; omega
  have hpos := sd_pos k
  have hrr := hr
  have hss := hid (sd_succ k)
  generalize hs2 : sd (k + 1) = s at *
  obtain ⟨⟨a1, a2, a3, a4⟩, a5, a6, a7, a8⟩ := of_rightB hrr
  clear hrr
  go_enter Try.func42, Try.ntmps42
  go_wp2_with fail
  refine (meets_any _ _ _ _ _ _ _ _ _).mono ?_
  rintro e w1 ⟨rfl, hbw1⟩
  obtain ⟨hcw1, hfw1⟩ := bcell hbw1
  have hsw1 := hbw1.size
  try simp at hcw1 hfw1 hsw1
  have lw1_0 : w.heap.size < w1.heap.size := by omega
  have lw1_1 : w.heap.size + 1 < w1.heap.size := by omega
  have hcb : ∀ i, w1.cell? ⟨b, i, none⟩ = w.cell? ⟨b, i, none⟩ := fun i => by rw [hcw1 _ _ (by omega)]; simp [go_sem, hb]
  have hfb : ∀ i, w1.frozen? ⟨b, i, none⟩ = w.frozen? ⟨b, i, none⟩ := fun i => by rw [hfw1 _ _ (by omega)]; simp [go_sem, hb]
  have g1 := (hcb o).trans h1
  have g2 := (hcb (o + 1)).trans h2
  rw [hm]
  have hbb : Below w.heap.size w w1 := by
    repeat' (first | with_reducible assumption | with_reducible refine Below.setCell ?_ ?_ _ | with_reducible refine below_drewN ?_ _ | with_reducible refine Below.drew ?_ | with_reducible refine balloc ?_ _ | with_reducible exact Below.refl _ _ | with_reducible refine bstep ?_ (by assumption) | with_reducible refine Below.alloc ?_ ?_ _ | with_reducible refine bthrough ?_ (by assumption) ?_)
    all_goals (first | omega | (simp; done) | (simp; omega))
  go_wp2_with fail
  refine (in_any _ _ _ _ _ _ _ _ _).mono ?_
  rintro e w2 ⟨rfl, hbw2⟩
  obtain ⟨hcw2, hfw2⟩ := bcell hbw2
  have hsw2 := hbw2.size
  try simp at hcw2 hfw2 hsw2
  have lw2_0 : w.heap.size < w2.heap.size := by omega
  have lw2_1 : w.heap.size + 1 < w2.heap.size := by omega
  have e1 := (hcw2 b o (by omega)).trans g1
  have e2 := (hcw2 b (o + 1) (by omega)).trans g2
  rw [hi]
  have e3 := ((hfw2 b o (by omega)).trans (hfb o)).trans h3
  have hb2 : Below w.heap.size w w2 := bstep hbb hbw2
  have q2 : ∀ i, w2.cell? ⟨w.heap.size + 1, i, none⟩ = w1.cell? ⟨w.heap.size + 1, i, none⟩ := fun i => hcw2 _ _ (by omega)
  have lb2 : b < w2.heap.size := by omega
  go_wp2_with fail
  go_region
  obtain ⟨K, hK⟩ : ∃ K, K = w2.heap.size := ⟨_, rfl⟩
  rw [← hK]
  have hs2' := hbw2.size
  have x2 : w2.cell? ⟨b, o, none⟩ = some (.pointer none) := (hcw2 b o (by omega)).trans g1
  have n0 : b ≠ w2.heap.size := by omega
  have n1 : w.heap.size + 1 ≠ b := by omega
  have n2 : w.heap.size + 1 < w2.heap.size := by omega
  obtain ⟨W3, hW3⟩ : ∃ W3 : World, W3 = ((w2.setCell ⟨b, o, none⟩ (.pointer (some ⟨K, 0, none⟩))).alloc (.cells #[.pointer none, .int .u8 u, .pointer none, .int .u8 u, .pointer none, .int .u8 u, .pointer none, .int .u8 u] 86)).drew := ⟨_, rfl⟩
  rw [← hW3]
  have y1 : W3.cell? ⟨b, o, none⟩ = some (.pointer (some ⟨K, 0, none⟩)) := by
    rw [hW3, World.cell?_drew, World.cell?_alloc_lt _ _ _ (by simpa using lb2), World.cell?_setCell_same (h := x2)]
  have y2 : W3.cell? ⟨b, o + 1, none⟩ = some (.int .u8 u) := by
    rw [hW3, World.cell?_drew, World.cell?_alloc_lt _ _ _ (by simpa using lb2), World.cell?_setCell_other _ _ _ _ (by simp)]
    exact (hcw2 b (o + 1) (by omega)).trans g2
  have y3 : W3.frozen? ⟨b, o, none⟩ = false := by
    rw [hW3, World.frozen?_drew, World.frozen?_alloc_old _ _ _ (by simpa using n0), World.frozen?_setCell]
    exact e3
  have y4 : W3.frozen? ⟨b, o + 1, none⟩ = false := by
    rw [hW3, World.frozen?_drew, World.frozen?_alloc_old _ _ _ (by simpa using n0), World.frozen?_setCell]
    exact ((hfw2 b (o + 1) (by omega)).trans (hfb (o + 1))).trans h4
  have hkW : Kept b o F w W3 := by
    rw [hW3]
    refine ((Kept.of_below hb2 hb).trans (Kept.set _ o _ (.inl rfl))).trans (Kept.of_below ((balloc (Below.refl _ _) _).drew) ?_)
    simpa using lb2
  have hsz3 : W3.heap.size = K + 1 := by rw [hW3, hK]; simp
  have hkK : ∀ j, j < 4 → SqAt W3 (.leaf u) K (j * 2) (fun _ => False) := by
    intro j hj
    have z : ∀ i, W3.cell? ⟨K, i, none⟩ = (#[Value.pointer none, .int .u8 u, .pointer none, .int .u8 u, .pointer none, .int .u8 u, .pointer none, .int .u8 u] : Array Value)[i]? := by
      intro i
      rw [hW3, World.cell?_drew, hK]
      exact World.cell?_alloc_at _ _ _ _ (by simp)
    have zf : ∀ i, W3.frozen? ⟨K, i, none⟩ = false := by
      intro i
      rw [hW3, World.frozen?_drew, hK]
      exact World.frozen?_alloc_at _ _ _ _ (by simp)
    refine ⟨?_, ?_, zf _, zf _, hu⟩
    · rw [z]
      match j, hj with
      | 0, _ => rfl
      | 1, _ => rfl
      | 2, _ => rfl
      | 3, _ => rfl
    · rw [z]
      match j, hj with
      | 0, _ => rfl
      | 1, _ => rfl
      | 2, _ => rfl
      | 3, _ => rfl
  have q3 : ∀ i, W3.cell? ⟨w.heap.size + 1, i, none⟩ = w1.cell? ⟨w.heap.size + 1, i, none⟩ := by
    intro i
    rw [hW3, World.cell?_drew, World.cell?_alloc_lt _ _ _ (by simpa using n2), World.cell?_setCell_other _ _ _ _ (by intro h; injection h with h; omega)]
    exact q2 i
  have q4 : ∀ i, W3.cell? ⟨w.heap.size, i, none⟩ = w1.cell? ⟨w.heap.size, i, none⟩ := by
    intro i
    rw [hW3, World.cell?_drew, World.cell?_alloc_lt _ _ _ (by simp; omega), World.cell?_setCell_other _ _ _ _ (by intro h; injection h with h; omega)]
    exact hcw2 _ _ (by omega)
  have r0 : W3.cell? ⟨w.heap.size, 0, none⟩ = some (.int .i64 x) := by rw [q4, hcw1 _ _ (by omega)]; simp [go_sem]
  have r1 : W3.cell? ⟨w.heap.size, 1, none⟩ = some (.int .i64 y) := by rw [q4, hcw1 _ _ (by omega)]; simp [go_sem]
  have r2 : W3.cell? ⟨w.heap.size, 2, none⟩ = some (.int .i64 s) := by rw [q4, hcw1 _ _ (by omega)]; simp [go_sem]
  have r3 : W3.cell? ⟨w.heap.size, 3, none⟩ = some (.int .i64 s) := by rw [q4, hcw1 _ _ (by omega)]; simp [go_sem]
  have s0 : W3.cell? ⟨w.heap.size + 1, 0, none⟩ = some (.int .i64 rx) := by rw [q3, hcw1 _ _ (by omega)]; simp [go_sem]
  have s1 : W3.cell? ⟨w.heap.size + 1, 1, none⟩ = some (.int .i64 ry) := by rw [q3, hcw1 _ _ (by omega)]; simp [go_sem]
  have s2 : W3.cell? ⟨w.heap.size + 1, 2, none⟩ = some (.int .i64 rw) := by rw [q3, hcw1 _ _ (by omega)]; simp [go_sem]
  have s3 : W3.cell? ⟨w.heap.size + 1, 3, none⟩ = some (.int .i64 rh) := by rw [q3, hcw1 _ _ (by omega)]; simp [go_sem]
  have hKl : w.heap.size + 2 ≤ K := by omega
  clear hW3 hK hcw1 hfw1 hcw2 hfw2 q2 q3 q4 x2 g1 g2 e1 e2 e3 hcb hfb n0 n1 n2 hbb hb2 hbw1 hbw2 h1 h2 h3 h4 hm hi hne lb2 lw1_0 lw1_1 lw2_0 lw2_1 hs2'
  go_wp2_with fail
  refine (quarters_yes x y s s _ hr hev hev).mono ?_
  rintro e w3 ⟨rfl, hbw3⟩
  rw [hsd]
  obtain ⟨hcw3, hfw3⟩ := bcell hbw3
  have hst3 := hbw3.size
  have hkw := hkW.size
  have inv : SetInv b o F w K w3.heap.size u rx ry rw rh S (fun _ => .leaf u) 0 w3 := by
    refine ⟨⟨fun _ _ => False, ?_, fun _ _ _ _ _ _ h => h.elim, fun _ _ _ h => h.elim⟩, (hcw3 _ _ (by omega)).trans y1, (hcw3 _ _ (by omega)).trans y2, (hfw3 _ _ (by omega)).trans y3, (hfw3 _ _ (by omega)).trans y4, hkW.trans (Kept.of_below hbw3 (by omega)), Nat.le_refl _, .inr hKl, by omega,
      (hcw3 _ _ (by omega)).trans s0, (hcw3 _ _ (by omega)).trans s1, (hcw3 _ _ (by omega)).trans s2, (hcw3 _ _ (by omega)).trans s3⟩
    intro j hj
    simpa using (hkK j hj).below hbw3 (by omega) (fun _ h => h.elim)
  have hcall : ∀ (i : Nat) (G : Nat → Prop) (W : World), i < 4 → SqAt W (.leaf u) K (i * 2) G → K < W.heap.size → ¬ G K → (∀ c, G c → c < W.heap.size) →
      Calls Try.prog 42 #[.pointer (some ⟨K, i * 2, none⟩), .agg #[.int .i64 (quX x (sd k) i), .int .i64 (quY y (sd k) i), .int .i64 (sd k), .int .i64 (sd k)], .agg #[.int .i64 rx, .int .i64 ry, .int .i64 rw, .int .i64 rh], .int .u8 v] W (setQ W K (i * 2) G (S i)) := by
    rw [hS]
    intro i G W h4i hsq hKW hGK hGl
    refine ih (.leaf u) _ _ K (i * 2) G W hsq hKW hGK hGl trivial ?_
    have hx : 0 ≤ quX x (sd k) i ∧ quX x (sd k) i + sd k ≤ 256 := by unfold quX; have := hss.out; split <;> omega
    have hy : 0 ≤ quY y (sd k) i ∧ quY y (sd k) i + sd k ≤ 256 := by unfold quY; have := hss.out; split <;> omega
    simp [rightB, sideB]
    omega
  have hM2 : w.heap.size + 2 ≤ w3.heap.size := by omega
  generalize hM : w3.heap.size = M at inv hM2
  clear hS hcw3 hfw3 hr hev hsd ih a1 a2 a3 a4 a5 a6 a7 a8 hbw3 hss r0 r1 r2 r3 s0 s1 s2 s3 y1 y2 y3 y4 hkW hkK
  go_wp2_with fail
  go_loopw [8, 73] (fun s8 s73 wr => ∃ i : Nat, i ≤ 4 ∧ s73 = .int .i64 (i : Int) ∧ s8 = .bool (oneB S i) ∧ SetInv b o F w K M u rx ry rw rh S (fun _ => .leaf u) i wr) (fun _ s73 _ => 4 - (intOf s73).toNat)
  case atStart => exact ⟨0, Nat.zero_le _, rfl, rfl, inv⟩
  case round =>
    obtain ⟨i, hi, rfl, rfl, hin⟩ := hrel
    have hsz := hin.size
    have hkp := hin.keep.size
    have hKl := hin.klt
    by_cases hlt : i < 4
    · have c0 := hin.r0
      have c1 := hin.r1
      have c2 := hin.r2
      have c3 := hin.r3
      have p0 := hin.kp
      have lb : b < wr.heap.size := by omega
      have lr : w.heap.size + 1 < wr.heap.size := by omega
      go_wp2_with fail
      rw [index16 _ _ _ hlt]
      go_wp2_with fail
      have hw0 : Below wr.heap.size wr (wr.alloc (.cells #[.int .i64 (quX x (sd k) i), .int .i64 (quY y (sd k) i), .int .i64 (sd k), .int .i64 (sd k)] 24)) := balloc (Below.refl _ _) _
      generalize wr.alloc (.cells #[.int .i64 (quX x (sd k) i), .int .i64 (quY y (sd k) i), .int .i64 (sd k), .int .i64 (sd k)] 24) = w0 at hw0 ⊢
      have in0 := hin.below hw0 hb hM2
      have hsz0 := in0.size
      obtain ⟨G, g1, g2, g3⟩ := in0.kids
      have ki := g1 i hlt
      simp only [Nat.lt_irrefl, if_false] at ki
      refine (hcall i (G i) w0 hlt ki (by omega) (fun hg => (g3 i K hlt hg).2.1 rfl) (fun c hc => (g3 i c hlt hc).1)).mono ?_
      rintro e w4 ⟨⟨_, rfl⟩, hq, hk4⟩
      have in1 := in0.step g1 g2 g3 hb hFb hF hM2 hlt hk4 hq
      obtain ⟨G', k1, _⟩ := in1.kids
      have si := k1 i hlt
      have s0 := k1 0 (by decide)
      simp only [Nat.lt_succ_self, if_true, Nat.zero_lt_succ, Nat.zero_mul] at si s0
      obtain ⟨pi, vi, ci0, ci1, _, _, ti, tn⟩ := si.cells
      obtain ⟨pz, vz, cz0, cz1, _, _, tz, _⟩ := s0.cells
      have p1 := in1.kp
      clear hq hk4 in0 g1 g2 g3 ki k1 si s0 c0 c1 c2 c3 p0 hin hcall inv
      cases hone : oneB S i with
      | false =>
        go_wp2_with fail
        go_quiet (fail)
        go_wp2_with fail
        refine ⟨⟨i + 1, by omega, by go_num, ?_, in1.below (below_drewN (Below.refl _ _) _) hb hM2⟩, ?_⟩
        · simp [oneB, hone]
        · simp [intOf]; omega
      | true =>
        cases hti : (S i).tag with
        | none =>
          obtain ⟨Ki, rfl⟩ := tn hti
          go_wp2_with fail
          go_quiet (fail)
          go_wp2_with fail
          refine ⟨⟨i + 1, by omega, by go_num, ?_, in1.below (below_drewN (Below.refl _ _) _) hb hM2⟩, ?_⟩
          · simp [oneB, hone, hti]
          · simp [intOf]; omega
        | some ui =>
          obtain ⟨rfl, rfl⟩ := ti ui hti
          have htz : ∃ u0, (S 0).tag = some u0 := by
            cases i with
            | zero => exact ⟨_, hti⟩
            | succ i => exact oneB_zero hone
          obtain ⟨u0, htz⟩ := htz
          obtain ⟨rfl, rfl⟩ := tz u0 htz
          cases huv : vi == vz with
          | false =>
            go_wp2_with fail
            go_quiet (fail)
            go_wp2_with fail
            refine ⟨⟨i + 1, by omega, by go_num, ?_, in1.below (below_drewN (Below.refl _ _) _) hb hM2⟩, ?_⟩
            · simp [oneB, hone, hti, htz, by simpa using huv]
            · simp [intOf]; omega
          | true =>
            go_wp2_with fail
            go_quiet (fail)
            go_wp2_with fail
            refine ⟨⟨i + 1, by omega, by go_num, ?_, in1.below (below_drewN (Below.refl _ _) _) hb hM2⟩, ?_⟩
            · simp [oneB, hone, hti, htz, by simpa using huv]
            · simp [intOf]; omega
    · obtain rfl : i = 4 := by omega
      obtain ⟨G, g1, g2, g3⟩ := hin.kids
      have s0 := g1 0 (by decide)
      simp only [show (0 : Nat) < 4 by decide, if_true, Nat.zero_mul] at s0
      obtain ⟨pz, vz, cz0, cz1, _, _, tz, _⟩ := s0.cells
      have p0 := hin.kp
      have pv := hin.kv
      have f0 := hin.f0
      have f1 := hin.f1
      cases hone : oneB S 4 with
      | true =>
        obtain ⟨u0, htz⟩ := oneB_zero hone
        obtain ⟨rfl, rfl⟩ := tz u0 htz
        have hu : 0 ≤ vz ∧ vz ≤ 255 := by
          have := Sq.tag_some htz
          rw [this] at s0
          exact s0.2.2.2.2
        have hj : joinU S = .leaf vz := by simp [joinU, hone, Sq.tag_some htz]
        have hkeep := hin.keep
        go_wp2
        refine bodyPost_end (results_none rfl _ _ _) rfl ⟨⟨_, rfl⟩, ⟨?_, ?_, ?_, ?_, hu⟩, (hkeep.trans (Kept.set _ o _ (.inl rfl))).trans (Kept.set _ (o + 1) _ (.inr rfl))⟩
        · rw [World.cell?_setCell_other _ _ _ _ (by simp), World.cell?_setCell_same (h := p0)]
        · rw [World.cell?_setCell_same (u := .int .u8 u)]
          rw [World.cell?_setCell_other _ _ _ _ (by simp)]
          exact pv
        · simpa using f0
        · simpa using f1
      | false =>
        have hj : joinU S = .node (S 0) (S 1) (S 2) (S 3) := by simp [joinU, hone]
        have hkeep := hin.keep
        have hown := hin.own
        go_wp2
        refine bodyPost_end (results_none rfl _ _ _) rfl ⟨⟨_, rfl⟩, ?_, hkeep⟩
        rw [hj]
        refine SqAt.of_kids (U := S) ⟨p0, pv, f0, f1⟩ (hown.imp id fun hK => ⟨by omega, by omega⟩) (by omega) g2 (fun i c hi hc => ?_) (fun j hj => ?_)
        · obtain ⟨b1, b2, b3⟩ := g3 i c hi hc
          exact ⟨b3.imp id fun h => ⟨by omega, b1⟩, b2⟩
        · have := g1 j hj
          dsimp only at this
          rwa [if_pos hj] at this

theorem set_all : ∀ (k : Nat) (rx ry rw rh v : Int), rightB rx ry rw rh = true → 0 ≤ v ∧ v ≤ 255 → SetOk k rx ry rw rh v
  | 0, rx, ry, rw, rh, v, hR, hv => by
    intro t x y b o F w h hb hFb hF hfit hr
    cases hm : meetB x y (sd 0) (sd 0) rx ry rw rh with
    | false => exact set_no 0 t x y rx ry rw rh v b o F w h hb hF hm
    | true =>
      by_cases ht : t.tag = some v
      · have := Sq.tag_some ht
        subst this
        exact set_same 0 x y rx ry rw rh v b o F w h hb hF hm
      · refine set_in 0 t x y rx ry rw rh v b o F w h hb hF hv hm ht ?_
        obtain ⟨_, _, m1, m2⟩ := of_meetB hm
        have e : sd 0 = 1 := rfl
        rw [e] at m1 m2
        simp only [inB, hR, hr, Bool.true_and, Bool.and_eq_true, decide_eq_true_eq]
        rw [e]
        omega
  | k + 1, rx, ry, rw, rh, v, hR, hv => by
    have ih := set_all k rx ry rw rh v hR hv
    intro t x y b o F w h hb hFb hF hfit hr
    cases hm : meetB x y (sd (k + 1)) (sd (k + 1)) rx ry rw rh with
    | false => exact set_no (k + 1) t x y rx ry rw rh v b o F w h hb hF hm
    | true =>
      by_cases ht : t.tag = some v
      · have := Sq.tag_some ht
        subst this
        exact set_same (k + 1) x y rx ry rw rh v b o F w h hb hF hm
      · cases hi : inB x y (sd (k + 1)) (sd (k + 1)) rx ry rw rh with
        | true => exact set_in (k + 1) t x y rx ry rw rh v b o F w h hb hF hv hm ht hi
        | false =>
          cases t with
          | leaf u => exact set_leaf k u x y rx ry rw rh v ih b o F w h hb hFb hF (by simpa [Sq.tag] using ht) hr hm hi
          | node t0 t1 t2 t3 =>
            obtain ⟨k', hk', f0, f1, f2, f3⟩ := hfit
            cases Nat.succ.inj hk'
            refine set_node k t0 t1 t2 t3 x y rx ry rw rh v ih b o F w h hb hFb hF (fun j hj => ?_) hr hm hi
            match j, hj with
            | 0, _ => exact f0
            | 1, _ => exact f1
            | 2, _ => exact f2
            | 3, _ => exact f3
end Go.Proofs.Ytdpdkjpkehgdnaa
