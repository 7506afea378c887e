/-
  Package quad: a square that is parted: its quarters are set, and joined where all have one value.
-/
import Derived.Test.YtdpdkjpkehgdnaaQuE
namespace Go.Proofs.Ytdpdkjpkehgdnaa
open Go.RowKit

/-- the contract of set at squares of side 2^k -/
def SetOk (k : Nat) (rx ry rw rh v : Int) : Prop := ∀ (t : Sq) (x y : Int) (b o : Nat) (F : Nat → Prop) (w : World), SqAt w t b o F → b < w.heap.size → ¬ F b → (∀ c, F c → c < w.heap.size) → t.fits k → rightB x y (sd k) (sd k) = true →
  Calls Try.prog 42 #[.pointer (some ⟨b, o, none⟩), .agg #[.int .i64 x, .int .i64 y, .int .i64 (sd k), .int .i64 (sd k)], .agg #[.int .i64 rx, .int .i64 ry, .int .i64 rw, .int .i64 rh], .int .u8 v] w (setQ w b o F (setT k x y rx ry rw rh v t))

theorem sd_succ (k : Nat) : sd (k + 1) = 2 * sd k := by
  simp [sd, Nat.pow_succ]
  omega
theorem sd_pos (k : Nat) : 1 ≤ sd k := by
  have : 1 ≤ 2 ^ k := Nat.one_le_two_pow
  unfold sd
  omega

theorem index16 (x y h : Int) {i : Nat} (hi : i < 4) (w : World) :
    (Instr.index 89 (.agg #[.int .i64 x, .int .i64 y, .int .i64 h, .int .i64 h, .int .i64 (x + h), .int .i64 y, .int .i64 h, .int .i64 h, .int .i64 x, .int .i64 (y + h), .int .i64 h, .int .i64 h, .int .i64 (x + h), .int .i64 (y + h), .int .i64 h, .int .i64 h]) (.int .i64 (i : Int))).run Try.prog w = .ok (.agg #[.int .i64 (quX x h i), .int .i64 (quY y h i), .int .i64 h, .int .i64 h]) w := by
  match i, hi with
  | 0, _ => rfl
  | 1, _ => rfl
  | 2, _ => rfl
  | 3, _ => rfl

theorem oneB_zero {S : Nat → Sq} : ∀ {i : Nat}, oneB S (i + 1) = true → ∃ u, (S 0).tag = some u
  | 0, h => by
    simp only [oneB, Bool.and_eq_true, Option.isSome_iff_exists] at h
    exact h.1.2
  | i + 1, h => by
    rw [oneB, Bool.and_eq_true, Bool.and_eq_true] at h
    exact oneB_zero h.1.1

set_option maxHeartbeats 4000000 in
set_option maxRecDepth 100000 in
theorem set_node (k : Nat) (t0 t1 t2 t3 : Sq) (x y rx ry rw rh v : Int) (ih : SetOk k rx ry rw rh v) (b o : Nat) (F : Nat → Prop) (w : World) (h : SqAt w (.node t0 t1 t2 t3) b o F) (hb : b < w.heap.size) (hFb : ¬ F b) (hF : ∀ c, F c → c < w.heap.size)
    (hfit : ∀ j, j < 4 → (kidOf t0 t1 t2 t3 j).fits k) (hr : rightB x y (sd (k + 1)) (sd (k + 1)) = true) (hm : meetB x y (sd (k + 1)) (sd (k + 1)) rx ry rw rh = true) (hi : inB x y (sd (k + 1)) (sd (k + 1)) rx ry rw rh = false) :
    Calls Try.prog 42 #[.pointer (some ⟨b, o, none⟩), .agg #[.int .i64 x, .int .i64 y, .int .i64 (sd (k + 1)), .int .i64 (sd (k + 1))], .agg #[.int .i64 rx, .int .i64 ry, .int .i64 rw, .int .i64 rh], .int .u8 v] w (setQ w b o F (setT (k + 1) x y rx ry rw rh v (.node t0 t1 t2 t3))) := by
  rw [setT_go _ _ _ _ _ _ _ _ _ hm (by simp [Sq.tag]) hi]
  have hS : (fun i => setT k (quX x (sd k) i) (quY y (sd k) i) rx ry rw rh v (quart (.node t0 t1 t2 t3) i)) = fun i => setT k (quX x (sd k) i) (quY y (sd k) i) rx ry rw rh v (kidOf t0 t1 t2 t3 i) := rfl
  rw [hS]
  obtain ⟨K, v0, G, ⟨h1, h2, h3, h4⟩, hFK, hK, hd, hG, hk⟩ := h.kids
  generalize hQ : kidOf t0 t1 t2 t3 = Q at *
  clear h hS
  obtain ⟨S, hS⟩ : ∃ S, S = fun i => setT k (quX x (sd k) i) (quY y (sd k) i) rx ry rw rh v (Q i) := ⟨_, rfl⟩
  rw [← hS]
  unfold setQ
  have hsd : sd (k + 1) / 2 = sd k := by rw [sd_succ]; omega
  have hev : sd (k + 1) % 2 = 0 := by rw [sd_succ]; omega
  have hpos := sd_pos k
  have hrr := hr
  have hss := hid (sd_succ k)
  generalize hs2 : sd (k + 1) = s at *
  obtain ⟨⟨a1, a2, a3, a4⟩, a5, a6, a7, a8⟩ := of_rightB hrr
  clear hrr
  go_enter Try.func42, Try.ntmps42
  go_wp2_with fail
  refine (meets_any _ _ _ _ _ _ _ _ _).mono ?_
  rintro e w1 ⟨rfl, hbw1⟩
  obtain ⟨hcw1, hfw1⟩ := bcell hbw1
  have hsw1 := hbw1.size
  try simp at hcw1 hfw1 hsw1
  have lw1_0 : w.heap.size < w1.heap.size := by omega
  have lw1_1 : w.heap.size + 1 < w1.heap.size := by omega
  have hcb : ∀ i, w1.cell? ⟨b, i, none⟩ = w.cell? ⟨b, i, none⟩ := fun i => by rw [hcw1 _ _ (by omega)]; simp [go_sem, hb]
  have hfb : ∀ i, w1.frozen? ⟨b, i, none⟩ = w.frozen? ⟨b, i, none⟩ := fun i => by rw [hfw1 _ _ (by omega)]; simp [go_sem, hb]
  have g1 := (hcb o).trans h1
  have g2 := (hcb (o + 1)).trans h2
  rw [hm]
  have hbb : Below w.heap.size w w1 := by
    repeat' (first | with_reducible assumption | with_reducible refine Below.setCell ?_ ?_ _ | with_reducible refine below_drewN ?_ _ | with_reducible refine Below.drew ?_ | with_reducible refine balloc ?_ _ | with_reducible exact Below.refl _ _ | with_reducible refine bstep ?_ (by assumption) | with_reducible refine Below.alloc ?_ ?_ _ | with_reducible refine bthrough ?_ (by assumption) ?_)
    all_goals (first | omega | (simp; done) | (simp; omega))
  go_wp2_with fail
  refine (in_any _ _ _ _ _ _ _ _ _).mono ?_
  rintro e w2 ⟨rfl, hbw2⟩
  obtain ⟨hcw2, hfw2⟩ := bcell hbw2
  have hsw2 := hbw2.size
  try simp at hcw2 hfw2 hsw2
  have lw2_0 : w.heap.size < w2.heap.size := by omega
  have lw2_1 : w.heap.size + 1 < w2.heap.size := by omega
  have e1 := (hcw2 b o (by omega)).trans g1
  have e2 := (hcw2 b (o + 1) (by omega)).trans g2
  rw [hi]
  go_wp2_with fail
  refine (quarters_yes x y s s _ hr hev hev).mono ?_
  rintro e w3 ⟨rfl, hbw3⟩
  rw [hsd]
  have hb3 : Below w.heap.size w w3 := (bstep hbb hbw2).trans (hbw3.mono (by omega))
  have hs3 := hb3.size
  have hst : w.heap.size + 2 ≤ w3.heap.size := by have := hbw2.size; have := hbw3.size; omega
  obtain ⟨hcw3, hfw3⟩ := bcell hbw3
  have q0 : ∀ i, w3.cell? ⟨w.heap.size + 1, i, none⟩ = w1.cell? ⟨w.heap.size + 1, i, none⟩ := fun i => (hcw3 _ _ (by omega)).trans (hcw2 _ _ (by omega))
  have inv : SetInv b o F w K w3.heap.size v0 rx ry rw rh S Q 0 w3 := by
    refine ⟨⟨G, ?_, hd, fun i c hi hc => ?_⟩, ((bcell hb3).1 _ _ hb).trans h1, ((bcell hb3).1 _ _ hb).trans h2, ((bcell hb3).2 _ _ hb).trans h3, ((bcell hb3).2 _ _ hb).trans h4, Kept.of_below hb3 hb, Nat.le_refl _, .inl hFK, by omega, ?_, ?_, ?_, ?_⟩
    · exact hk.below hb3 hK (fun i c hi hc => hF c (hG i c hi hc).1)
    · exact ⟨by have := hF c (hG i c hi hc).1; omega, (hG i c hi hc).2, .inl (hG i c hi hc).1⟩
    all_goals rw [q0, hcw1 _ _ (by omega)]
    all_goals simp [go_sem]
  have hcall : ∀ (i : Nat) (G : Nat → Prop) (W : World), i < 4 → SqAt W (Q i) K (i * 2) G → K < W.heap.size → ¬ G K → (∀ c, G c → c < W.heap.size) →
      Calls Try.prog 42 #[.pointer (some ⟨K, i * 2, none⟩), .agg #[.int .i64 (quX x (sd k) i), .int .i64 (quY y (sd k) i), .int .i64 (sd k), .int .i64 (sd k)], .agg #[.int .i64 rx, .int .i64 ry, .int .i64 rw, .int .i64 rh], .int .u8 v] W (setQ W K (i * 2) G (S i)) := by
    rw [hS]
    intro i G W h4i hsq hKW hGK hGl
    refine ih (Q i) _ _ K (i * 2) G W hsq hKW hGK hGl (hfit i h4i) ?_
    have hx : 0 ≤ quX x (sd k) i ∧ quX x (sd k) i + sd k ≤ 256 := by unfold quX; have := hss.out; split <;> omega
    have hy : 0 ≤ quY y (sd k) i ∧ quY y (sd k) i + sd k ≤ 256 := by unfold quY; have := hss.out; split <;> omega
    simp [rightB, sideB]
    omega
  have hM2 := hst
  generalize hM : w3.heap.size = M at inv hM2
  clear hS hcw1 hfw1 hcw2 hfw2 hcw3 hfw3 q0 g1 g2 e1 e2 hcb hfb hr hev hm hi hsd h1 h2 h3 h4 hk hd hG hFK hK ih hfit a1 a2 a3 a4 a5 a6 a7 a8 hbb hbw1 hbw2 hbw3 hss
  go_wp2_with fail
  go_loopw [8, 73] (fun s8 s73 wr => ∃ i : Nat, i ≤ 4 ∧ s73 = .int .i64 (i : Int) ∧ s8 = .bool (oneB S i) ∧ SetInv b o F w K M v0 rx ry rw rh S Q i wr) (fun _ s73 _ => 4 - (intOf s73).toNat)
  case atStart => exact ⟨0, Nat.zero_le _, rfl, rfl, inv⟩
  case round =>
    obtain ⟨i, hi, rfl, rfl, hin⟩ := hrel
    have hsz := hin.size
    have hkp := hin.keep.size
    have hKl := hin.klt
    by_cases hlt : i < 4
    · have c0 := hin.r0
      have c1 := hin.r1
      have c2 := hin.r2
      have c3 := hin.r3
      have p0 := hin.kp
      have lb : b < wr.heap.size := by omega
      have lr : w.heap.size + 1 < wr.heap.size := by omega
      go_wp2_with fail
      rw [index16 _ _ _ hlt]
      go_wp2_with fail
      have hw0 : Below wr.heap.size wr (wr.alloc (.cells #[.int .i64 (quX x (sd k) i), .int .i64 (quY y (sd k) i), .int .i64 (sd k), .int .i64 (sd k)] 24)) := balloc (Below.refl _ _) _
      generalize wr.alloc (.cells #[.int .i64 (quX x (sd k) i), .int .i64 (quY y (sd k) i), .int .i64 (sd k), .int .i64 (sd k)] 24) = w0 at hw0 ⊢
      have in0 := hin.below hw0 hb hM2
      have hsz0 := in0.size
      obtain ⟨G, g1, g2, g3⟩ := in0.kids
      have ki := g1 i hlt
      simp only [Nat.lt_irrefl, if_false] at ki
      refine (hcall i (G i) w0 hlt ki (by omega) (fun hg => (g3 i K hlt hg).2.1 rfl) (fun c hc => (g3 i c hlt hc).1)).mono ?_
      rintro e w4 ⟨⟨_, rfl⟩, hq, hk4⟩
      have in1 := in0.step g1 g2 g3 hb hFb hF hM2 hlt hk4 hq
      obtain ⟨G', k1, _⟩ := in1.kids
      have si := k1 i hlt
      have s0 := k1 0 (by decide)
      simp only [Nat.lt_succ_self, if_true, Nat.zero_lt_succ, Nat.zero_mul] at si s0
      obtain ⟨pi, vi, ci0, ci1, _, _, ti, tn⟩ := si.cells
      obtain ⟨pz, vz, cz0, cz1, _, _, tz, _⟩ := s0.cells
      have p1 := in1.kp
      clear hq hk4 in0 g1 g2 g3 ki k1 si s0 c0 c1 c2 c3 p0 hin hcall inv
      cases hone : oneB S i with
      | false =>
        go_wp2_with fail
        go_quiet (fail)
        go_wp2_with fail
        refine ⟨⟨i + 1, by omega, by go_num, ?_, in1.below (below_drewN (Below.refl _ _) _) hb hM2⟩, ?_⟩
        · simp [oneB, hone]
        · simp [intOf]; omega
      | true =>
        cases hti : (S i).tag with
        | none =>
          obtain ⟨Ki, rfl⟩ := tn hti
          go_wp2_with fail
          go_quiet (fail)
          go_wp2_with fail
          refine ⟨⟨i + 1, by omega, by go_num, ?_, in1.below (below_drewN (Below.refl _ _) _) hb hM2⟩, ?_⟩
          · simp [oneB, hone, hti]
          · simp [intOf]; omega
        | some u =>
          obtain ⟨rfl, rfl⟩ := ti u hti
          have htz : ∃ u0, (S 0).tag = some u0 := by
            cases i with
            | zero => exact ⟨_, hti⟩
            | succ i => exact oneB_zero hone
          obtain ⟨u0, htz⟩ := htz
          obtain ⟨rfl, rfl⟩ := tz u0 htz
          cases huv : vi == vz with
          | false =>
            go_wp2_with fail
            go_quiet (fail)
            go_wp2_with fail
            refine ⟨⟨i + 1, by omega, by go_num, ?_, in1.below (below_drewN (Below.refl _ _) _) hb hM2⟩, ?_⟩
            · simp [oneB, hone, hti, htz, by simpa using huv]
            · simp [intOf]; omega
          | true =>
            go_wp2_with fail
            go_quiet (fail)
            go_wp2_with fail
            refine ⟨⟨i + 1, by omega, by go_num, ?_, in1.below (below_drewN (Below.refl _ _) _) hb hM2⟩, ?_⟩
            · simp [oneB, hone, hti, htz, by simpa using huv]
            · simp [intOf]; omega
    · obtain rfl : i = 4 := by omega
      obtain ⟨G, g1, g2, g3⟩ := hin.kids
      have s0 := g1 0 (by decide)
      simp only [show (0 : Nat) < 4 by decide, if_true, Nat.zero_mul] at s0
      obtain ⟨pz, vz, cz0, cz1, _, _, tz, _⟩ := s0.cells
      have p0 := hin.kp
      have pv := hin.kv
      have f0 := hin.f0
      have f1 := hin.f1
      cases hone : oneB S 4 with
      | true =>
        obtain ⟨u0, htz⟩ := oneB_zero hone
        obtain ⟨rfl, rfl⟩ := tz u0 htz
        have hu : 0 ≤ vz ∧ vz ≤ 255 := by
          have := Sq.tag_some htz
          rw [this] at s0
          exact s0.2.2.2.2
        have hj : joinU S = .leaf vz := by simp [joinU, hone, Sq.tag_some htz]
        have hkeep := hin.keep
        go_wp2
        refine bodyPost_end (results_none rfl _ _ _) rfl ⟨⟨_, rfl⟩, ⟨?_, ?_, ?_, ?_, hu⟩, (hkeep.trans (Kept.set _ o _ (.inl rfl))).trans (Kept.set _ (o + 1) _ (.inr rfl))⟩
        · rw [World.cell?_setCell_other _ _ _ _ (by simp), World.cell?_setCell_same (h := p0)]
        · rw [World.cell?_setCell_same (u := .int .u8 v0)]
          rw [World.cell?_setCell_other _ _ _ _ (by simp)]
          exact pv
        · simpa using f0
        · simpa using f1
      | false =>
        have hj : joinU S = .node (S 0) (S 1) (S 2) (S 3) := by simp [joinU, hone]
        have hkeep := hin.keep
        have hown := hin.own
        go_wp2
        refine bodyPost_end (results_none rfl _ _ _) rfl ⟨⟨_, rfl⟩, ?_, hkeep⟩
        rw [hj]
        refine SqAt.of_kids (U := S) ⟨p0, pv, f0, f1⟩ (hown.imp id fun hK => ⟨by omega, by omega⟩) (by omega) g2 (fun i c hi hc => ?_) (fun j hj => ?_)
        · obtain ⟨b1, b2, b3⟩ := g3 i c hi hc
          exact ⟨b3.imp id fun h => ⟨by omega, b1⟩, b2⟩
        · have := g1 j hj
          dsimp only at this
          rwa [if_pos hj] at this
end Go.Proofs.Ytdpdkjpkehgdnaa
