/-
  Plain laws of quads: what is asked of a rectangle, by leaves as by tiles. No program in sight.
-/
import Derived.Test.YtdpdkjpkehgdnaaQuS
import Derived.Test.YtdpdkjpkehgdnaaRectF
namespace Go.Proofs.Ytdpdkjpkehgdnaa
open Go.RowKit

theorem beq_dec (a b : Int) : (a == b) = decide (a = b) := by
  rw [Bool.eq_iff_iff]
  simp
/-- how many squares there can be -/
def most : Nat → Nat
  | 0 => 1
  | k + 1 => 1 + 4 * most k
theorem nodes_most : ∀ (k : Nat) (t : Sq), t.fits k → t.nodes ≤ most k
  | k, .leaf _, _ => by cases k <;> simp [Sq.nodes, most]
  | k, .node a b c d, h => by
    obtain ⟨k', rfl, f0, f1, f2, f3⟩ := h
    have h0 := nodes_most k' a f0
    have h1 := nodes_most k' b f1
    have h2 := nodes_most k' c f2
    have h3 := nodes_most k' d f3
    simp only [Sq.nodes, most]
    omega
theorem most_small : ∀ k : Fin 9, most k.val < 1000000000 := by decide
theorem nodes_small {k : Nat} {t : Sq} (h : t.fits k) (hk : k ≤ 8) : t.nodes < 1000000000 :=
  Nat.lt_of_le_of_lt (nodes_most k t h) (most_small ⟨k, by omega⟩)

/-- is the i-th tile one of a rectangle's? -/
def tileH (s : Nat) (rx ry rw rh : Int) (i : Nat) : Bool := holdsR rx ry rw rh ((i % s : Nat) : Int) ((i / s : Nat) : Int)
theorem tileH_iff {s : Nat} {rx ry rw rh : Int} {i : Nat} : tileH s rx ry rw rh i = true ↔ rightB rx ry rw rh = true ∧ inR rx ry rw rh ((i % s : Nat) : Int) ((i / s : Nat) : Int) := by
  simp only [tileH, holdsR, inR, Bool.and_eq_true, decide_eq_true_eq]
  constructor
  · rintro ⟨⟨⟨⟨a, b⟩, c⟩, d⟩, e⟩
    exact ⟨a, b, c, d, e⟩
  · rintro ⟨a, b, c, d, e⟩
    exact ⟨⟨⟨⟨a, b⟩, c⟩, d⟩, e⟩

theorem right_own {k : Nat} (hk : k ≤ 8) : rightB 0 0 (sd k) (sd k) = true := by
  have h1 := sd_pos k
  have h2 : sd k ≤ 256 := by
    unfold sd
    have : 2 ^ k ≤ 2 ^ 8 := Nat.pow_le_pow_right (by decide) hk
    omega
  simp [rightB, sideB]
  omega

theorem tile_no {k : Nat} {i j : Int} (h : inSq 0 0 (sd k) i j) : ∃ n, n < 2 ^ k * 2 ^ k ∧ ((n % 2 ^ k : Nat) : Int) = i ∧ ((n / 2 ^ k : Nat) : Int) = j := by
  obtain ⟨h1, h2, h3, h4⟩ := h
  unfold sd at h2 h4
  have hp : 0 < 2 ^ k := Nat.two_pow_pos k
  generalize 2 ^ k = s at *
  obtain ⟨a, rfl⟩ : ∃ a : Nat, i = a := ⟨i.toNat, by omega⟩
  obtain ⟨b, rfl⟩ : ∃ b : Nat, j = b := ⟨j.toNat, by omega⟩
  have ha : a < s := by omega
  have hb : b < s := by omega
  refine ⟨s * b + a, ?_, ?_, ?_⟩
  · have : s * (b + 1) ≤ s * s := Nat.mul_le_mul_left s hb
    rw [Nat.mul_succ] at this
    omega
  · rw [Nat.mul_add_mod, Nat.mod_eq_of_lt ha]
  · rw [Nat.mul_add_div hp, Nat.div_eq_of_lt ha, Nat.add_zero]

section
variable {k : Nat} {t : Sq} {f : Nat → Int} (hk : k ≤ 8) (hg : SameG k t f) (hf : t.fits k) (rx ry rw rh : Int)
include hg hf

theorem leaf_tile {p : Lf} (hp : p ∈ lvs k 0 0 rx ry rw rh t) : ∃ i, i < 2 ^ k * 2 ^ k ∧ tileH (2 ^ k) rx ry rw rh i = true ∧ f i = p.2.2.2 := by
  obtain ⟨i, j, h1, h2, h3, h4⟩ := lvs_mem k 0 0 rx ry rw rh t p hf hp
  obtain ⟨n, hn, e1, e2⟩ := tile_no h1
  refine ⟨n, hn, tileH_iff.2 ⟨h2, by rw [e1, e2]; exact h3⟩, ?_⟩
  rw [hg n hn, e1, e2]
  exact h4
include hk
theorem tile_leaf {i : Nat} (hi : i < 2 ^ k * 2 ^ k) (hH : tileH (2 ^ k) rx ry rw rh i = true) : ∃ p, p ∈ lvs k 0 0 rx ry rw rh t ∧ p.2.2.2 = f i := by
  obtain ⟨h1, h2⟩ := tileH_iff.1 hH
  obtain ⟨p, hp, hv⟩ := lvs_has k 0 0 rx ry rw rh t _ _ hf (right_own hk) h1 (tile_in hi) h2
  exact ⟨p, hp, by rw [hv, hg i hi]⟩

theorem any_seen (z : Int) : (lvs k 0 0 rx ry rw rh t).any (fun p => p.2.2.2 == z) = anyF f (tileH (2 ^ k) rx ry rw rh) z (2 ^ k * 2 ^ k) := by
  rw [Bool.eq_iff_iff, List.any_eq_true, anyF_iff]
  constructor
  · rintro ⟨p, hp, hv⟩
    obtain ⟨i, a, b, c⟩ := leaf_tile hg hf rx ry rw rh hp
    exact ⟨i, a, b, by rw [c]; simpa using hv⟩
  · rintro ⟨i, a, b, c⟩
    obtain ⟨p, hp, hv⟩ := tile_leaf hk hg hf rx ry rw rh a b
    exact ⟨p, hp, by simp [hv, c]⟩

theorem only_seen : onlyV (lvs k 0 0 rx ry rw rh t) = if ((seenF f (tileH (2 ^ k) rx ry rw rh) (2 ^ k * 2 ^ k)).2.1 && (seenF f (tileH (2 ^ k) rx ry rw rh) (2 ^ k * 2 ^ k)).2.2) = true then ((seenF f (tileH (2 ^ k) rx ry rw rh) (2 ^ k * 2 ^ k)).1, true) else (0, false) := by
  have hA := fun p (hp : p ∈ lvs k 0 0 rx ry rw rh t) => leaf_tile hg hf rx ry rw rh hp
  have hB := fun i (hi : i < 2 ^ k * 2 ^ k) hH => tile_leaf hk hg hf rx ry rw rh hi hH
  have hs := seenF_some (F := f) (H := tileH (2 ^ k) rx ry rw rh) (n := 2 ^ k * 2 ^ k)
  have ho := seenF_one (F := f) (H := tileH (2 ^ k) rx ry rw rh) (n := 2 ^ k * 2 ^ k)
  generalize seenF f (tileH (2 ^ k) rx ry rw rh) (2 ^ k * 2 ^ k) = S at *
  generalize lvs k 0 0 rx ry rw rh t = l at *
  obtain ⟨o, sm, on⟩ := S
  dsimp only at *
  cases sm with
  | false =>
    cases l with
    | nil => rfl
    | cons p r =>
      obtain ⟨i, a, b, _⟩ := hA p (by simp)
      exact absurd (hs.2 ⟨i, a, b⟩) (by decide)
  | true =>
    obtain ⟨i, hi, hH⟩ := hs.1 rfl
    obtain ⟨p0, hp0, _⟩ := hB i hi hH
    have hne : l ≠ [] := fun h => by rw [h] at hp0; cases hp0
    cases on with
    | true =>
      rw [onlyV_same (u := o) (fun p hp => ?_) hne]
      · rfl
      · obtain ⟨j, a, b, c⟩ := hA p hp
        rw [← c]
        exact ho.1 rfl j a b
    | false =>
      have hnot : ¬ ∀ i j, i < 2 ^ k * 2 ^ k → j < 2 ^ k * 2 ^ k → tileH (2 ^ k) rx ry rw rh i = true → tileH (2 ^ k) rx ry rw rh j = true → f i = f j := fun h => by
        have := ho.2 h
        cases this
      have hex : ∃ i j, i < 2 ^ k * 2 ^ k ∧ j < 2 ^ k * 2 ^ k ∧ tileH (2 ^ k) rx ry rw rh i = true ∧ tileH (2 ^ k) rx ry rw rh j = true ∧ f i ≠ f j := by
        apply Classical.byContradiction
        intro hno
        refine hnot fun i j a b c d => Classical.byContradiction fun e => hno ⟨i, j, a, b, c, d, e⟩
      obtain ⟨i, j, a, b, c, d, e⟩ := hex
      obtain ⟨p, hp, hpv⟩ := hB i a c
      obtain ⟨q, hq, hqv⟩ := hB j b d
      rw [onlyV_other hp hq (by rw [hpv, hqv]; exact e)]
      rfl

theorem count_seen (z : Int) : cntL z (lvs k 0 0 0 0 (sd k) (sd k) t) = cntF f z (2 ^ k * 2 ^ k) := by
  have hr := right_own hk
  rw [cnt_lvs k 0 0 0 0 (sd k) (sd k) z t hf hr (by simp [inB, hr])]
  refine (cntF_rect fun i hi => ?_).symm
  rw [hg i hi]
end
end Go.Proofs.Ytdpdkjpkehgdnaa
