/-
  Plain laws of quads: what At tells; how many squares there are. No program in sight.
-/
import Derived.Test.YtdpdkjpkehgdnaaQuX
import Derived.Test.YtdpdkjpkehgdnaaQuY
namespace Go.Proofs.Ytdpdkjpkehgdnaa
open Go.RowKit

theorem at_tile {k : Nat} {t : Sq} {f : Nat → Int} (hk : k ≤ 5) (hg : SameG k t f) (hf : t.fits k) {i : Nat} (hi : i < 2 ^ k * 2 ^ k) :
    onlyV (lvs k 0 0 ((i % 2 ^ k : Nat) : Int) ((i / 2 ^ k : Nat) : Int) 1 1 t) = (f i, true) := by
  have hk8 : k ≤ 8 := by omega
  have hs := tile_in hi
  have h32 : sd k ≤ 32 := by
    unfold sd
    have : 2 ^ k ≤ 2 ^ 5 := Nat.pow_le_pow_right (by decide) hk
    omega
  have hr : rightB ((i % 2 ^ k : Nat) : Int) ((i / 2 ^ k : Nat) : Int) 1 1 = true := by
    obtain ⟨a, b, c, d⟩ := hs
    simp only [rightB, sideB, Bool.and_eq_true, decide_eq_true_eq]
    omega
  have hH : tileH (2 ^ k) ((i % 2 ^ k : Nat) : Int) ((i / 2 ^ k : Nat) : Int) 1 1 i = true := tileH_iff.2 ⟨hr, by unfold inR; omega⟩
  obtain ⟨p, hp, _⟩ := tile_leaf hk8 hg hf _ _ _ _ hi hH
  refine onlyV_same (fun q hq => ?_) (fun h => by rw [h] at hp; cases hp)
  obtain ⟨j, hj, hjH, hjv⟩ := leaf_tile hg hf _ _ _ _ hq
  obtain ⟨_, h1, h2, h3, h4⟩ := tileH_iff.1 hjH
  have e1 : j % 2 ^ k = i % 2 ^ k := by omega
  have e2 : j / 2 ^ k = i / 2 ^ k := by omega
  have e : j = i := by rw [← Nat.div_add_mod j (2 ^ k), ← Nat.div_add_mod i (2 ^ k), e1, e2]
  rw [← hjv, e]

theorem at_none {k : Nat} {t : Sq} {f : Nat → Int} (hg : SameG k t f) (hf : t.fits k) {x y : Int} (h : x < 0 ∨ y < 0 ∨ sd k ≤ x ∨ sd k ≤ y) : onlyV (lvs k 0 0 x y 1 1 t) = (0, false) := by
  have : lvs k 0 0 x y 1 1 t = [] := by
    cases hl : lvs k 0 0 x y 1 1 t with
    | nil => rfl
    | cons p r =>
      exfalso
      obtain ⟨i, hi, hH, _⟩ := leaf_tile hg hf x y 1 1 (p := p) (by rw [hl]; simp)
      obtain ⟨_, h1, h2, h3, h4⟩ := tileH_iff.1 hH
      obtain ⟨a, b, c, d⟩ := tile_in hi
      omega
  rw [this]
  rfl

theorem nodes_lvs : ∀ (k : Nat) (x y rx ry rw rh : Int) (t : Sq), t.fits k → rightB x y (sd k) (sd k) = true → inB x y (sd k) (sd k) rx ry rw rh = true → 3 * t.nodes + 1 = 4 * (lvs k x y rx ry rw rh t).length
  | k, x, y, rx, ry, rw, rh, t, hf, hr, hi => by
    have hm := full_meet hr hi
    cases t with
    | leaf v =>
      have hl : lvs k x y rx ry rw rh (.leaf v) = [(x, y, sd k, v)] := by cases k <;> simp [lvs, hm]
      rw [hl]
      rfl
    | node a b c d =>
      have hff := hf
      obtain ⟨k', rfl, _⟩ := hf
      have ih : ∀ q, q < 4 → 3 * (kidOf a b c d q).nodes + 1 = 4 * (lvs k' (quX x (sd k') q) (quY y (sd k') q) rx ry rw rh (kidOf a b c d q)).length := fun q hq =>
        nodes_lvs k' _ _ rx ry rw rh _ (kid_fits hff hq) (right_quart hr) (in_quart hr hi q)
      have i0 := ih 0 (by decide)
      have i1 := ih 1 (by decide)
      have i2 := ih 2 (by decide)
      have i3 := ih 3 (by decide)
      rw [lvs_node _ _ _ _ _ _ _ _ _ _ _ hm]
      simp only [lvsTo, List.nil_append, List.length_append, Sq.nodes]
      simp only [kidOf] at i0 i1 i2 i3 ⊢
      omega
  termination_by k => k
  decreasing_by omega

theorem agree_all {k : Nat} {t : Sq} {f : Nat → Int} (h : SameG k t f) : AgreeS (2 ^ k) k 0 0 t f := by
  intro i j _ h2 _ h4
  have hp : 0 < 2 ^ k := Nat.two_pow_pos k
  have hlt : j * 2 ^ k + i < 2 ^ k * 2 ^ k := by
    have : (j + 1) * 2 ^ k ≤ 2 ^ k * 2 ^ k := Nat.mul_le_mul_right _ (by omega)
    rw [Nat.succ_mul] at this
    omega
  rw [h _ hlt]
  congr 2
  · rw [Nat.mul_comm, Nat.mul_add_mod, Nat.mod_eq_of_lt (by omega)]
  · rw [Nat.mul_comm, Nat.mul_add_div hp, Nat.div_eq_of_lt (by omega), Nat.add_zero]
theorem plays_all {k : Nat} (hk : k ≤ 8) {t : Sq} {f : Nat → Int} (h : SameG k t f) (hc : canon t) (hf : t.fits k) : sqG (2 ^ k) f k 0 0 = lvs k 0 0 0 0 (sd k) (sd k) t ∧ byG (2 ^ k) f k 0 0 = bytesT t := by
  have hr := right_own hk
  exact sqG_eq (2 ^ k) 0 0 (sd k) (sd k) f k 0 0 t (agree_all h) hc hf hr (by simp [inB, hr])

theorem lvs_pos {k : Nat} (hk : k ≤ 8) {t : Sq} (hf : t.fits k) : 0 < (lvs k 0 0 0 0 (sd k) (sd k) t).length := by
  have hr := right_own hk
  have h := nodes_lvs k 0 0 0 0 (sd k) (sd k) t hf hr (by simp [inB, hr])
  omega
theorem sqCells_get {l : List Lf} {n : Nat} {p : Lf} (h : l[n]? = some p) : (sqCells l)[n * 4]? = some (.int .i64 p.1) ∧ (sqCells l)[n * 4 + 1]? = some (.int .i64 p.2.1) ∧ (sqCells l)[n * 4 + 2]? = some (.int .i64 p.2.2.1) ∧ (sqCells l)[n * 4 + 3]? = some (.int .i64 p.2.2.2) := by
  induction l generalizing n with
  | nil => simp at h
  | cons q r ih =>
    cases n with
    | zero =>
      simp at h
      subst h
      simp [sqCells]
    | succ n =>
      simp at h
      have := ih h
      have e : (n + 1) * 4 = n * 4 + 4 := by omega
      have hc : sqCells (q :: r) = [.int .i64 q.1, .int .i64 q.2.1, .int .i64 q.2.2.1, .int .i64 q.2.2.2] ++ sqCells r := by simp [sqCells]
      rw [e, hc]
      have hg : ∀ j, ([Value.int .i64 q.1, .int .i64 q.2.1, .int .i64 q.2.2.1, .int .i64 q.2.2.2] ++ sqCells r)[j + 4]? = (sqCells r)[j]? := fun j => by
        rw [List.getElem?_append_right (by simp)]
        simp
      refine ⟨?_, ?_, ?_, ?_⟩
      · rw [hg]; exact this.1
      · rw [show n * 4 + 4 + 1 = n * 4 + 1 + 4 by omega, hg]; exact this.2.1
      · rw [show n * 4 + 4 + 2 = n * 4 + 2 + 4 by omega, hg]; exact this.2.2.1
      · rw [show n * 4 + 4 + 3 = n * 4 + 3 + 4 by omega, hg]; exact this.2.2.2
theorem playF_bd (k : Nat) (l : List Op5) : ∀ i, 0 ≤ playF k l i ∧ playF k l i ≤ 255 := by
  have : ∀ (l : List Op5) (f : Nat → Int), (∀ i, 0 ≤ f i ∧ f i ≤ 255) → ∀ i, 0 ≤ l.foldl (stepF k) f i ∧ l.foldl (stepF k) f i ≤ 255 := by
    intro l
    induction l with
    | nil => exact fun _ h => h
    | cons o l ih =>
      intro f h
      refine ih _ fun i => ?_
      unfold stepF
      split
      · rename_i hok
        simp only [okSet, Bool.and_eq_true, decide_eq_true_eq] at hok
        unfold setF
        split
        · exact ⟨hok.1.2, hok.2⟩
        · exact h i
      · exact h i
  exact this l _ fun _ => ⟨Int.le_refl _, by decide⟩
theorem bytesT_pos (t : Sq) : 0 < (bytesT t).length := by
  cases t <;> simp [bytesT]
theorem bytesT_le : ∀ t : Sq, (bytesT t).length ≤ 2 * t.nodes
  | .leaf _ => by simp [bytesT, Sq.nodes]
  | .node a b c d => by
    have h0 := bytesT_le a
    have h1 := bytesT_le b
    have h2 := bytesT_le c
    have h3 := bytesT_le d
    simp only [bytesT, Sq.nodes, List.length_cons, List.length_append]
    omega
end Go.Proofs.Ytdpdkjpkehgdnaa
