/-
  Plain laws of quads: a quad that Set has made is as small as can be; its leaves and bytes are those that the document says. No program in sight.
-/
import Derived.Test.YtdpdkjpkehgdnaaQuT
import Derived.Test.YtdpdkjpkehgdnaaQuV
import Derived.Test.YtdpdkjpkehgdnaaQuW
namespace Go.Proofs.Ytdpdkjpkehgdnaa
open Go.RowKit

/-- no four quarters could be joined -/
def canon : Sq → Prop
  | .leaf _ => True
  | .node a b c d => canon a ∧ canon b ∧ canon c ∧ canon d ∧ oneB (kidOf a b c d) 4 = false
theorem canon_kid {a b c d : Sq} (h : canon (.node a b c d)) {q : Nat} (hq : q < 4) : canon (kidOf a b c d q) := by
  obtain ⟨h0, h1, h2, h3, _⟩ := h
  match q, hq with
  | 0, _ => exact h0
  | 1, _ => exact h1
  | 2, _ => exact h2
  | 3, _ => exact h3
theorem canon_quart {t : Sq} (h : canon t) {q : Nat} (hq : q < 4) : canon (quart t q) := by
  cases t with
  | leaf v => trivial
  | node a b c d => exact canon_kid h hq
theorem oneB_congr {U U' : Nat → Sq} (h : ∀ i, i < 4 → U i = U' i) : oneB U 4 = oneB U' 4 := by
  simp only [oneB, h 0 (by decide), h 1 (by decide), h 2 (by decide), h 3 (by decide)]
theorem canon_join {U : Nat → Sq} (h : ∀ i, i < 4 → canon (U i)) : canon (joinU U) := by
  unfold joinU
  split
  · exact h 0 (by decide)
  · rename_i hone
    refine ⟨h 0 (by decide), h 1 (by decide), h 2 (by decide), h 3 (by decide), ?_⟩
    rw [oneB_congr (U' := U) (fun i hi => ?_)]
    · simpa using hone
    · match i, hi with
      | 0, _ => rfl
      | 1, _ => rfl
      | 2, _ => rfl
      | 3, _ => rfl
theorem canon_setT : ∀ (k : Nat) (x y rx ry rw rh v : Int) (t : Sq), canon t → canon (setT k x y rx ry rw rh v t)
  | 0, x, y, rx, ry, rw, rh, v, t, h => by
    unfold setT
    repeat' split
    all_goals first | exact h | trivial
  | k + 1, x, y, rx, ry, rw, rh, v, t, h => by
    unfold setT
    repeat' split
    all_goals first | exact h | trivial | skip
    exact canon_join fun i hi => canon_setT k _ _ _ _ _ _ _ _ (canon_quart h hi)
theorem canon_play (k : Nat) (l : List Op5) : canon (playT k l) := by
  have : ∀ (l : List Op5) (t : Sq), canon t → canon (l.foldl (stepT k) t) := by
    intro l
    induction l with
    | nil => exact fun _ h => h
    | cons o l ih =>
      intro t h
      refine ih _ ?_
      unfold stepT
      split
      · exact canon_setT _ _ _ _ _ _ _ _ _ h
      · exact h
  exact this l _ trivial

/-- a square all of whose tiles have one value is one leaf -/
theorem canon_leaf : ∀ (k : Nat) (t : Sq) (x y u : Int), canon t → t.fits k → (∀ i j, inSq x y (sd k) i j → valT k x y t i j = u) → t = .leaf u
  | k, .leaf v, x, y, u, _, _, h => by
    have hp := sd_pos k
    have := h x y (by unfold inSq; omega)
    rw [valT_leaf] at this
    rw [this]
  | k, .node a b c d, x, y, u, hc, hf, h => by
    obtain ⟨k', rfl, f0, f1, f2, f3⟩ := hf
    have hk : ∀ q, q < 4 → kidOf a b c d q = .leaf u := fun q hq => by
      refine canon_leaf k' _ (quX x (sd k') q) (quY y (sd k') q) u (canon_kid hc hq) (kid_fits ⟨k', rfl, f0, f1, f2, f3⟩ hq) fun i j hs => ?_
      obtain ⟨e1, e2⟩ := inSq_of_quart hq hs
      have := h i j (by rw [sd_succ]; exact e1)
      rw [valT_quart, e2] at this
      exact this
    have h5 := hc.2.2.2.2
    rw [oneB_congr (U' := fun _ => .leaf u) hk] at h5
    simp [oneB, Sq.tag] at h5
  termination_by k => k
  decreasing_by omega

/-- what the document says of a square's leaves -/
def sqG (S : Nat) (f : Nat → Int) : Nat → Nat → Nat → List Lf
  | 0, x, y => [((x : Int), (y : Int), 1, f (y * S + x))]
  | k + 1, x, y => if OneP S f x y (2 ^ (k + 1)) then [((x : Int), (y : Int), sd (k + 1), f (y * S + x))]
    else sqG S f k x y ++ sqG S f k (x + 2 ^ k) y ++ sqG S f k x (y + 2 ^ k) ++ sqG S f k (x + 2 ^ k) (y + 2 ^ k)
/-- and of its bytes -/
def byG (S : Nat) (f : Nat → Int) : Nat → Nat → Nat → List UInt8
  | 0, x, y => [0, byteOf (f (y * S + x))]
  | k + 1, x, y => if OneP S f x y (2 ^ (k + 1)) then [0, byteOf (f (y * S + x))]
    else 1 :: (byG S f k x y ++ byG S f k (x + 2 ^ k) y ++ byG S f k x (y + 2 ^ k) ++ byG S f k (x + 2 ^ k) (y + 2 ^ k))

def qn (x h q : Nat) : Nat := if q % 2 = 1 then x + h else x
def qm (y h q : Nat) : Nat := if 2 ≤ q then y + h else y
theorem qn_cast (x k q : Nat) : ((qn x (2 ^ k) q : Nat) : Int) = quX (x : Int) (sd k) q := by
  unfold qn quX sd
  split <;> simp
theorem qm_cast (y k q : Nat) : ((qm y (2 ^ k) q : Nat) : Int) = quY (y : Int) (sd k) q := by
  unfold qm quY sd
  split <;> simp

/-- the values of a square's tiles -/
def AgreeS (S k x y : Nat) (t : Sq) (f : Nat → Int) : Prop := ∀ i j : Nat, x ≤ i → i < x + 2 ^ k → y ≤ j → j < y + 2 ^ k → f (j * S + i) = valT k (x : Int) (y : Int) t (i : Int) (j : Int)

theorem agree_kid {S k x y : Nat} {a b c d : Sq} {f : Nat → Int} (h : AgreeS S (k + 1) x y (.node a b c d) f) {q : Nat} (hq : q < 4) : AgreeS S k (qn x (2 ^ k) q) (qm y (2 ^ k) q) (kidOf a b c d q) f := by
  intro i j h1 h2 h3 h4
  have hs : inSq (quX (x : Int) (sd k) q) (quY (y : Int) (sd k) q) (sd k) (i : Int) (j : Int) := by
    rw [← qn_cast, ← qm_cast]
    unfold inSq sd
    omega
  obtain ⟨e1, e2⟩ := inSq_of_quart hq hs
  have hp : 2 ^ (k + 1) = 2 * 2 ^ k := by rw [Nat.pow_succ]; omega
  unfold inSq sd at e1
  have := h i j (by omega) (by omega) (by omega) (by omega)
  rw [this, valT_quart, e2, qn_cast, qm_cast]
  rfl

theorem one_iff {S k x y : Nat} {t : Sq} {f : Nat → Int} (h : AgreeS S k x y t f) (hc : canon t) (hf : t.fits k) : OneP S f x y (2 ^ k) ↔ ∃ u, t = .leaf u := by
  have hp : 0 < 2 ^ k := Nat.two_pow_pos k
  constructor
  · intro ho
    refine ⟨f (y * S + x), canon_leaf k t x y _ hc hf fun i j hs => ?_⟩
    unfold inSq sd at hs
    obtain ⟨i', rfl⟩ : ∃ i' : Nat, i = i' := ⟨i.toNat, by omega⟩
    obtain ⟨j', rfl⟩ : ∃ j' : Nat, j = j' := ⟨j.toNat, by omega⟩
    rw [← h i' j' (by omega) (by omega) (by omega) (by omega)]
    have := ho (j' - y) (by omega) (i' - x) (by omega)
    rw [← this]
    congr 1
    have e1 : y + (j' - y) = j' := by omega
    rw [e1]
    omega
  · rintro ⟨u, rfl⟩
    intro i hi j hj
    have h1 := h (x + j) (y + i) (by omega) (by omega) (by omega) (by omega)
    have h2 := h x y (by omega) (by omega) (by omega) (by omega)
    rw [valT_leaf] at h1 h2
    rw [h2, ← h1]
    congr 1
    omega

theorem full_meet {k : Nat} {x y rx ry rw rh : Int} (h1 : rightB x y (sd k) (sd k) = true) (hi : inB x y (sd k) (sd k) rx ry rw rh = true) : meetB x y (sd k) (sd k) rx ry rw rh = true := by
  have hi' := hi
  simp only [inB, Bool.and_eq_true, decide_eq_true_eq] at hi'
  obtain ⟨⟨⟨⟨⟨_, hR⟩, b1⟩, b2⟩, b3⟩, b4⟩ := hi'
  obtain ⟨⟨a1, a2, a3, a4⟩, a5, a6, a7, a8⟩ := of_rightB h1
  exact meet_of (i := x) (j := y) h1 hR (by unfold inSq; omega) (by unfold inR; omega)
theorem in_quart {k : Nat} {x y rx ry rw rh : Int} (h1 : rightB x y (sd (k + 1)) (sd (k + 1)) = true) (hi : inB x y (sd (k + 1)) (sd (k + 1)) rx ry rw rh = true) (q : Nat) : inB (quX x (sd k) q) (quY y (sd k) q) (sd k) (sd k) rx ry rw rh = true := by
  have hi' := hi
  simp only [inB, Bool.and_eq_true, decide_eq_true_eq] at hi'
  obtain ⟨⟨⟨⟨⟨_, hR⟩, b1⟩, b2⟩, b3⟩, b4⟩ := hi'
  have hsd := sd_succ k
  have hp := sd_pos k
  have hr := right_quart (q := q) h1
  have hx : x ≤ quX x (sd k) q ∧ quX x (sd k) q + sd k ≤ x + sd (k + 1) := by unfold quX; split <;> omega
  have hy : y ≤ quY y (sd k) q ∧ quY y (sd k) q + sd k ≤ y + sd (k + 1) := by unfold quY; split <;> omega
  simp [inB, hr, hR]
  omega

theorem sqG_eq (S : Nat) (rx ry rw rh : Int) (f : Nat → Int) : ∀ (k x y : Nat) (t : Sq), AgreeS S k x y t f → canon t → t.fits k → rightB (x : Int) (y : Int) (sd k) (sd k) = true → inB (x : Int) (y : Int) (sd k) (sd k) rx ry rw rh = true →
    sqG S f k x y = lvs k (x : Int) (y : Int) rx ry rw rh t ∧ byG S f k x y = bytesT t := by
  intro k
  induction k with
  | zero =>
    intro x y t h hc hf hr hi
    have hm := full_meet hr hi
    cases t with
    | leaf u =>
      have h2 := h x y (Nat.le_refl _) (by simp) (Nat.le_refl _) (by simp)
      rw [valT_leaf] at h2
      simp only [sqG, byG, lvs, hm, if_true, h2, bytesT]
      exact ⟨by first | rfl | trivial, by first | rfl | trivial⟩
    | node a b c d =>
      obtain ⟨k', e, _⟩ := hf
      cases e
  | succ k ihk =>
    intro x y t h hc hf hr hi
    have hm := full_meet hr hi
    have ho := one_iff h hc hf
    have hp : 0 < 2 ^ (k + 1) := Nat.two_pow_pos _
    cases t with
    | leaf u =>
      have h2 := h x y (Nat.le_refl _) (by omega) (Nat.le_refl _) (by omega)
      rw [valT_leaf] at h2
      have h3 : OneP S f x y (2 ^ (k + 1)) := ho.2 ⟨u, rfl⟩
      simp only [sqG, byG, lvs, hm, if_true, if_pos h3, h2, bytesT]
      exact ⟨by first | rfl | trivial, by first | rfl | trivial⟩
    | node a b c d =>
      have h3 : ¬ OneP S f x y (2 ^ (k + 1)) := fun h => by
        obtain ⟨u, hu⟩ := ho.1 h
        cases hu
      have hff := hf
      obtain ⟨k', e, f0, f1, f2, f3⟩ := hf
      have ih : ∀ q, q < 4 → sqG S f k (qn x (2 ^ k) q) (qm y (2 ^ k) q) = lvs k (quX (x : Int) (sd k) q) (quY (y : Int) (sd k) q) rx ry rw rh (kidOf a b c d q) ∧ byG S f k (qn x (2 ^ k) q) (qm y (2 ^ k) q) = bytesT (kidOf a b c d q) := fun q hq => by
        have := ihk (qn x (2 ^ k) q) (qm y (2 ^ k) q) (kidOf a b c d q) (agree_kid h hq) (canon_kid hc hq) (kid_fits hff hq) (by rw [qn_cast, qm_cast]; exact right_quart hr) (by rw [qn_cast, qm_cast]; exact in_quart hr hi q)
        rw [qn_cast, qm_cast] at this
        exact this
      have i0 := ih 0 (by decide)
      have i1 := ih 1 (by decide)
      have i2 := ih 2 (by decide)
      have i3 := ih 3 (by decide)
      have x0 : qn x (2 ^ k) 0 = x := rfl
      have x1 : qn x (2 ^ k) 1 = x + 2 ^ k := rfl
      have x2 : qn x (2 ^ k) 2 = x := rfl
      have x3 : qn x (2 ^ k) 3 = x + 2 ^ k := rfl
      have y0 : qm y (2 ^ k) 0 = y := rfl
      have y1 : qm y (2 ^ k) 1 = y := rfl
      have y2 : qm y (2 ^ k) 2 = y + 2 ^ k := rfl
      have y3 : qm y (2 ^ k) 3 = y + 2 ^ k := rfl
      rw [x0, y0] at i0
      rw [x1, y1] at i1
      rw [x2, y2] at i2
      rw [x3, y3] at i3
      rw [sqG, byG, if_neg h3, if_neg h3, lvs_node _ _ _ _ _ _ _ _ _ _ _ hm, bytesT_node, i0.1, i1.1, i2.1, i3.1, i0.2, i1.2, i2.2, i3.2]
      constructor
      · simp [lvsTo]
      · simp [bytesTo]
end Go.Proofs.Ytdpdkjpkehgdnaa
