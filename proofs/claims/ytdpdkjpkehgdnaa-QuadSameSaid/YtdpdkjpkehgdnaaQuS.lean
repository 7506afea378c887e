/-
  Plain laws of quads: how many tiles have a value, counted by leaves and row by row; the grid behind the same calls; a walk through a grid's tiles. No program in sight.
-/
import Derived.Test.YtdpdkjpkehgdnaaQuR
import Derived.Test.YtdpdkjpkehgdnaaQuL
namespace Go.Proofs.Ytdpdkjpkehgdnaa
open Go.RowKit

def rowC (g : Int → Int → Bool) (x y : Int) : Nat → Int
  | 0 => 0
  | n + 1 => rowC g x y n + (if g (x + n) y = true then 1 else 0)
def rectC (g : Int → Int → Bool) (x y : Int) (w : Nat) : Nat → Int
  | 0 => 0
  | h + 1 => rectC g x y w h + rowC g x (y + h) w
theorem rowC_add (g : Int → Int → Bool) (x y : Int) (a : Nat) : ∀ b : Nat, rowC g x y (a + b) = rowC g x y a + rowC g (x + a) y b
  | 0 => by simp [rowC]
  | b + 1 => by
    rw [← Nat.add_assoc, rowC, rowC, rowC_add g x y a b]
    have e : x + ((a + b : Nat) : Int) = x + (a : Int) + (b : Int) := by omega
    rw [e]
    omega
theorem rectC_addW (g : Int → Int → Bool) (x y : Int) (a b : Nat) : ∀ h : Nat, rectC g x y (a + b) h = rectC g x y a h + rectC g (x + a) y b h
  | 0 => by simp [rectC]
  | h + 1 => by
    rw [rectC, rectC, rectC, rectC_addW g x y a b h, rowC_add]
    omega
theorem rectC_addH (g : Int → Int → Bool) (x y : Int) (w a : Nat) : ∀ b : Nat, rectC g x y w (a + b) = rectC g x y w a + rectC g x (y + a) w b
  | 0 => by simp [rectC]
  | b + 1 => by
    rw [← Nat.add_assoc, rectC, rectC, rectC_addH g x y w a b]
    have e : y + ((a + b : Nat) : Int) = y + (a : Int) + (b : Int) := by omega
    rw [e]
    omega
theorem rowC_congr {g g' : Int → Int → Bool} {x y : Int} : ∀ {n : Nat}, (∀ i : Int, x ≤ i → i < x + n → g i y = g' i y) → rowC g x y n = rowC g' x y n
  | 0, _ => rfl
  | n + 1, h => by
    rw [rowC, rowC, rowC_congr (n := n) (fun i h1 h2 => h i h1 (by omega)), h (x + n) (by omega) (by omega)]
theorem rectC_congr {g g' : Int → Int → Bool} {x y : Int} {w : Nat} : ∀ {h : Nat}, (∀ i j : Int, x ≤ i → i < x + w → y ≤ j → j < y + h → g i j = g' i j) → rectC g x y w h = rectC g' x y w h
  | 0, _ => rfl
  | h + 1, hh => by
    rw [rectC, rectC, rectC_congr (h := h) (fun i j a b c d => hh i j a b c (by omega)), rowC_congr (fun i a b => hh i (y + h) a b (by omega) (by omega))]
theorem rowC_const (b : Bool) (x y : Int) : ∀ n : Nat, rowC (fun _ _ => b) x y n = if b = true then (n : Int) else 0
  | 0 => by simp [rowC]
  | n + 1 => by
    rw [rowC, rowC_const b x y n]
    cases b <;> simp
theorem rectC_const (b : Bool) (x y : Int) (w : Nat) : ∀ h : Nat, rectC (fun _ _ => b) x y w h = if b = true then (w : Int) * (h : Int) else 0
  | 0 => by simp [rectC]
  | h + 1 => by
    rw [rectC, rectC_const b x y w h, rowC_const]
    cases b
    · simp
    · simp only [if_true, Int.natCast_add]
      rw [Int.mul_add]
      simp

theorem cntL_to (v : Int) (f : Nat → List Lf) : cntL v (lvsTo f 4) = cntL v (f 0) + cntL v (f 1) + cntL v (f 2) + cntL v (f 3) := by
  simp only [lvsTo, List.nil_append, cntL_append]

/-- how many tiles of a square have a value: by leaves as by tiles -/
theorem cnt_lvs : ∀ (k : Nat) (x y rx ry rw rh v : Int) (t : Sq), t.fits k → rightB x y (sd k) (sd k) = true → inB x y (sd k) (sd k) rx ry rw rh = true →
    cntL v (lvs k x y rx ry rw rh t) = rectC (fun i j => decide (valT k x y t i j = v)) x y (2 ^ k) (2 ^ k)
  | k, x, y, rx, ry, rw, rh, v, t, hf, h1, hi => by
    have hi' := hi
    simp only [inB, Bool.and_eq_true, decide_eq_true_eq] at hi'
    obtain ⟨⟨⟨⟨⟨_, hR⟩, b1⟩, b2⟩, b3⟩, b4⟩ := hi'
    obtain ⟨⟨a1, a2, a3, a4⟩, a5, a6, a7, a8⟩ := of_rightB h1
    have hm : meetB x y (sd k) (sd k) rx ry rw rh = true := meet_of (i := x) (j := y) h1 hR (by unfold inSq; omega) (by unfold inR; omega)
    cases t with
    | leaf u =>
      have hl : lvs k x y rx ry rw rh (.leaf u) = [(x, y, sd k, u)] := by cases k <;> simp [lvs, hm]
      rw [hl]
      simp only [valT_leaf]
      rw [rectC_const]
      simp only [cntL, Int.add_zero, decide_eq_true_eq, areaV, h1, if_true]
      rfl
    | node a b c d =>
      obtain ⟨k', rfl, f0, f1, f2, f3⟩ := hf
      have hsd := sd_succ k'
      have hp := sd_pos k'
      rw [lvs_node _ _ _ _ _ _ _ _ _ _ _ hm, cntL_to]
      have ih : ∀ q, q < 4 → cntL v (lvs k' (quX x (sd k') q) (quY y (sd k') q) rx ry rw rh (kidOf a b c d q)) = rectC (fun i j => decide (valT (k' + 1) x y (.node a b c d) i j = v)) (quX x (sd k') q) (quY y (sd k') q) (2 ^ k') (2 ^ k') := by
        intro q hq
        have hr := right_quart (q := q) h1
        rw [cnt_lvs k' _ _ rx ry rw rh v _ (kid_fits ⟨k', rfl, f0, f1, f2, f3⟩ hq) hr ?_]
        · refine rectC_congr fun i j c1 c2 c3 c4 => ?_
          have hs : inSq (quX x (sd k') q) (quY y (sd k') q) (sd k') i j := ⟨c1, c2, c3, c4⟩
          obtain ⟨_, e⟩ := inSq_of_quart hq hs
          rw [valT_quart k' x y, e]
          rfl
        · have hx : x ≤ quX x (sd k') q ∧ quX x (sd k') q + sd k' ≤ x + sd (k' + 1) := by unfold quX; split <;> omega
          have hy : y ≤ quY y (sd k') q ∧ quY y (sd k') q + sd k' ≤ y + sd (k' + 1) := by unfold quY; split <;> omega
          simp [inB, hr, hR]
          omega
      have e2 : 2 ^ (k' + 1) = 2 ^ k' + 2 ^ k' := by rw [Nat.pow_succ]; omega
      rw [e2, rectC_addH, rectC_addW, rectC_addW]
      have i0 := ih 0 (by decide)
      have i1 := ih 1 (by decide)
      have i2 := ih 2 (by decide)
      have i3 := ih 3 (by decide)
      have x0 : quX x (sd k') 0 = x := rfl
      have x1 : quX x (sd k') 1 = x + sd k' := rfl
      have x2 : quX x (sd k') 2 = x := rfl
      have x3 : quX x (sd k') 3 = x + sd k' := rfl
      have y0 : quY y (sd k') 0 = y := rfl
      have y1 : quY y (sd k') 1 = y := rfl
      have y2 : quY y (sd k') 2 = y + sd k' := rfl
      have y3 : quY y (sd k') 3 = y + sd k' := rfl
      have es : ((2 ^ k' : Nat) : Int) = sd k' := rfl
      rw [i0, i1, i2, i3, es, x0, x1, x2, x3, y0, y1, y2, y3]
      omega
  termination_by k => k
  decreasing_by omega

/-- how many of the first n numbers are v -/
def cntF (F : Nat → Int) (v : Int) : Nat → Int
  | 0 => 0
  | n + 1 => cntF F v n + (if F n = v then 1 else 0)
theorem cntF_bd (F : Nat → Int) (v : Int) : ∀ n : Nat, 0 ≤ cntF F v n ∧ cntF F v n ≤ n
  | 0 => by simp [cntF]
  | n + 1 => by
    have := cntF_bd F v n
    rw [cntF]
    split <;> omega
theorem cntF_add (F : Nat → Int) (v : Int) (a : Nat) : ∀ b : Nat, cntF F v (a + b) = cntF F v a + cntF (fun i => F (a + i)) v b
  | 0 => by simp [cntF]
  | b + 1 => by
    rw [← Nat.add_assoc, cntF, cntF, cntF_add F v a b]
    omega
theorem cntF_row {F : Nat → Int} {v : Int} {g : Int → Int → Bool} {y : Int} : ∀ {n : Nat}, (∀ i, i < n → decide (F i = v) = g (i : Int) y) → cntF F v n = rowC g 0 y n
  | 0, _ => rfl
  | n + 1, h => by
    rw [cntF, rowC, cntF_row (n := n) (fun i hi => h i (by omega))]
    have := h n (by omega)
    rw [Int.zero_add, ← this]
    simp
theorem cntF_rect {F : Nat → Int} {v : Int} {g : Int → Int → Bool} {s : Nat} : ∀ {m : Nat}, (∀ i, i < s * m → decide (F i = v) = g ((i % s : Nat) : Int) ((i / s : Nat) : Int)) → cntF F v (s * m) = rectC g 0 0 s m
  | 0, _ => by simp [cntF, rectC]
  | m + 1, h => by
    rw [Nat.mul_succ, cntF_add, rectC, cntF_rect (m := m) (fun i hi => h i (by rw [Nat.mul_succ]; omega))]
    congr 1
    rw [Int.zero_add]
    refine cntF_row fun i hi => ?_
    have := h (s * m + i) (by rw [Nat.mul_succ]; omega)
    rw [this]
    congr 2
    · rw [Nat.mul_add_mod, Nat.mod_eq_of_lt hi]
    · rw [Nat.mul_add_div (by omega), Nat.div_eq_of_lt hi, Nat.add_zero]

/-- the grid has the quad's values -/
def SameG (k : Nat) (t : Sq) (f : Nat → Int) : Prop := ∀ i, i < 2 ^ k * 2 ^ k → f i = valT k 0 0 t ((i % 2 ^ k : Nat) : Int) ((i / 2 ^ k : Nat) : Int)
theorem tile_in {k i : Nat} (h : i < 2 ^ k * 2 ^ k) : inSq 0 0 (sd k) ((i % 2 ^ k : Nat) : Int) ((i / 2 ^ k : Nat) : Int) := by
  have h0 : 0 < 2 ^ k := Nat.two_pow_pos k
  have h1 := Nat.mod_lt i h0
  have h2 : i / 2 ^ k < 2 ^ k := Nat.div_lt_of_lt_mul h
  unfold inSq sd
  generalize i % 2 ^ k = a at h1 ⊢
  generalize i / 2 ^ k = b at h2 ⊢
  generalize 2 ^ k = p at *
  omega
theorem sameG_step {k : Nat} {t : Sq} {f : Nat → Int} (h : SameG k t f) (o : Op5) : SameG k (stepT k t o) (stepF k f o) := by
  unfold stepT stepF
  cases hok : okSet (sd k) o.x o.y o.m o.n o.v with
  | false => simpa using h
  | true =>
    simp only [if_true]
    intro i hi
    have hr : rightB 0 0 (sd k) (sd k) = true ∧ rightB o.x o.y o.m o.n = true := by
      simp only [okSet, inB, Bool.and_eq_true] at hok
      exact ⟨hok.1.1.1.1.1.1.2, hok.1.1.1.1.1.1.1⟩
    rw [val_setT k 0 0 _ _ _ _ _ _ _ _ hr.1 hr.2 (tile_in hi), ← h i hi]
    rfl
theorem sameG_fold {k : Nat} : ∀ (l : List Op5) (t : Sq) (f : Nat → Int), SameG k t f → SameG k (l.foldl (stepT k) t) (l.foldl (stepF k) f)
  | [], _, _, h => h
  | o :: l, _, _, h => sameG_fold l _ _ (sameG_step h o)
theorem sameG_play {k : Nat} (l : List Op5) : SameG k (playT k l) (playF k l) :=
  sameG_fold l _ _ fun _ _ => (valT_leaf _ _ _ _ _ _).symm

/-- a walk through the numbers of which H says yes: the last one, is there any, are they all the same -/
def seenF (F : Nat → Int) (H : Nat → Bool) : Nat → Int × Bool × Bool
  | 0 => (0, false, true)
  | n + 1 => if H n = true then (F n, true, (seenF F H n).2.2 && (!(seenF F H n).2.1 || decide (F n = (seenF F H n).1))) else seenF F H n
def anyF (F : Nat → Int) (H : Nat → Bool) (v : Int) : Nat → Bool
  | 0 => false
  | n + 1 => if H n = true then anyF F H v n || decide (F n = v) else anyF F H v n
theorem anyF_iff {F : Nat → Int} {H : Nat → Bool} {v : Int} : ∀ {n : Nat}, anyF F H v n = true ↔ ∃ i, i < n ∧ H i = true ∧ F i = v
  | 0 => by simp [anyF]
  | n + 1 => by
    have ih := anyF_iff (F := F) (H := H) (v := v) (n := n)
    unfold anyF
    constructor
    · intro h
      split at h
      · rename_i hn
        rw [Bool.or_eq_true, ih, decide_eq_true_eq] at h
        rcases h with ⟨i, a, b⟩ | h
        · exact ⟨i, by omega, b⟩
        · exact ⟨n, by omega, hn, h⟩
      · obtain ⟨i, a, b⟩ := ih.1 h
        exact ⟨i, by omega, b⟩
    · rintro ⟨i, a, b, c⟩
      by_cases e : i = n
      · subst e
        rw [if_pos b]
        simp [c]
      · have := ih.2 ⟨i, by omega, b, c⟩
        split
        · rw [this]; rfl
        · exact this
theorem seenF_some {F : Nat → Int} {H : Nat → Bool} : ∀ {n : Nat}, (seenF F H n).2.1 = true ↔ ∃ i, i < n ∧ H i = true
  | 0 => by simp [seenF]
  | n + 1 => by
    have ih := seenF_some (F := F) (H := H) (n := n)
    unfold seenF
    split
    · rename_i hn
      exact ⟨fun _ => ⟨n, by omega, hn⟩, fun _ => rfl⟩
    · rename_i hn
      rw [ih]
      constructor
      · rintro ⟨i, a, b⟩
        exact ⟨i, by omega, b⟩
      · rintro ⟨i, a, b⟩
        refine ⟨i, ?_, b⟩
        by_cases e : i = n
        · subst e; exact absurd b hn
        · omega
theorem seenF_one {F : Nat → Int} {H : Nat → Bool} : ∀ {n : Nat}, ((seenF F H n).2.2 = true → ∀ i, i < n → H i = true → F i = (seenF F H n).1) ∧ ((∀ i j, i < n → j < n → H i = true → H j = true → F i = F j) → (seenF F H n).2.2 = true)
  | 0 => ⟨fun _ i hi => absurd hi (Nat.not_lt_zero _), fun _ => rfl⟩
  | n + 1 => by
    obtain ⟨ih1, ih2⟩ := seenF_one (F := F) (H := H) (n := n)
    have hs := seenF_some (F := F) (H := H) (n := n)
    unfold seenF
    split
    · rename_i hn
      constructor
      · intro h i hi hH
        simp only [Bool.and_eq_true, Bool.or_eq_true, Bool.not_eq_true', decide_eq_true_eq] at h
        by_cases e : i = n
        · subst e; rfl
        · have hin : i < n := by omega
          rcases h.2 with h2 | h2
          · have := hs.2 ⟨i, hin, hH⟩
            rw [h2] at this
            cases this
          · rw [ih1 h.1 i hin hH]
            exact h2.symm
      · intro h
        have h1 := ih2 fun i j hi hj a b => h i j (by omega) (by omega) a b
        simp only [Bool.and_eq_true, Bool.or_eq_true, Bool.not_eq_true', decide_eq_true_eq]
        refine ⟨h1, ?_⟩
        cases hsm : (seenF F H n).2.1 with
        | false => exact .inl rfl
        | true =>
          right
          obtain ⟨i, hi, hH⟩ := hs.1 hsm
          rw [← ih1 h1 i hi hH]
          exact h n i (by omega) (by omega) hn hH
    · rename_i hn
      constructor
      · intro h i hi hH
        by_cases e : i = n
        · subst e; exact absurd hH hn
        · exact ih1 h i (by omega) hH
      · intro h
        exact ih2 fun i j hi hj a b => h i j (by omega) (by omega) a b
end Go.Proofs.Ytdpdkjpkehgdnaa
