/-
  Plain laws of quads: the value of a tile; what Set makes of it; which values the leaves have; how many tiles have one. No program in sight.
-/
import Derived.Test.YtdpdkjpkehgdnaaQuP
import Derived.Test.YtdpdkjpkehgdnaaQuM
namespace Go.Proofs.Ytdpdkjpkehgdnaa
open Go.RowKit

def qOf (x y h i j : Int) : Nat := (if i < x + h then 0 else 1) + (if j < y + h then 0 else 2)
theorem qOf_lt (x y h i j : Int) : qOf x y h i j < 4 := by
  unfold qOf
  split <;> split <;> omega
def inSq (x y s i j : Int) : Prop := x ≤ i ∧ i < x + s ∧ y ≤ j ∧ j < y + s
def inR (rx ry rw rh i j : Int) : Prop := rx ≤ i ∧ i < rx + rw ∧ ry ≤ j ∧ j < ry + rh
instance (rx ry rw rh i j : Int) : Decidable (inR rx ry rw rh i j) := by unfold inR; infer_instance

theorem inSq_quart {x y h i j : Int} (hh : inSq x y (2 * h) i j) : inSq (quX x h (qOf x y h i j)) (quY y h (qOf x y h i j)) h i j := by
  obtain ⟨h1, h2, h3, h4⟩ := hh
  unfold qOf inSq quX quY
  split <;> split <;> simp <;> omega
theorem inSq_of_quart {x y h i j : Int} {q : Nat} (hq : q < 4) (hh : inSq (quX x h q) (quY y h q) h i j) : inSq x y (2 * h) i j ∧ qOf x y h i j = q := by
  unfold inSq quX quY at hh
  unfold qOf inSq
  match q, hq with
  | 0, _ => simp at hh; constructor; omega; rw [if_pos (by omega), if_pos (by omega)]
  | 1, _ => simp at hh; constructor; omega; rw [if_neg (by omega), if_pos (by omega)]
  | 2, _ => simp at hh; constructor; omega; rw [if_pos (by omega), if_neg (by omega)]
  | 3, _ => simp at hh; constructor; omega; rw [if_neg (by omega), if_neg (by omega)]

/-- a tile's value -/
def valT : Nat → Int → Int → Sq → Int → Int → Int
  | _, _, _, .leaf v, _, _ => v
  | 0, _, _, .node .., _, _ => 0
  | k + 1, x, y, .node a b c d, i, j =>
    if qOf x y (sd k) i j = 0 then valT k (quX x (sd k) 0) (quY y (sd k) 0) a i j
    else if qOf x y (sd k) i j = 1 then valT k (quX x (sd k) 1) (quY y (sd k) 1) b i j
    else if qOf x y (sd k) i j = 2 then valT k (quX x (sd k) 2) (quY y (sd k) 2) c i j
    else valT k (quX x (sd k) 3) (quY y (sd k) 3) d i j
theorem valT_leaf (k : Nat) (x y v i j : Int) : valT k x y (.leaf v) i j = v := by
  cases k <;> simp [valT]
theorem valT_quart (k : Nat) (x y : Int) (t : Sq) (i j : Int) : valT (k + 1) x y t i j = valT k (quX x (sd k) (qOf x y (sd k) i j)) (quY y (sd k) (qOf x y (sd k) i j)) (quart t (qOf x y (sd k) i j)) i j := by
  cases t with
  | leaf v => simp only [quart, valT_leaf]
  | node a b c d =>
    have hq := qOf_lt x y (sd k) i j
    rw [valT]
    generalize qOf x y (sd k) i j = q at hq ⊢
    match q, hq with
    | 0, _ => rfl
    | 1, _ => rfl
    | 2, _ => rfl
    | 3, _ => rfl

theorem oneB_step {U : Nat → Sq} {i : Nat} (h : oneB U (i + 1) = true) : oneB U i = true ∧ ∃ u, (U i).tag = some u ∧ (U 0).tag = some u := by
  simp only [oneB, Bool.and_eq_true, Option.isSome_iff_exists, decide_eq_true_eq] at h
  obtain ⟨⟨h1, u, h2⟩, h3⟩ := h
  exact ⟨h1, u, h2, h3 ▸ h2⟩
theorem oneB_all {U : Nat → Sq} (h : oneB U 4 = true) : ∃ u, ∀ i, i < 4 → U i = .leaf u := by
  obtain ⟨h3, u3, a3, b3⟩ := oneB_step h
  obtain ⟨h2, u2, a2, b2⟩ := oneB_step h3
  obtain ⟨h1, u1, a1, b1⟩ := oneB_step h2
  rw [b3] at b2 b1
  injection b2 with b2
  injection b1 with b1
  subst b2 b1
  refine ⟨u3, fun i hi => Sq.tag_some ?_⟩
  match i, hi with
  | 0, _ => exact b3
  | 1, _ => exact a1
  | 2, _ => exact a2
  | 3, _ => exact a3
theorem quart_node (U : Nat → Sq) {q : Nat} (hq : q < 4) : quart (.node (U 0) (U 1) (U 2) (U 3)) q = U q := by
  match q, hq with
  | 0, _ => rfl
  | 1, _ => rfl
  | 2, _ => rfl
  | 3, _ => rfl
theorem valT_join (k : Nat) (x y : Int) (U : Nat → Sq) (i j : Int) : valT (k + 1) x y (joinU U) i j = valT k (quX x (sd k) (qOf x y (sd k) i j)) (quY y (sd k) (qOf x y (sd k) i j)) (U (qOf x y (sd k) i j)) i j := by
  unfold joinU
  split
  · rename_i h
    obtain ⟨u, hu⟩ := oneB_all h
    rw [hu 0 (by decide), hu _ (qOf_lt _ _ _ _ _), valT_leaf, valT_leaf]
  · rw [valT_quart, quart_node _ (qOf_lt _ _ _ _ _)]

theorem right_quart {k : Nat} {x y : Int} (h : rightB x y (sd (k + 1)) (sd (k + 1)) = true) {q : Nat} : rightB (quX x (sd k) q) (quY y (sd k) q) (sd k) (sd k) = true := by
  have h1 := sd_pos k
  have h2 := sd_succ k
  obtain ⟨⟨a1, a2, a3, a4⟩, a5, a6, a7, a8⟩ := of_rightB h
  have hx : 0 ≤ quX x (sd k) q ∧ quX x (sd k) q + sd k ≤ 256 := by unfold quX; split <;> omega
  have hy : 0 ≤ quY y (sd k) q ∧ quY y (sd k) q + sd k ≤ 256 := by unfold quY; split <;> omega
  simp [rightB, sideB]
  omega

theorem meet_of {x y s rx ry rw rh i j : Int} (h1 : rightB x y s s = true) (h2 : rightB rx ry rw rh = true) (hs : inSq x y s i j) (hr : inR rx ry rw rh i j) : meetB x y s s rx ry rw rh = true := by
  obtain ⟨a, b, c, d⟩ := hs
  obtain ⟨a', b', c', d'⟩ := hr
  simp [meetB, h1, h2]
  omega

/-- what Set makes of a tile -/
theorem val_setT : ∀ (k : Nat) (x y rx ry rw rh v : Int) (t : Sq) (i j : Int), rightB x y (sd k) (sd k) = true → rightB rx ry rw rh = true → inSq x y (sd k) i j →
    valT k x y (setT k x y rx ry rw rh v t) i j = if inR rx ry rw rh i j then v else valT k x y t i j
  | k, x, y, rx, ry, rw, rh, v, t, i, j, h1, h2, hs => by
    cases hm : meetB x y (sd k) (sd k) rx ry rw rh with
    | false =>
      rw [setT_no _ _ _ _ _ _ _ _ _ hm, if_neg]
      intro hr
      rw [meet_of h1 h2 hs hr] at hm
      cases hm
    | true =>
      by_cases ht : t.tag = some v
      · rw [Sq.tag_some ht, setT_same, valT_leaf]
        split <;> rfl
      · cases hi : inB x y (sd k) (sd k) rx ry rw rh with
        | true =>
          rw [setT_in _ _ _ _ _ _ _ _ _ hm hi, valT_leaf, if_pos]
          simp only [inB, Bool.and_eq_true, decide_eq_true_eq] at hi
          obtain ⟨a, b, c, d⟩ := hs
          unfold inR
          omega
        | false =>
          cases k with
          | zero =>
            exfalso
            obtain ⟨_, _, m1, m2⟩ := of_meetB hm
            have e : sd 0 = 1 := rfl
            rw [e] at m1 m2 hi h1
            simp only [inB, h1, h2, Bool.true_and, Bool.and_eq_false_iff, decide_eq_false_iff_not] at hi
            omega
          | succ k =>
            have hq := qOf_lt x y (sd k) i j
            rw [setT_go _ _ _ _ _ _ _ _ _ hm ht hi, valT_join, valT_quart k x y t i j]
            exact val_setT k _ _ rx ry rw rh v _ i j (right_quart h1) h2 (inSq_quart (by rw [← sd_succ]; exact hs))
  termination_by k => k
  decreasing_by omega

theorem mem_lvsTo {f : Nat → List Lf} {p : Lf} : ∀ {n : Nat}, p ∈ lvsTo f n ↔ ∃ q, q < n ∧ p ∈ f q
  | 0 => by simp [lvsTo]
  | n + 1 => by
    rw [lvsTo, List.mem_append, mem_lvsTo]
    constructor
    · rintro (⟨q, hq, hp⟩ | hp)
      · exact ⟨q, by omega, hp⟩
      · exact ⟨n, by omega, hp⟩
    · rintro ⟨q, hq, hp⟩
      by_cases e : q = n
      · exact .inr (e ▸ hp)
      · exact .inl ⟨q, by omega, hp⟩

theorem kid_fits {a b c d : Sq} {k : Nat} (h : (Sq.node a b c d).fits (k + 1)) {q : Nat} (hq : q < 4) : (kidOf a b c d q).fits k := quart_fits (t := .node a b c d) h q hq

/-- each leaf's value is a tile's -/
theorem lvs_mem : ∀ (k : Nat) (x y rx ry rw rh : Int) (t : Sq) (p : Lf), t.fits k → p ∈ lvs k x y rx ry rw rh t → ∃ i j, inSq x y (sd k) i j ∧ rightB rx ry rw rh = true ∧ inR rx ry rw rh i j ∧ valT k x y t i j = p.2.2.2
  | k, x, y, rx, ry, rw, rh, t, p, hf, hp => by
    cases hm : meetB x y (sd k) (sd k) rx ry rw rh with
    | false => rw [lvs_no _ _ _ _ _ _ _ _ hm] at hp; cases hp
    | true =>
      obtain ⟨r1, r2, m1, m2⟩ := of_meetB hm
      cases t with
      | leaf v =>
        have hl : lvs k x y rx ry rw rh (.leaf v) = [(x, y, sd k, v)] := by cases k <;> simp [lvs, hm]
        rw [hl] at hp
        cases List.mem_singleton.1 hp
        refine ⟨max x rx, max y ry, ?_, r2, ?_, valT_leaf _ _ _ _ _ _⟩
        · unfold inSq; omega
        · unfold inR; omega
      | node a b c d =>
        obtain ⟨k', rfl, f0, f1, f2, f3⟩ := hf
        rw [lvs_node _ _ _ _ _ _ _ _ _ _ _ hm, mem_lvsTo] at hp
        obtain ⟨q, hq, hp⟩ := hp
        obtain ⟨i, j, s1, s2, s3, s4⟩ := lvs_mem k' _ _ rx ry rw rh _ p (kid_fits ⟨k', rfl, f0, f1, f2, f3⟩ hq) hp
        obtain ⟨e1, e2⟩ := inSq_of_quart hq s1
        refine ⟨i, j, by rw [sd_succ]; exact e1, s2, s3, ?_⟩
        rw [valT_quart, e2]
        exact s4
  termination_by k => k
  decreasing_by omega

/-- each tile's value is a leaf's -/
theorem lvs_has : ∀ (k : Nat) (x y rx ry rw rh : Int) (t : Sq) (i j : Int), t.fits k → rightB x y (sd k) (sd k) = true → rightB rx ry rw rh = true → inSq x y (sd k) i j → inR rx ry rw rh i j → ∃ p, p ∈ lvs k x y rx ry rw rh t ∧ p.2.2.2 = valT k x y t i j
  | k, x, y, rx, ry, rw, rh, t, i, j, hf, h1, h2, hs, hr => by
    have hm := meet_of h1 h2 hs hr
    cases t with
    | leaf v =>
      have hl : lvs k x y rx ry rw rh (.leaf v) = [(x, y, sd k, v)] := by cases k <;> simp [lvs, hm]
      exact ⟨(x, y, sd k, v), by rw [hl]; simp, (valT_leaf _ _ _ _ _ _).symm⟩
    | node a b c d =>
      obtain ⟨k', rfl, f0, f1, f2, f3⟩ := hf
      have hq := qOf_lt x y (sd k') i j
      obtain ⟨p, hp, hv⟩ := lvs_has k' _ _ rx ry rw rh (kidOf a b c d (qOf x y (sd k') i j)) i j (kid_fits ⟨k', rfl, f0, f1, f2, f3⟩ hq) (right_quart h1) h2 (inSq_quart (by rw [← sd_succ]; exact hs)) hr
      refine ⟨p, ?_, by rw [hv, valT_quart]; rfl⟩
      rw [lvs_node _ _ _ _ _ _ _ _ _ _ _ hm, mem_lvsTo]
      exact ⟨_, hq, hp⟩
  termination_by k => k
  decreasing_by omega
theorem lvs_right {k : Nat} {x y rx ry rw rh : Int} {t : Sq} (h : rightB rx ry rw rh = false) : lvs k x y rx ry rw rh t = [] :=
  lvs_no _ _ _ _ _ _ _ _ (by simp [meetB, h])
end Go.Proofs.Ytdpdkjpkehgdnaa
