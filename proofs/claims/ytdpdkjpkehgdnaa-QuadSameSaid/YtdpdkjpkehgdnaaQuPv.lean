/-
  Plain laws of quads: a quad is known by its bytes; what is no quad's; a grid set leaf by leaf. No program in sight.
-/
import Derived.Test.YtdpdkjpkehgdnaaQuZ
namespace Go.Proofs.Ytdpdkjpkehgdnaa
open Go.RowKit

def okS : Sq → Prop
  | .leaf v => 0 ≤ v ∧ v ≤ 255
  | .node a b c d => okS a ∧ okS b ∧ okS c ∧ okS d
theorem okS_kid {a b c d : Sq} (h : okS (.node a b c d)) {q : Nat} (hq : q < 4) : okS (kidOf a b c d q) := by
  obtain ⟨h0, h1, h2, h3⟩ := h
  match q, hq with
  | 0, _ => exact h0
  | 1, _ => exact h1
  | 2, _ => exact h2
  | 3, _ => exact h3
theorem SqAt.ok {W : World} : ∀ {t : Sq} {b o : Nat} {F : Nat → Prop}, SqAt W t b o F → okS t
  | .leaf _, _, _, _, h => h.2.2.2.2
  | .node .., _, _, _, ⟨_, _, _, _, _, _, _, _, _, _, _, k0, k1, k2, k3⟩ => ⟨k0.ok, k1.ok, k2.ok, k3.ok⟩

theorem byteOf_inj {u v : Int} (hu : 0 ≤ u ∧ u ≤ 255) (hv : 0 ≤ v ∧ v ≤ 255) (h : byteOf u = byteOf v) : u = v := by
  rw [← byteOf_int hu, ← byteOf_int hv, h]

/-- no quad's bytes begin another's -/
theorem bytes_inj : ∀ (t t' : Sq) (r r' : List UInt8), okS t → okS t' → bytesT t ++ r = bytesT t' ++ r' → t = t' ∧ r = r'
  | .leaf u, .leaf v, r, r', hu, hv, h => by
    simp only [bytesT, List.cons_append, List.nil_append, List.cons.injEq, true_and] at h
    exact ⟨by rw [byteOf_inj hu hv h.1], h.2⟩
  | .leaf u, .node .., r, r', _, _, h => by
    simp [bytesT] at h
  | .node .., .leaf u, r, r', _, _, h => by
    simp [bytesT] at h
  | .node a b c d, .node a' b' c' d', r, r', h1, h2, h => by
    simp only [bytesT, List.cons_append, List.append_assoc, List.cons.injEq, true_and] at h
    obtain ⟨e0, h⟩ := bytes_inj a a' _ _ h1.1 h2.1 h
    obtain ⟨e1, h⟩ := bytes_inj b b' _ _ h1.2.1 h2.2.1 h
    obtain ⟨e2, h⟩ := bytes_inj c c' _ _ h1.2.2.1 h2.2.2.1 h
    obtain ⟨e3, h⟩ := bytes_inj d d' _ _ h1.2.2.2 h2.2.2.2 h
    exact ⟨by rw [e0, e1, e2, e3], h⟩

theorem kids_eq {U V : Nat → Sq} : ∀ {i : Nat} {r r' : List UInt8}, (∀ j, j < i → okS (U j)) → (∀ j, j < i → okS (V j)) → bytesTo (fun j => bytesT (U j)) i ++ r = bytesTo (fun j => bytesT (V j)) i ++ r' → (∀ j, j < i → U j = V j) ∧ r = r'
  | 0, r, r', _, _, h => ⟨fun j hj => absurd hj (Nat.not_lt_zero _), by simpa [bytesTo] using h⟩
  | i + 1, r, r', h1, h2, h => by
    simp only [bytesTo, List.append_assoc] at h
    obtain ⟨e, h⟩ := kids_eq (fun j hj => h1 j (by omega)) (fun j hj => h2 j (by omega)) h
    obtain ⟨e1, e2⟩ := bytes_inj _ _ _ _ (h1 i (by omega)) (h2 i (by omega)) h
    refine ⟨fun j hj => ?_, e2⟩
    rcases Nat.lt_or_ge j i with hji | hji
    · exact e j hji
    · obtain rfl : j = i := by omega
      exact e1
theorem bytesTo_split {f : Nat → List UInt8} {i : Nat} (h : i < 4) : ∃ z, bytesTo f 4 = bytesTo f i ++ (f i ++ z) := by
  match i, h with
  | 0, _ => exact ⟨f 1 ++ (f 2 ++ f 3), by simp [bytesTo]⟩
  | 1, _ => exact ⟨f 2 ++ f 3, by simp [bytesTo]⟩
  | 2, _ => exact ⟨f 3, by simp [bytesTo]⟩
  | 3, _ => exact ⟨[], by simp [bytesTo]⟩

/-- a quad's bytes at the front, and what is behind -/
structure Front (k : Nat) (l : List UInt8) (t : Sq) (r : List UInt8) : Prop where
  eq : l = bytesT t ++ r
  fits : t.fits k
  can : canon t
  ok : okS t

theorem no_front {k : Nat} {l : List UInt8} (h1 : ¬ (2 ≤ l.length ∧ l.head? = some 0)) (h2 : l = [] ∨ l.head? ≠ some 1 ∨ k = 0) : ∀ t r, ¬ Front k l t r := fun t r h => by
  have he := h.eq
  cases t with
  | leaf v =>
    refine h1 ⟨?_, ?_⟩
    · rw [he]; simp [bytesT]
    · rw [he]; simp [bytesT]
  | node a b c d =>
    rcases h2 with h2 | h2 | h2
    · rw [h2] at he; simp [bytesT] at he
    · apply h2; rw [he]; simp [bytesT]
    · subst h2
      obtain ⟨k', e, _⟩ := h.fits
      omega
theorem front_leaf {k : Nat} (v : UInt8) (r : List UInt8) : Front k (0 :: v :: r) (.leaf (v.toNat : Int)) r := by
  refine ⟨?_, trivial, trivial, ?_⟩
  · simp [bytesT, byteOf]
  · have := v.toNat_lt
    exact ⟨by omega, by omega⟩
theorem front_node {k : Nat} {U : Nat → Sq} {l r : List UInt8} (hU : ∀ j, j < 4 → (U j).fits k ∧ canon (U j) ∧ okS (U j)) (h : l = bytesTo (fun j => bytesT (U j)) 4 ++ r) (ho : oneB U 4 = false) : Front (k + 1) l (.node (U 0) (U 1) (U 2) (U 3)) r := by
  have h0 := hU 0 (by decide)
  have h1 := hU 1 (by decide)
  have h2 := hU 2 (by decide)
  have h3 := hU 3 (by decide)
  refine ⟨?_, ⟨k, rfl, h0.1, h1.1, h2.1, h3.1⟩, ⟨h0.2.1, h1.2.1, h2.2.1, h3.2.1, ?_⟩, h0.2.2, h1.2.2, h2.2.2, h3.2.2⟩
  · rw [h]; simp [bytesTo, bytesT]
  · rw [← ho]
    refine oneB_congr fun i hi => ?_
    match i, hi with
    | 0, _ => rfl
    | 1, _ => rfl
    | 2, _ => rfl
    | 3, _ => rfl
theorem front_kids {k : Nat} {U : Nat → Sq} {l r r0 : List UInt8} {i : Nat} {t : Sq} (hi : i ≤ 4) (hU : ∀ j, j < i → okS (U j)) (h : l = bytesTo (fun j => bytesT (U j)) i ++ r) (hf : Front (k + 1) l t r0) :
    ∃ a b c d, t = .node a b c d ∧ (∀ j, j < i → U j = kidOf a b c d j) ∧ (i < 4 → ∃ z, r = bytesT (kidOf a b c d i) ++ z) := by
  cases t with
  | leaf v =>
    have he := hf.eq
    rw [h] at he
    have : (bytesTo (fun j => bytesT (U j)) i ++ r).head? = some 1 := by
      clear h he hf hU
      have : ∀ i, (bytesTo (fun j => bytesT (U j)) i).head? = some 1 := fun i => by
        induction i with
        | zero => rfl
        | succ i ih => simp [bytesTo, ih]
      simp [this]
    rw [he] at this
    simp [bytesT] at this
  | node a b c d =>
    refine ⟨a, b, c, d, rfl, ?_⟩
    have he := hf.eq
    rw [h, bytesT_node] at he
    have hV : ∀ j, j < 4 → okS (kidOf a b c d j) := fun j hj => okS_kid hf.ok hj
    rcases Nat.lt_or_ge i 4 with h4 | h4
    · obtain ⟨z, hz⟩ := bytesTo_split (f := fun j => bytesT (kidOf a b c d j)) h4
      rw [hz, List.append_assoc, List.append_assoc] at he
      obtain ⟨e1, e2⟩ := kids_eq hU (fun j hj => hV j (by omega)) he
      exact ⟨e1, fun _ => ⟨_, e2⟩⟩
    · obtain rfl : i = 4 := by omega
      exact ⟨(kids_eq hU hV he).1, fun h => absurd h (by decide)⟩
/-- a quarter that is none: there is no quad -/
theorem no_kid {k : Nat} {U : Nat → Sq} {l r : List UInt8} {i : Nat} (hi : i < 4) (hU : ∀ j, j < i → okS (U j)) (h : l = bytesTo (fun j => bytesT (U j)) i ++ r) (hn : ∀ t z, ¬ Front k r t z) : ∀ t z, ¬ Front (k + 1) l t z := fun t z hf => by
  obtain ⟨a, b, c, d, rfl, _, hz⟩ := front_kids (by omega) hU h hf
  obtain ⟨z, hz⟩ := hz hi
  exact hn _ z ⟨hz, kid_fits hf.fits hi, canon_kid hf.can hi, okS_kid hf.ok hi⟩
/-- all four have one value: there is no quad -/
theorem no_one {k : Nat} {U : Nat → Sq} {l r : List UInt8} (hU : ∀ j, j < 4 → okS (U j)) (h : l = bytesTo (fun j => bytesT (U j)) 4 ++ r) (ho : oneB U 4 = true) : ∀ t z, ¬ Front (k + 1) l t z := fun t z hf => by
  obtain ⟨a, b, c, d, rfl, he, _⟩ := front_kids (by omega) hU h hf
  have := hf.can.2.2.2.2
  rw [← oneB_congr he, ho] at this
  cases this

/-- what two quads of the same tiles tell -/
theorem same_bytes {k : Nat} (hk : k ≤ 8) {t t' : Sq} {f : Nat → Int} (h : SameG k t f) (h' : SameG k t' f) (hc : canon t) (hc' : canon t') (hf : t.fits k) (hf' : t'.fits k) : bytesT t = bytesT t' := by
  rw [← (plays_all hk h hc hf).2, ← (plays_all hk h' hc' hf').2]

/-- a grid, set leaf by leaf -/
def foldL (s : Nat) (l : List Lf) (f : Nat → Int) : Nat → Int := l.foldl (fun f p => setF s p.1 p.2.1 p.2.2.1 p.2.2.1 p.2.2.2 f) f
theorem foldL_append (s : Nat) (l l' : List Lf) (f : Nat → Int) : foldL s (l ++ l') f = foldL s l' (foldL s l f) := List.foldl_append ..
theorem foldL_one (s : Nat) (l : List Lf) (p : Lf) (f : Nat → Int) : foldL s (l ++ [p]) f = setF s p.1 p.2.1 p.2.2.1 p.2.2.1 p.2.2.2 (foldL s l f) := by
  rw [foldL_append]
  rfl
instance (x y s i j : Int) : Decidable (inSq x y s i j) := by unfold inSq; infer_instance
theorem fold_lvs (s : Nat) : ∀ (k : Nat) (x y rx ry rw rh : Int) (t : Sq) (f : Nat → Int) (i : Nat), t.fits k → rightB x y (sd k) (sd k) = true → inB x y (sd k) (sd k) rx ry rw rh = true →
    foldL s (lvs k x y rx ry rw rh t) f i = if inSq x y (sd k) ((i % s : Nat) : Int) ((i / s : Nat) : Int) then valT k x y t ((i % s : Nat) : Int) ((i / s : Nat) : Int) else f i
  | k, x, y, rx, ry, rw, rh, t, f, i, hf, hr, hi => by
    have hm := full_meet hr hi
    cases t with
    | leaf v =>
      have hl : lvs k x y rx ry rw rh (.leaf v) = [(x, y, sd k, v)] := by cases k <;> simp [lvs, hm]
      rw [hl, valT_leaf]
      rfl
    | node a b c d =>
      have hff := hf
      obtain ⟨k', rfl, _⟩ := hf
      have ih : ∀ q f, q < 4 → foldL s (lvs k' (quX x (sd k') q) (quY y (sd k') q) rx ry rw rh (kidOf a b c d q)) f i = if inSq (quX x (sd k') q) (quY y (sd k') q) (sd k') ((i % s : Nat) : Int) ((i / s : Nat) : Int) then valT k' (quX x (sd k') q) (quY y (sd k') q) (kidOf a b c d q) ((i % s : Nat) : Int) ((i / s : Nat) : Int) else f i := fun q f hq =>
        fold_lvs s k' _ _ rx ry rw rh _ f i (kid_fits hff hq) (right_quart hr) (in_quart hr hi q)
      rw [lvs_node _ _ _ _ _ _ _ _ _ _ _ hm, valT_quart]
      generalize ((i % s : Nat) : Int) = u at ih ⊢
      generalize ((i / s : Nat) : Int) = v at ih ⊢
      have hq4 := qOf_lt x y (sd k') u v
      have key : ∀ n, n ≤ 4 → foldL s (lvsTo (fun q => lvs k' (quX x (sd k') q) (quY y (sd k') q) rx ry rw rh (kidOf a b c d q)) n) f i =
          if inSq x y (sd (k' + 1)) u v ∧ qOf x y (sd k') u v < n then valT k' (quX x (sd k') (qOf x y (sd k') u v)) (quY y (sd k') (qOf x y (sd k') u v)) (quart (.node a b c d) (qOf x y (sd k') u v)) u v else f i := by
        intro n
        induction n with
        | zero => intro _; simp [lvsTo, foldL]
        | succ n ihn =>
          intro hn
          rw [lvsTo, foldL_append, ih n _ (by omega)]
          by_cases hin : inSq (quX x (sd k') n) (quY y (sd k') n) (sd k') u v
          · obtain ⟨e1, e2⟩ := inSq_of_quart (by omega) hin
            rw [if_pos hin, sd_succ, if_pos ⟨e1, by omega⟩, e2]
            rfl
          · rw [if_neg hin, ihn (by omega)]
            by_cases hin2 : inSq x y (sd (k' + 1)) u v
            · have e3 : qOf x y (sd k') u v ≠ n := fun e => by
                rw [sd_succ] at hin2
                have := inSq_quart hin2
                rw [e] at this
                exact hin this
              by_cases hlt : qOf x y (sd k') u v < n
              · rw [if_pos ⟨hin2, hlt⟩, if_pos ⟨hin2, by omega⟩]
              · rw [if_neg (fun h => hlt h.2), if_neg (fun h => by have := h.2; omega)]
            · rw [if_neg (fun h => hin2 h.1), if_neg (fun h => hin2 h.1)]
      rw [key 4 (Nat.le_refl _)]
      by_cases hin2 : inSq x y (sd (k' + 1)) u v
      · rw [if_pos ⟨hin2, hq4⟩, if_pos hin2]
      · rw [if_neg (fun h => hin2 h.1), if_neg hin2]
  termination_by k => k
  decreasing_by omega

theorem same_fold {k : Nat} (hk : k ≤ 8) {t : Sq} (hf : t.fits k) (f : Nat → Int) : SameG k t (foldL (2 ^ k) (lvs k 0 0 0 0 (sd k) (sd k) t) f) := fun i hi => by
  have hr := right_own hk
  rw [fold_lvs (2 ^ k) k 0 0 0 0 (sd k) (sd k) t f i hf hr (by simp [inB, hr]), if_pos (tile_in hi)]

theorem lvs_box : ∀ (k : Nat) (x y rx ry rw rh : Int) (t : Sq) (p : Lf), t.fits k → 0 ≤ x → 0 ≤ y → x + sd k ≤ 256 → y + sd k ≤ 256 → p ∈ lvs k x y rx ry rw rh t → 0 ≤ p.1 ∧ 0 ≤ p.2.1 ∧ 0 ≤ p.2.2.1 ∧ p.1 + p.2.2.1 ≤ 256 ∧ p.2.1 + p.2.2.1 ≤ 256
  | k, x, y, rx, ry, rw, rh, t, p, hf, h1, h2, h3, h4, hp => by
    cases hm : meetB x y (sd k) (sd k) rx ry rw rh with
    | false => rw [lvs_no _ _ _ _ _ _ _ _ hm] at hp; cases hp
    | true =>
      cases t with
      | leaf v =>
        have hl : lvs k x y rx ry rw rh (.leaf v) = [(x, y, sd k, v)] := by cases k <;> simp [lvs, hm]
        rw [hl] at hp
        obtain rfl : p = (x, y, sd k, v) := by simpa using hp
        have := sd_pos k
        exact ⟨h1, h2, by show 0 ≤ sd k; omega, h3, h4⟩
      | node a b c d =>
        have hff := hf
        obtain ⟨k', rfl, _⟩ := hf
        rw [lvs_node _ _ _ _ _ _ _ _ _ _ _ hm] at hp
        obtain ⟨q, hq, hp⟩ := mem_lvsTo.1 hp
        have hs := sd_succ k'
        have hp0 := sd_pos k'
        refine lvs_box k' _ _ rx ry rw rh _ p (kid_fits hff hq) ?_ ?_ ?_ ?_ hp
        · unfold quX; split <;> omega
        · unfold quY; split <;> omega
        · unfold quX; split <;> omega
        · unfold quY; split <;> omega
  termination_by k => k
  decreasing_by omega

theorem val_ok : ∀ (k : Nat) (x y : Int) (t : Sq) (i j : Int), okS t → 0 ≤ valT k x y t i j ∧ valT k x y t i j ≤ 255
  | k, x, y, .leaf v, i, j, h => by rw [valT_leaf]; exact h
  | 0, x, y, .node .., i, j, h => by simp [valT]
  | k + 1, x, y, .node a b c d, i, j, h => by
    rw [valT_quart]
    exact val_ok k _ _ _ i j (okS_kid h (qOf_lt ..))
end Go.Proofs.Ytdpdkjpkehgdnaa
