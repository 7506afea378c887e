/-
  Plain laws for QuadSame: two played quads have one string of bytes just if all their tiles have the same values. No program in sight.
-/
import Derived.Test.YtdpdkjpkehgdnaaQuPv
import Derived.Test.YtdpdkjpkehgdnaaQuBy
import Derived.Test.YtdpdkjpkehgdnaaQuS
namespace Go.Proofs.Ytdpdkjpkehgdnaa
open Go.RowKit

def eqTo (f g : Nat → Int) : Nat → Bool
  | 0 => true
  | i + 1 => eqTo f g i && (f i == g i)
theorem eqTo_iff {f g : Nat → Int} : ∀ {n : Nat}, eqTo f g n = true ↔ ∀ i, i < n → f i = g i
  | 0 => by simp [eqTo]
  | n + 1 => by
    rw [eqTo, Bool.and_eq_true, eqTo_iff]
    constructor
    · rintro ⟨h1, h2⟩ i hi
      by_cases e : i = n
      · subst e
        simpa using h2
      · exact h1 i (by omega)
    · intro h
      exact ⟨fun i hi => h i (by omega), by simpa using h n (by omega)⟩

theorem bytes_len {k : Nat} (hk : k ≤ 5) {t : Sq} {f : Nat → Int} (h : SameG k t f) (hc : canon t) (hf : t.fits k) : (bytesT t).length ≤ 1000000000 := by
  rw [← (plays_all (by omega) h hc hf).2]
  have h1 := byG_le (2 ^ k) f k 0 0
  have h2 : 4 ^ k ≤ 4 ^ 5 := Nat.pow_le_pow_right (by decide) hk
  have h3 : 4 ^ 5 = 1024 := by decide
  omega

theorem same_iff {k : Nat} (hk : k ≤ 8) {t t' : Sq} {f f' : Nat → Int} (h : SameG k t f) (h' : SameG k t' f') (hc : canon t) (hc' : canon t') (hf : t.fits k) (hf' : t'.fits k) (ho : okS t) (ho' : okS t') :
    bytesT t = bytesT t' ↔ ∀ i, i < 2 ^ k * 2 ^ k → f i = f' i := by
  constructor
  · intro e i hi
    have e2 := (bytes_inj t t' [] [] ho ho' (by rw [e])).1
    subst e2
    exact (h i hi).trans (h' i hi).symm
  · intro e
    have h2 : SameG k t' f := fun i hi => (e i hi).trans (h' i hi)
    exact same_bytes hk h h2 hc hc' hf hf'

theorem playT_snoc {k : Nat} {l : List Op5} {x y m n v : Int} (h : okSet (sd k) x y m n v = true) : playT k (l ++ [⟨x, y, m, n, v⟩]) = setT k 0 0 x y m n v (playT k l) := by
  have : playT k (l ++ [⟨x, y, m, n, v⟩]) = stepT k (playT k l) ⟨x, y, m, n, v⟩ := by
    unfold playT
    rw [List.foldl_append]
    rfl
  rw [this]
  exact if_pos h
theorem playF_snoc {k : Nat} {l : List Op5} {x y m n v : Int} (h : okSet (sd k) x y m n v = true) : playF k (l ++ [⟨x, y, m, n, v⟩]) = setF (2 ^ k) x y m n v (playF k l) := by
  have : playF k (l ++ [⟨x, y, m, n, v⟩]) = stepF k (playF k l) ⟨x, y, m, n, v⟩ := by
    unfold playF
    rw [List.foldl_append]
    rfl
  rw [this]
  exact if_pos h
end Go.Proofs.Ytdpdkjpkehgdnaa
