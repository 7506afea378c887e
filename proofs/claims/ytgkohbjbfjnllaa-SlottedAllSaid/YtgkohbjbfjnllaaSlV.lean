/-
  Layer 9's statements: what a list of calls does, as lists of records; small. For every list of calls.
-/
import Derived.Test.YtgkohbjbfjnllaaSlR
namespace Go.Proofs.Ytgkohbjbfjnllaa
open Go.RowKit

/-- a page that fits its size -/
structure Fits (size : Nat) (recs : List (List UInt8)) : Prop where
  len : recs.length ≤ 63
  fit : tot recs ≤ size
  last : cutV recs = recs

theorem Fits.nil {size : Nat} (h : 1 ≤ size) : Fits size [] := ⟨by simp, by simpa [tot, sumL] using h, rfl⟩

theorem sumL_set (recs : List (List UInt8)) (k : Nat) (l : List UInt8) (hk : k < recs.length) : sumL (recs.set k l) + recs[k].length = sumL recs + l.length := by
  induction recs generalizing k with
  | nil => simp at hk
  | cons a r ih =>
    cases k with
    | zero => simp [sumL]; omega
    | succ k =>
      have := ih k (by simpa using hk)
      simp [sumL]
      omega
theorem emptyAt_empty (recs : List (List UInt8)) (h : emptyAt recs < recs.length) : recs[emptyAt recs] = [] := by
  exact List.isEmpty_iff.1 (List.findIdx_getElem (w := h))
theorem cutV_last (recs : List (List UInt8)) (l : List UInt8) : cutV (recs ++ [l]) = recs ++ [l] ↔ l ≠ [] := by
  constructor
  · intro h hl
    subst hl
    rw [cutV_empty] at h
    have h1 := cutV_le recs
    rw [h] at h1
    simp at h1
    omega
  · exact cutV_full recs l
theorem cutV_iff (recs : List (List UInt8)) : cutV recs = recs ↔ ∀ h : 0 < recs.length, recs[recs.length - 1] ≠ [] := by
  rcases List.eq_nil_or_concat recs with rfl | ⟨a, l, rfl⟩
  · simp [cutV_nil]
  · rw [List.concat_eq_append, cutV_last]
    simp
theorem cutV_set (recs : List (List UInt8)) (k : Nat) (l : List UInt8) (h : cutV recs = recs) (hl : l ≠ []) : cutV (recs.set k l) = recs.set k l := by
  rw [cutV_iff] at h ⊢
  intro h0
  simp only [List.length_set] at h0 ⊢
  rw [List.getElem_set]
  by_cases hk : k = recs.length - 1
  · rw [if_pos hk]; exact hl
  · rw [if_neg hk]; exact h h0
theorem drop_twice (l : List (List UInt8)) : (l.dropWhile List.isEmpty).dropWhile List.isEmpty = l.dropWhile List.isEmpty := by
  induction l with
  | nil => rfl
  | cons a r ih =>
    cases h : a.isEmpty
    · simp [h]
    · simpa [List.dropWhile_cons, h] using ih
theorem cutV_idem (recs : List (List UInt8)) : cutV (cutV recs) = cutV recs := by
  unfold cutV
  rw [List.reverse_reverse, drop_twice]
theorem sumL_cut (recs : List (List UInt8)) : sumL (cutV recs) ≤ sumL recs := by
  obtain ⟨t, h, _⟩ := cutV_split recs
  have h2 := sumL_append (cutV recs) t
  rw [← h] at h2
  omega

theorem place_full {size : Nat} {recs : List (List UInt8)} (h : Fits size recs) (n : Nat) (hn : 0 < n) : (fullB (size : Int) recs n = true ∧ placeV (size : Int) recs (n : Int) = -1) ∨ (fullB (size : Int) recs n = false ∧ placeV (size : Int) recs (n : Int) = (emptyAt recs : Int) ∧ emptyAt recs ≤ 62) := by
  have h1 := h.len
  have h2 := h.fit
  have h3 := emptyAt_le recs
  by_cases he : emptyAt recs = recs.length
  · have e1 : (if emptyAt recs = recs.length then (2 : Int) else 0) = 2 := if_pos he
    by_cases h63 : recs.length = 63
    · left
      refine ⟨decide_eq_true ?_, ?_⟩
      · rw [roomV, if_pos he, if_pos h63]; omega
      · rw [placeV, if_pos (by omega)]
    · have hr : roomV (size : Int) recs = max ((size : Int) - (tot recs : Int) - 2) 0 := by rw [roomV, if_pos he, if_neg h63]
      by_cases hf : (size : Int) < (tot recs : Int) + 2 + n
      · left
        exact ⟨decide_eq_true (by rw [hr]; omega), by rw [placeV, e1, if_pos (.inr hf)]⟩
      · right
        exact ⟨decide_eq_false (by rw [hr]; omega), by rw [placeV, e1, if_neg (by omega)], by omega⟩
  · have e1 : (if emptyAt recs = recs.length then (2 : Int) else 0) = 0 := if_neg he
    have hr : roomV (size : Int) recs = max ((size : Int) - (tot recs : Int)) 0 := by rw [roomV, if_neg he]
    by_cases hf : (size : Int) < (tot recs : Int) + 0 + n
    · left
      exact ⟨decide_eq_true (by rw [hr]; omega), by rw [placeV, e1, if_pos (.inr hf)]⟩
    · right
      exact ⟨decide_eq_false (by rw [hr]; omega), by rw [placeV, e1, if_neg (by omega)], by omega⟩

theorem Fits.put {size : Nat} {recs : List (List UInt8)} (h : Fits size recs) (l : List UInt8) (h0 : 0 < l.length) (hf : fullB (size : Int) recs l.length = false) : Fits size (putV recs l) := by
  have h1 := h.len
  have h2 := h.fit
  have h3 := emptyAt_le recs
  have hne : l ≠ [] := fun h => by subst h; simp at h0
  have hf' : ¬ roomV (size : Int) recs < (l.length : Int) := of_decide_eq_false hf
  by_cases he : emptyAt recs = recs.length
  · rw [putV, if_pos he]
    by_cases h63 : recs.length = 63
    · rw [roomV, if_pos he, if_pos h63] at hf'; omega
    · rw [roomV, if_pos he, if_neg h63] at hf'
      refine ⟨by simp; omega, ?_, cutV_full recs l hne⟩
      unfold tot at *
      rw [sumL_append]
      simp only [sumL]
      omega
  · rw [putV, if_neg he]
    rw [roomV, if_neg he] at hf'
    have hs := sumL_set recs (emptyAt recs) l (by omega)
    rw [emptyAt_empty recs (by omega)] at hs
    refine ⟨by simpa using h1, ?_, cutV_set recs _ l h.last hne⟩
    unfold tot at *
    simp at hs
    omega
theorem Fits.del {size : Nat} {recs : List (List UInt8)} (h : Fits size recs) (i : Int) : Fits size (delV recs i) := by
  unfold delV
  by_cases hh : hasV recs i = true
  · rw [if_pos hh]
    obtain ⟨h0, hlt⟩ := hasV_lt hh
    have h1 := cutV_le (recs.set i.toNat [])
    have h2 := sumL_cut (recs.set i.toNat [])
    have h3 := sumL_set recs i.toNat [] hlt
    have h4 := h.len
    have h5 := h.fit
    refine ⟨by simp at h1; omega, ?_, cutV_idem _⟩
    unfold tot at *
    simp at h3
    omega
  · rw [if_neg hh]
    exact h
theorem Fits.set {size : Nat} {recs : List (List UInt8)} (h : Fits size recs) (k : Nat) (l : List UInt8) (h0 : l ≠ []) (hf : tot (recs.set k l) ≤ size) : Fits size (recs.set k l) :=
  ⟨by simpa using h.len, hf, cutV_set recs k l h.last h0⟩

/-- one call, as the document says -/
def stepV (size : Nat) (recs : List (List UInt8)) (kind slot : Int) (data : List UInt8) : List (List UInt8) :=
  if kind = 1 then (if data = [] then recs else if fullB (size : Int) recs data.length then recs else putV recs data)
  else if kind = 2 then (if data = [] then recs else if hasV recs slot then (if tot (recs.set slot.toNat data) ≤ size then recs.set slot.toNat data else recs) else recs)
  else if kind = 3 then delV recs slot else recs
theorem Fits.step {size : Nat} {recs : List (List UInt8)} (h : Fits size recs) (kind slot : Int) (data : List UInt8) : Fits size (stepV size recs kind slot data) := by
  unfold stepV
  by_cases h1 : kind = 1
  · rw [if_pos h1]
    by_cases hd : data = []
    · rw [if_pos hd]; exact h
    · rw [if_neg hd]
      cases hf : fullB (size : Int) recs data.length
      · exact h.put data (List.length_pos_iff.2 hd) hf
      · exact h
  · rw [if_neg h1]
    by_cases h2 : kind = 2
    · rw [if_pos h2]
      by_cases hd : data = []
      · rw [if_pos hd]; exact h
      · rw [if_neg hd]
        cases hh : hasV recs slot
        · exact h
        · by_cases hf : tot (recs.set slot.toNat data) ≤ size
          · simp only [if_true, if_pos hf]; exact h.set _ _ hd hf
          · simp only [if_true, if_neg hf]; exact h
    · rw [if_neg h2]
      by_cases h3 : kind = 3
      · rw [if_pos h3]; exact h.del slot
      · rw [if_neg h3]; exact h
end Go.Proofs.Ytgkohbjbfjnllaa
