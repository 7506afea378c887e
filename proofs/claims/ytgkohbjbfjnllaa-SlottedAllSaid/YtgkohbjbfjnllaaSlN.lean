/-
  Package slotted: Put and Del, all ways in one; how many records there are. For every page.
-/
import Derived.Test.YtgkohbjbfjnllaaSlJ
namespace Go.Proofs.Ytgkohbjbfjnllaa
open Go.RowKit

/-- the records behind Put, where there is room -/
def putV (recs : List (List UInt8)) (l : List UInt8) : List (List UInt8) := if emptyAt recs = recs.length then recs ++ [l] else recs.set (emptyAt recs) l
/-- is there no room for so many bytes? -/
def fullB (size : Int) (recs : List (List UInt8)) (n : Nat) : Bool := decide (roomV size recs < (n : Int))

theorem put_any [fb : Forbid] {B : Nat} (bp : Nat) (size : Int) (sv : Value) (recs : List (List UInt8)) (v : Value) (l : List UInt8) (w : World) (hB : B ≤ w.heap.size) (hp : PageAt w B bp size sv recs) (hb : tot recs ≤ 1048576) (hs : 0 ≤ size ∧ size ≤ 1048576) (hv : StaysAt B bp w v l) (hl : l.length ≤ 16384) (h0 : 0 < l.length) :
    Calls Try.prog 10 #[.pointer (some ⟨bp, 0, none⟩), v] w fun e w' => ∃ (i c : Int) (sv' : Value) (recs' : List (List UInt8)), e = .returned (.tuple #[.int .i64 i, .int .i64 c]) ∧ PageAt w' B bp size sv' recs' ∧ Touch B bp w w' ∧
      ((fullB size recs l.length = true ∧ i = 0 ∧ c = 21 ∧ recs' = recs) ∨ (fullB size recs l.length = false ∧ i = (emptyAt recs : Int) ∧ c = 0 ∧ recs' = putV recs l)) := by
  by_cases hr : roomV size recs < (l.length : Int)
  · exact (put_full bp size sv recs v l w hp hb hs hv hl h0 hr).mono fun e w' ⟨he, hb', hh⟩ => ⟨0, 21, sv, recs, he, hp.same hh, Touch.of_below hb' hB, .inl ⟨decide_eq_true hr, rfl, rfl, rfl⟩⟩
  · by_cases he : emptyAt recs = recs.length
    · exact (put_new bp size sv recs v l w hB hp hb hs hv hl h0 (by omega) he).mono fun e w' ⟨h1, ⟨sv', h2⟩, h3⟩ => ⟨_, 0, sv', _, h1, h2, h3, .inr ⟨decide_eq_false hr, rfl, rfl, by rw [putV, if_pos he]⟩⟩
    · have hle := emptyAt_le recs
      exact (put_old bp size sv recs v l w hB hp hb hs hv hl h0 (by omega) (by omega)).mono fun e w' ⟨h1, h2, h3⟩ => ⟨_, 0, sv, _, h1, h2, h3, .inr ⟨decide_eq_false hr, rfl, rfl, by rw [putV, if_neg he]⟩⟩

/-- the records behind Del -/
def delV (recs : List (List UInt8)) (i : Int) : List (List UInt8) := if hasV recs i then cutV (recs.set i.toNat []) else recs
theorem hasV_lt {recs : List (List UInt8)} {i : Int} (h : hasV recs i = true) : 0 ≤ i ∧ i.toNat < recs.length := by
  simp only [hasV, Bool.and_eq_true, decide_eq_true_eq] at h
  refine ⟨h.1, ?_⟩
  rcases Nat.lt_or_ge i.toNat recs.length with h2 | h2
  · exact h2
  · rw [List.getElem?_eq_none h2] at h
    simp at h

theorem del_any [fb : Forbid] {B : Nat} (bp : Nat) (size : Int) (sv : Value) (recs : List (List UInt8)) (i : Int) (w : World) (hp : PageAt w B bp size sv recs) (hb : recs.length ≤ 1048576) :
    Calls Try.prog 12 #[.pointer (some ⟨bp, 0, none⟩), .int .i64 i] w fun e w' => e = .returned (.int .i64 (if hasV recs i then 0 else 14)) ∧ (∃ sv', PageAt w' B bp size sv' (delV recs i)) ∧ Touch B bp w w' := by
  cases hh : hasV recs i
  · exact (del_none bp size sv recs i w hp hh).mono fun e w' ⟨he, hw⟩ => ⟨he, ⟨sv, by rw [← hw]; simpa [delV, hh] using hp⟩, by rw [← hw]; exact Touch.refl _ _ _⟩
  · obtain ⟨h0, hlt⟩ := hasV_lt hh
    obtain ⟨k, rfl⟩ := Int.eq_ofNat_of_zero_le h0
    exact (del_some bp size sv recs k w hp hb hh hlt).mono fun e w' ⟨he, hx, ht⟩ => ⟨he, by simpa [delV, hh] using hx, ht⟩

/-- how many slots have a record -/
def cntV (recs : List (List UInt8)) : Nat := recs.countP fun l => !l.isEmpty
theorem hasV_append_lt (a b : List (List UInt8)) (k : Nat) (h : k < a.length) : hasV (a ++ b) (k : Int) = hasV a (k : Int) := by
  simp [hasV, List.getElem?_append_left h]
theorem idxs_append (a b : List (List UInt8)) (k : Nat) (h : k ≤ a.length) : idxs (a ++ b) k = idxs a k := by
  unfold idxs
  refine List.filter_congr fun i hi => ?_
  exact hasV_append_lt a b i (by have := List.mem_range.1 hi; omega)
theorem idxs_take (recs : List (List UInt8)) (k : Nat) (hk : k ≤ recs.length) : (idxs recs k).length = cntV (recs.take k) := by
  induction k with
  | zero => rfl
  | succ k ih =>
    have hi : recs[k]? = some recs[k] := List.getElem?_eq_getElem (by omega)
    have hv : hasV recs (k : Int) = !recs[k].isEmpty := by simp [hasV, hi]
    rw [idxs_succ, hv, List.take_add_one, hi]
    unfold cntV at *
    rw [List.countP_append, ← ih (by omega)]
    cases h : recs[k].isEmpty <;> simp [h]
theorem idxs_cnt (recs : List (List UInt8)) : (idxs recs recs.length).length = cntV recs := by
  rw [idxs_take recs _ (Nat.le_refl _), List.take_length]
theorem cntV_le (recs : List (List UInt8)) : cntV recs ≤ recs.length := List.countP_le_length

theorem cutV_split (r : List (List UInt8)) : ∃ t : List (List UInt8), r = cutV r ++ t ∧ ∀ l ∈ t, l = [] := by
  refine ⟨(r.reverse.takeWhile List.isEmpty).reverse, ?_, fun l hl => ?_⟩
  · rw [cutV, ← List.reverse_append, List.takeWhile_append_dropWhile, List.reverse_reverse]
  · rw [List.mem_reverse] at hl
    have := List.all_takeWhile (p := List.isEmpty) (l := r.reverse)
    rw [List.all_eq_true] at this
    simpa using this l hl
theorem cutV_le (r : List (List UInt8)) : (cutV r).length ≤ r.length := by
  obtain ⟨t, h, _⟩ := cutV_split r
  have := congrArg List.length h
  simp at this
  omega
theorem cutV_mem {r : List (List UInt8)} {l : List UInt8} (h : l ∈ cutV r) : l ∈ r := by
  obtain ⟨t, h2, _⟩ := cutV_split r
  rw [h2]
  exact List.mem_append_left _ h
theorem cutV_cnt (r : List (List UInt8)) : cntV (cutV r) = cntV r := by
  obtain ⟨t, h, ht⟩ := cutV_split r
  have h2 : cntV t = 0 := by
    unfold cntV
    rw [List.countP_eq_zero]
    intro l hl
    rw [ht l hl]
    simp
  have h3 : cntV r = cntV (cutV r) + cntV t := by
    conv => lhs; rw [h]
    unfold cntV
    rw [List.countP_append]
  omega
theorem set_cnt (r : List (List UInt8)) (k : Nat) (hk : k < r.length) (h : hasV r (k : Int) = true) : cntV (r.set k []) + 1 = cntV r := by
  have hi : r[k]? = some r[k] := List.getElem?_eq_getElem hk
  have hv : (!r[k].isEmpty) = true := by simpa [hasV, hi] using h
  unfold cntV
  rw [List.countP_set hk]
  have hp : 0 < r.countP fun l => !l.isEmpty := by
    rw [List.countP_pos_iff]
    exact ⟨r[k], List.getElem_mem hk, hv⟩
  simp only [hv, if_true, List.isEmpty_nil, Bool.not_true]
  simp
  omega

/-- a page of records of at most one byte -/
structure GoodM (recs : List (List UInt8)) : Prop where
  len : recs.length ≤ 63
  one : ∀ l ∈ recs, l.length ≤ 1
theorem GoodM.sum {recs : List (List UInt8)} (h : ∀ l ∈ recs, l.length ≤ 1) : sumL recs ≤ 3 * recs.length := by
  induction recs with
  | nil => simp [sumL]
  | cons l r ih =>
    have h1 := h l (by simp)
    have h2 := ih (fun x hx => h x (by simp [hx]))
    simp only [sumL, List.length_cons]
    omega
theorem GoodM.tot {recs : List (List UInt8)} (h : GoodM recs) : Go.Proofs.Ytgkohbjbfjnllaa.tot recs ≤ 190 := by
  have := GoodM.sum h.one
  have := h.len
  unfold Go.Proofs.Ytgkohbjbfjnllaa.tot
  omega
theorem GoodM.del {recs : List (List UInt8)} (h : GoodM recs) (i : Int) : GoodM (delV recs i) ∧ cntV (delV recs i) + (if hasV recs i then 1 else 0) = cntV recs := by
  cases hh : hasV recs i
  · simp [delV, hh, h]
  · obtain ⟨h0, hlt⟩ := hasV_lt hh
    obtain ⟨k, rfl⟩ := Int.eq_ofNat_of_zero_le h0
    simp only [delV, hh, if_true, Int.toNat_natCast]
    refine ⟨⟨?_, fun l hl => ?_⟩, ?_⟩
    · have := cutV_le (recs.set k [])
      have := h.len
      simp at *
      omega
    · have h2 := cutV_mem hl
      rcases List.mem_or_eq_of_mem_set h2 with h3 | h3
      · exact h.one l h3
      · rw [h3]; simp
    · rw [cutV_cnt]
      exact set_cnt recs k hlt hh
theorem emptyAt_all {recs : List (List UInt8)} (h : cntV recs = recs.length) : emptyAt recs = recs.length := by
  unfold cntV at h
  rw [List.countP_eq_length] at h
  unfold emptyAt
  rw [List.findIdx_eq_length]
  intro l hl
  simpa using h l hl
theorem emptyAt_some {recs : List (List UInt8)} (h : cntV recs < recs.length) : emptyAt recs < recs.length := by
  rcases Nat.lt_or_ge (emptyAt recs) recs.length with h2 | h2
  · exact h2
  · exfalso
    have h3 : emptyAt recs = recs.length := Nat.le_antisymm (emptyAt_le recs) h2
    unfold emptyAt at h3
    rw [List.findIdx_eq_length] at h3
    have : cntV recs = recs.length := by
      unfold cntV
      rw [List.countP_eq_length]
      intro l hl
      simpa using h3 l hl
    omega
theorem GoodM.full {recs : List (List UInt8)} (h : GoodM recs) : fullB 400 recs 1 = decide (cntV recs = 63) ∧ (cntV recs = 63 → roomV 400 recs = 0) := by
  have ht := h.tot
  have hl := h.len
  have hc := cntV_le recs
  by_cases h63 : cntV recs = 63
  · have hlen : recs.length = 63 := by omega
    have he := emptyAt_all (recs := recs) (by omega)
    have hr : roomV 400 recs = 0 := by rw [roomV, if_pos he, if_pos hlen]
    exact ⟨by rw [fullB, hr, decide_eq_true h63]; rfl, fun _ => hr⟩
  · refine ⟨?_, fun h => absurd h h63⟩
    rw [decide_eq_false h63]
    refine decide_eq_false ?_
    unfold roomV
    by_cases he : emptyAt recs = recs.length
    · have hne : ¬ recs.length = 63 := by
        intro hlen
        have : ¬ cntV recs < recs.length := fun hx => by have := emptyAt_some hx; omega
        omega
      rw [if_pos he, if_neg hne]
      omega
    · rw [if_neg he]
      omega

/-- the records behind k puts -/
def recsM (k : Nat) : List (List UInt8) := (List.range (min k 63)).map fun i => [UInt8.ofNat (i + 1)]
theorem recsM_good (k : Nat) : GoodM (recsM k) := ⟨by simp [recsM]; omega, fun l hl => by
  simp only [recsM, List.mem_map] at hl
  obtain ⟨i, _, rfl⟩ := hl
  simp⟩
theorem recsM_len (k : Nat) : (recsM k).length = min k 63 := by simp [recsM]
theorem recsM_cnt (k : Nat) : cntV (recsM k) = min k 63 := by
  rw [← recsM_len k]
  unfold cntV
  rw [List.countP_eq_length]
  intro l hl
  simp only [recsM, List.mem_map] at hl
  obtain ⟨i, _, rfl⟩ := hl
  rfl
theorem recsM_empty (k : Nat) : emptyAt (recsM k) = min k 63 := by
  rw [emptyAt_all (by rw [recsM_cnt, recsM_len]), recsM_len]
theorem recsM_put (k : Nat) (hk : k < 63) : putV (recsM k) [UInt8.ofNat (k + 1)] = recsM (k + 1) := by
  rw [putV, if_pos (by rw [recsM_empty, recsM_len])]
  unfold recsM
  rw [Nat.min_eq_left (by omega), Nat.min_eq_left (by omega), List.range_succ, List.map_append]
  rfl
theorem recsM_stop (k : Nat) (hk : 63 ≤ k) : recsM k = recsM (k + 1) := by
  unfold recsM
  rw [Nat.min_eq_right (by omega), Nat.min_eq_right (by omega)]
end Go.Proofs.Ytgkohbjbfjnllaa
