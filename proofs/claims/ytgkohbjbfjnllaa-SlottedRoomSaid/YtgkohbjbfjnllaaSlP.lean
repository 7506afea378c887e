/-
  Layer 9, the plain law: the bytes of a page that fits are a page's, and tell its records again. No program in sight.
-/
import Derived.Test.YtgkohbjbfjnllaaSlS
import Derived.Test.YtgkohbjbfjnllaaSlV
import Derived.Test.YtgkohbjbfjnllaaSlZ
namespace Go.Proofs.Ytgkohbjbfjnllaa
open Go.RowKit

theorem frontB_get (recs : List (List UInt8)) (k : Nat) (hk : k ≤ recs.length) (i : Nat) (hi : i < k) (hil : i < recs.length) : (frontB recs k)[1 + 2 * i]? = some (UInt8.ofNat (recs[i].length % 256)) ∧ (frontB recs k)[2 + 2 * i]? = some (UInt8.ofNat (recs[i].length / 256)) := by
  induction k with
  | zero => omega
  | succ k ih =>
    have hl := frontB_length recs k (by omega)
    rw [frontB_succ recs k (by omega)]
    by_cases h : i < k
    · rw [List.getElem?_append_left (by omega), List.getElem?_append_left (by omega)]
      exact ih (by omega) h
    · obtain rfl : i = k := by omega
      rw [List.getElem?_append_right (by omega), List.getElem?_append_right (by omega), hl]
      rw [show 1 + 2 * i - (1 + 2 * i) = 0 by omega, show 2 + 2 * i - (1 + 2 * i) = 1 by omega]
      exact ⟨rfl, rfl⟩

theorem rec_le_sumL (recs : List (List UInt8)) (i : Nat) (h : i < recs.length) : recs[i].length ≤ sumL recs := by
  have h1 := sumL_take_succ recs i recs[i] (List.getElem?_eq_getElem h)
  have h2 := sumL_take_le recs (i + 1)
  omega

theorem bytesV_front (size : Nat) (recs : List (List UInt8)) (j : Nat) (u : UInt8) (h : (frontB recs recs.length)[j]? = some u) : (bytesV size recs)[j]? = some u := by
  have hj := (List.getElem?_eq_some_iff.1 h).1
  unfold bytesV
  rw [List.append_assoc, List.getElem?_append_left hj, h]

theorem bytesV_head (size : Nat) (recs : List (List UInt8)) (h : recs.length ≤ 255) : ((bytesV size recs).getD 0 0).toNat = recs.length := by
  have : (bytesV size recs)[0]? = some (UInt8.ofNat recs.length) := bytesV_front size recs 0 _ (by rfl)
  rw [List.getD_eq_getElem?_getD, this]
  simp
  omega

theorem lenAt_bytesV (size : Nat) (recs : List (List UInt8)) (hb : tot recs ≤ 65535) (i : Nat) (hi : i < recs.length) : lenAt (bytesV size recs) i = recs[i].length := by
  have hg := frontB_get recs recs.length (Nat.le_refl _) i hi hi
  have h1 := bytesV_front size recs _ _ hg.1
  have h2 := bytesV_front size recs _ _ hg.2
  have h3 := rec_le_sumL recs i hi
  unfold tot at hb
  unfold lenAt
  rw [List.getD_eq_getElem?_getD, List.getD_eq_getElem?_getD, h1, h2]
  simp
  omega

theorem recsAt_bytesV (size : Nat) (recs : List (List UInt8)) (hb : tot recs ≤ 65535) (k : Nat) (hk : k ≤ recs.length) : recsAt (bytesV size recs) recs.length k = recs.take k := by
  induction k with
  | zero => rfl
  | succ k ih =>
    have hlt : k < recs.length := by omega
    have hT : recs.take (k + 1) = recs.take k ++ [recs[k]] := by rw [List.take_add_one, List.getElem?_eq_getElem hlt]; rfl
    have hfl := frontB_length recs recs.length (Nat.le_refl _)
    have hsplit : catB recs = catB (recs.take k) ++ (recs[k] ++ catB (recs.drop (k + 1))) := by
      have h1 : recs = recs.take k ++ (recs[k] :: recs.drop (k + 1)) := by simp
      have h2 : catB recs = catB (recs.take k ++ (recs[k] :: recs.drop (k + 1))) := by rw [← h1]
      rw [h2]
      unfold catB
      rw [List.flatten_append, List.flatten_cons]
    rw [recsAt, ih (by omega), hT, lenAt_bytesV size recs hb k hlt]
    congr 2
    unfold bytesV
    rw [hsplit]
    have e : frontB recs recs.length ++ (catB (recs.take k) ++ (recs[k] ++ catB (recs.drop (k + 1)))) ++ List.replicate (size - tot recs) 0 = (frontB recs recs.length ++ catB (recs.take k)) ++ (recs[k] ++ (catB (recs.drop (k + 1)) ++ List.replicate (size - tot recs) 0)) := by simp only [List.append_assoc]
    rw [e, List.drop_left' (by rw [List.length_append, hfl]; rfl), List.take_left' rfl]

theorem hasV_last {recs : List (List UInt8)} (h : cutV recs = recs) (h0 : 0 < recs.length) : hasV recs ((recs.length : Int) - 1) = true := by
  have h1 := (cutV_iff recs).1 h h0
  have h2 := hasV_at recs (recs.length - 1) (by omega)
  rw [show ((recs.length - 1 : Nat) : Int) = (recs.length : Int) - 1 by omega] at h2
  rw [h2]
  simpa using h1

theorem ok_bytesV {size : Nat} {recs : List (List UInt8)} (hf : Fits size recs) (hs : size ≤ 65535) : okV (bytesV size recs) recs.length ∧ recsAt (bytesV size recs) recs.length recs.length = recs := by
  have hl := bytesV_length size recs hf.fit
  have hfit := hf.fit
  have hlen := hf.len
  have hsum := sumL_eq recs
  have hr := recsAt_bytesV size recs (by omega) recs.length (Nat.le_refl _)
  rw [List.take_length] at hr
  unfold tot at hfit
  refine ⟨⟨hlen, by omega, fun i hi => ?_, ?_, by rw [hr, hl]⟩, hr⟩
  · have hb : tot recs ≤ 65535 := by have := hf.fit; omega
    rw [lenAt_bytesV size recs hb i hi, recsAt_bytesV size recs hb i (by omega), hl]
    have h1 := catN_succ recs i hi
    have h2 := catN_take_le' recs (i + 1)
    omega
  · rw [hr]
    by_cases h0 : recs.length = 0
    · exact .inl h0
    · exact .inr (hasV_last hf.last (by omega))
end Go.Proofs.Ytgkohbjbfjnllaa
