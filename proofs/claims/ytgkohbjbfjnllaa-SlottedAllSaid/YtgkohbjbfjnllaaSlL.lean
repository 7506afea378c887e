/-
  Package slotted: Bytes: for every page that fits its size.
-/
import Derived.Test.YtgkohbjbfjnllaaSlK
namespace Go.Proofs.Ytgkohbjbfjnllaa
open Go.RowKit

/-- a record's length in two bytes -/
def lenB (n : Nat) : List UInt8 := [UInt8.ofNat (n % 256), UInt8.ofNat (n / 256)]
/-- the front of a page's bytes: how many slots, how long the records -/
def frontB (recs : List (List UInt8)) (k : Nat) : List UInt8 := UInt8.ofNat recs.length :: (recs.take k).flatMap fun l => lenB l.length
theorem frontB_succ (recs : List (List UInt8)) (k : Nat) (hk : k < recs.length) : frontB recs (k + 1) = frontB recs k ++ lenB recs[k].length := by
  unfold frontB
  rw [List.take_add_one, List.getElem?_eq_getElem hk]
  simp only [Option.toList_some, List.flatMap_append, List.flatMap_cons, List.flatMap_nil, List.append_nil, List.cons_append]
theorem frontB_length (recs : List (List UInt8)) (k : Nat) (hk : k ≤ recs.length) : (frontB recs k).length = 1 + 2 * k := by
  induction k with
  | zero => simp [frontB]
  | succ k ih => rw [frontB_succ recs k (by omega), List.length_append, ih (by omega)]; simp [lenB]; omega
/-- a page's bytes -/
def bytesV (size : Nat) (recs : List (List UInt8)) : List UInt8 := frontB recs recs.length ++ catB recs ++ List.replicate (size - tot recs) 0
theorem sumL_eq (recs : List (List UInt8)) : sumL recs = 2 * recs.length + catN recs := by
  unfold catN catB
  induction recs with
  | nil => rfl
  | cons l r ih => simp only [sumL, ih, List.length_cons, List.flatten_cons, List.length_append]; omega
theorem bytesV_length (size : Nat) (recs : List (List UInt8)) (h : tot recs ≤ size) : (bytesV size recs).length = size := by
  have h1 := frontB_length recs recs.length (Nat.le_refl _)
  have h2 := sumL_eq recs
  unfold bytesV
  unfold catN at h2
  rw [List.length_append, List.length_append, h1, List.length_replicate]
  unfold tot at *
  omega

theorem cat_small (recs : List (List UInt8)) {size : Nat} (h : tot recs ≤ size) (hs : size ≤ 65535) : (catB recs).length ≤ 1048576 := by
  have := catL_le recs
  unfold tot at h
  omega

theorem front_small (recs : List (List UInt8)) {size : Nat} (h : tot recs ≤ size) (hs : size ≤ 65535) : 1 + 2 * recs.length + catN recs ≤ 1048576 := by
  have := sumL_eq recs
  unfold tot at h
  omega

theorem tot_eq (recs : List (List UInt8)) : tot recs = 1 + 2 * recs.length + catN recs := by
  rw [tot, sumL_eq]
  omega
theorem own_form {w : World} {b : Nat} {e : TypeId} {size : Nat} {v : Value} {n : Nat} {xs : List Value} (h : w.ownsRow b e size v n xs) : ∃ A c, v = .slice A n c := by
  obtain ⟨h1, ⟨h2, h3⟩ | ⟨g, cap, cur, h2, r⟩⟩ := h
  · exact ⟨none, 0, by rw [h2, h3]⟩
  · exact ⟨_, _, h2⟩

theorem own_below {w w' : World} {b : Nat} {e : TypeId} {size : Nat} {v : Value} {n : Nat} {xs : List Value} (h : w.ownsRow b e size v n xs) (hb : Below w.heap.size w w') : w'.ownsRow b e size v n xs := by
  obtain ⟨h1, h2 | ⟨g, cap, cur, h2, h3, hh, r⟩⟩ := h
  · exact ⟨h1, .inl h2⟩
  · exact ⟨h1, .inr ⟨g, cap, cur, h2, h3, (hb.block g (heap_lt hh)).trans hh, r⟩⟩

theorem lenB_cells (r : Nat) (h : r ≤ 65535) (j : Nat) (u : UInt8) (hu : (lenB r)[j]? = some u) : [Value.int .u8 ((r : Int) % 256), Value.int .u8 ((r : Int) / 256)][j]? = some (Value.int .u8 (u.toNat : Int)) := by
  rcases j with _ | _ | j
  · simp [lenB] at hu ⊢
    subst hu
    simp
  · simp [lenB] at hu ⊢
    subst hu
    simp
    omega
  · simp [lenB] at hu

set_option maxHeartbeats 1000000 in
theorem bytes_any {B : Nat} (bp : Nat) (size : Nat) (sv : Value) (recs : List (List UInt8)) (w : World) (hp : PageAt w B bp (size : Int) sv recs) (hb : tot recs ≤ size) (hs : size ≤ 65535) (h63 : recs.length ≤ 255) :
    Calls Try.prog 23 #[.pointer (some ⟨bp, 0, none⟩)] w fun e w' => ∃ v, e = .returned v ∧ w'.ownsRow w.heap.size 5 1 v size (cellsB (bytesV size recs)) ∧ Below w.heap.size w w' := by
  obtain ⟨A, cap, hsv⟩ := hp.sv_form
  subst hsv
  have hc := hp.slots_cell
  have hz := hp.size_cell
  have hbp := heap_lt hp.1
  have HP := hid hp
  clear hp
  go_enter Try.func23, Try.ntmps23
  go_wp2
  go_loopw [3, 18] (fun s3 s18 wr => ∃ k : Nat, k ≤ recs.length ∧ s18 = .int .i64 k ∧ wr.ownsRow w.heap.size 5 1 s3 (1 + 2 * k) (cellsB (frontB recs k)) ∧ Below w.heap.size w wr) (fun _ s18 _ => recs.length - (intOf s18).toNat)
  case atStart =>
    refine ⟨0, Nat.zero_le _, rfl, ⟨rfl, .inr ⟨w.heap.size, 1, _, rfl, Nat.le_refl _, heap_alloc_new w _, Nat.le_refl _, by unfold maxLen; omega, rfl, ?_⟩⟩, balloc (Below.refl _ _) _⟩
    simp [frontB, cellsB]
    omega
  case round =>
    obtain ⟨k, hk, rfl, hown, hbw⟩ := hrel
    have HO := hid hown
    have HB := hid hbw
    clear hown hbw
    have hsz : w.heap.size ≤ wr.heap.size := HB.out.size
    obtain ⟨i0, hi, hz0, hz1, hz2⟩ := info_parts infoB
    by_cases hlt : k < recs.length
    · obtain ⟨g, cap', hsv⟩ := HP.out.sv_row (by omega)
      injection hsv with hA _ hcap
      subst hA hcap
      obtain ⟨A2, c2, hcell, hrec⟩ := (HP.out.kept HB.out).row_rec k hlt
      have HF := hid (frontB_succ recs k hlt)
      have hle : recs[k].length ≤ 65535 := by
        have h1 := sumL_take_succ recs k recs[k] (List.getElem?_eq_getElem hlt)
        have h2 := sumL_take_le recs (k + 1)
        unfold tot at hb
        omega
      generalize recs[k].length = r at hcell HF hle
      clear hrec
      go_wp2_with (first
        | (at_builtin; go_loud (refine wpList_append_own _ rfl (.tmp 22) (.tmp 30) 29 rfl w.heap.size 5 i0 (.int .u8 0) 1 1 Try.underlying29 hi hz0 hz1 hz2 rfl (by decide) _ _ _ rfl (HO.out.alloc _) ⟨wr.heap.size, 0, none⟩ 2 2 (cellsB (lenB r)) rfl rfl ?c1 (cellsB_one _) (by unfold maxLen; omega) (by omega) (by simp; omega) ?_)))
      case c1 =>
        intro j u hu
        obtain ⟨b, hb, rfl⟩ := cellsB_get _ j u hu
        have := lenB_cells r hle j b hb
        first | exact this | simpa using this
      intro v' w2 hown2 hgrow _
      have HO2 := hid hown2
      have HB2 : Hid (Below w.heap.size w w2) := hid ((HB.out.alloc hsz _).grown hgrow (by simp; omega) (fun k hk => (HO.out.lt k hk).1))
      clear hown2 hgrow
      go_wp2
      go_roundw
      case rel => exact ⟨k + 1, by omega, by go_num, by rw [HF.out, cellsB_append]; exact HO2.out, HB2.out⟩
      case measure => simp [intOf]; omega
    · obtain rfl : k = recs.length := by omega
      have hcr := (HP.out.kept HB.out).slots_cell
      have hzr := (HP.out.kept HB.out).size_cell
      have HPr := hid (HP.out.kept HB.out)
      go_wp2_with fail
      refine (concat_any bp _ _ recs _ HPr.out (by omega)).mono ?_
      rintro e w2 ⟨v2, rfl, ho2, hb2⟩
      have HO2 := hid ho2
      have HB2 := hid hb2
      clear ho2 hb2
      have HOr : Hid (w2.ownsRow w.heap.size 5 1 _ (1 + 2 * recs.length) (cellsB (frontB recs recs.length))) := hid (own_below HO.out HB2.out)
      go_wp2_with (first
        | (at_builtin; go_loud (refine wpList_append_rec rfl (.tmp 33) (.tmp 38) rfl w.heap.size _ _ _ rfl HOr.out _ (catB recs) rfl (RecAt.of_own HO2.out).1 (by omega) (cat_small recs hb hs) (Nat.le_trans hsz HB2.out.size) ?_)))
      intro v3 w3 hown3 hgrow3
      have HO3 : Hid (w3.ownsRow w.heap.size 5 1 v3 (tot recs) (cellsB (frontB recs recs.length) ++ cellsB (catB recs))) := hid (by rw [tot_eq]; exact hown3)
      have HB3 : Hid (Below w.heap.size w w3) := hid ((bthrough HB.out HB2.out hsz).grown hgrow3 (Nat.le_trans hsz HB2.out.size) (fun k hk => (HOr.out.lt k hk).1))
      clear hown3 hgrow3
      have hc3 := (HP.out.kept HB3.out).slots_cell
      have hz3 := (HP.out.kept HB3.out).size_cell
      have hsl := HB3.out.size
      obtain ⟨A3, c3, hv3⟩ := own_form HO3.out
      subst hv3
      clear hcr hzr
      go_wp2_with (first
        | (at_builtin; go_loud (refine wpList_zeros_own _ rfl (.tmp 40) (.tmp 47) 29 3 rfl w.heap.size 5 i0 .i64 .i64 Try.underlying29 Try.underlying3 hi hz0 hz1 hz2 _ _ _ rfl HO3.out (size - tot recs) ?cx (by omega) (by omega) hsl ?_)))
      case cx =>
        show Value.int .i64 ((size : Int) - (tot recs : Int)) = _
        rw [Int.ofNat_sub hb]
      intro v4 w4 hown4 hgrow4
      have HO4 := hid hown4
      have HB4 : Hid (Below w.heap.size w w4) := hid (HB3.out.grown hgrow4 hsl (fun k hk => (HO3.out.lt k hk).1))
      clear hown4 hgrow4
      go_wp2
      go_ret
      refine ⟨_, rfl, ?_, HB4.out⟩
      rw [bytesV, cellsB_append, cellsB_append]
      have hx := HO4.out
      have e : tot recs + (size - tot recs) = size := by omega
      have e2 : cellsB (List.replicate (size - tot recs) 0) = List.replicate (size - tot recs) (Value.int .u8 0) := by simp [cellsB]
      rw [e2]
      first | exact hx | (rw [List.append_assoc]; exact hx) | (rw [e] at hx; exact hx) | (rw [e] at hx; rw [List.append_assoc]; exact hx)
end Go.Proofs.Ytgkohbjbfjnllaa
