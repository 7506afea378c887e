/-
  Package slotted: what a page is in memory; length, has, the empty slot, Room: for every page.
-/
import Derived.Test.YtgkohbjbfjnllaaBase
namespace Go.Proofs.Ytgkohbjbfjnllaa
open Go.RowKit

/-- a value that reads as these bytes -/
def RecAt (w : World) (v : Value) (l : List UInt8) : Prop :=
  (v = .slice none 0 0 ∧ l = []) ∨ (∃ g off cap cur fr, v = .slice (some ⟨g, off, none⟩) l.length cap ∧ l.length ≤ cap ∧ w.heap[g]? = some (.cells cur 5 fr) ∧ ∀ j b, l[j]? = some b → cur[off + j]? = some (.int .u8 (b.toNat : Int)))

theorem RecAt.form {w : World} {v : Value} {l : List UInt8} (h : RecAt w v l) : ∃ A cap, v = .slice A l.length cap := by
  rcases h with ⟨rfl, rfl⟩ | ⟨g, off, cap, cur, fr, rfl, _⟩
  · exact ⟨_, _, rfl⟩
  · exact ⟨_, _, rfl⟩

/-- bytes that records need -/
def sumL : List (List UInt8) → Nat
  | [] => 0
  | l :: r => 2 + l.length + sumL r
def tot (recs : List (List UInt8)) : Nat := 1 + sumL recs
theorem sumL_append (a b : List (List UInt8)) : sumL (a ++ b) = sumL a + sumL b := by
  induction a with
  | nil => simp [sumL]
  | cons l r ih => simp only [List.cons_append, sumL, ih]; omega
theorem sumL_take_le (recs : List (List UInt8)) (k : Nat) : sumL (recs.take k) ≤ sumL recs := by
  have := sumL_append (recs.take k) (recs.drop k)
  rw [List.take_append_drop] at this
  omega
theorem sumL_take_succ (recs : List (List UInt8)) (k : Nat) (l : List UInt8) (h : recs[k]? = some l) : sumL (recs.take (k + 1)) = sumL (recs.take k) + (2 + l.length) := by
  rw [List.take_add_one, h, sumL_append]
  simp [sumL]
theorem len_le_sumL (recs : List (List UInt8)) : 2 * recs.length ≤ sumL recs := by
  induction recs with
  | nil => simp
  | cons l r ih => simp only [List.length_cons, sumL]; omega

/-- blocks in which no record of a page lies -/
class Forbid where
  no : Nat → Prop
instance noForbid : Forbid := ⟨fun _ => False⟩
def Far [fb : Forbid] (v : Value) : Prop := ∀ k, v.ownBlock = some k → ¬ fb.no k
theorem far_nil [fb : Forbid] : Far (.slice none 0 0) := fun k hk => by cases hk

/-- the page at block bp: its size, its slots' slice, its records -/
def PageAt [fb : Forbid] (w : World) (B bp : Nat) (size : Int) (sv : Value) (recs : List (List UInt8)) : Prop :=
  w.heap[bp]? = some (.cells #[.int .i64 size, sv] 53 (0, 0)) ∧ (B ≤ bp ∧ ∀ b, fb.no b → b < w.heap.size) ∧ ∃ (vs : List Value), w.ownsRow B 29 1 sv recs.length vs ∧ ∀ (i : Nat) (l : List UInt8), recs[i]? = some l → ∃ v, vs[i]? = some v ∧ RecAt w v l ∧ Far v

theorem PageAt.size_cell [fb : Forbid] {w : World} {B bp : Nat} {size : Int} {sv : Value} {recs : List (List UInt8)} (h : PageAt w B bp size sv recs) : w.cell? ⟨bp, 0, none⟩ = some (.int .i64 size) := by
  have h0 := h.1
  simp [World.cell?, h0]
theorem PageAt.slots_cell [fb : Forbid] {w : World} {B bp : Nat} {size : Int} {sv : Value} {recs : List (List UInt8)} (h : PageAt w B bp size sv recs) : w.cell? ⟨bp, 1, none⟩ = some sv := by
  have h0 := h.1
  simp [World.cell?, h0]

/-- the slots, read: nil and none; or a row whose cells are the records' values -/
theorem PageAt.rows [fb : Forbid] {w : World} {B bp : Nat} {size : Int} {sv : Value} {recs : List (List UInt8)} (h : PageAt w B bp size sv recs) :
    (sv = .slice none 0 0 ∧ recs = []) ∨ ∃ g cap, sv = .slice (some ⟨g, 0, none⟩) recs.length cap ∧ recs.length ≤ cap ∧ cap ≤ maxLen ∧ ∀ (i : Nat) (l : List UInt8), recs[i]? = some l → ∃ A c, w.cell? ⟨g, i, none⟩ = some (.slice A l.length c) ∧ RecAt w (.slice A l.length c) l := by
  obtain ⟨_, _, vs, ⟨hl, hv⟩, hr⟩ := h
  rcases hv with ⟨rfl, h0⟩ | ⟨g, cap, cur, rfl, _, hg, hn, hm, hs, ht⟩
  · exact .inl ⟨rfl, List.length_eq_zero_iff.1 h0⟩
  · refine .inr ⟨g, cap, rfl, hn, hm, fun i l hi => ?_⟩
    obtain ⟨v, hvi, hrec⟩ := hr i l hi
    obtain ⟨A, c, rfl⟩ := hrec.1.form
    refine ⟨A, c, ?_, hrec.1⟩
    have hlt : i < recs.length := (List.getElem?_eq_some_iff.1 hi).1
    rw [← ht] at hvi
    rw [List.getElem?_take_of_lt (by omega)] at hvi
    simpa [World.cell?, hg] using hvi

set_option maxHeartbeats 400000 in
theorem length_any [fb : Forbid] {B : Nat} (bp : Nat) (size : Int) (sv : Value) (recs : List (List UInt8)) (w : World) (hp : PageAt w B bp size sv recs) (hb : tot recs ≤ 1048576) :
    Calls Try.prog 27 #[.pointer (some ⟨bp, 0, none⟩)] w fun e w' => e = .returned (.int .i64 (tot recs : Int)) ∧ w = w' := by
  have hc := hp.slots_cell
  have hle := len_le_sumL recs
  unfold tot at hb
  rcases hp.rows with ⟨rfl, rfl⟩ | ⟨g, cap, rfl, hn, hm, hrow⟩
  ·
    go_enter Try.func27, Try.ntmps27
    go_wp2
    go_loop [3, 11] (fun s3 s11 => s3 = .int .i64 1 ∧ s11 = .int .i64 0) (fun _ _ => 0)
    case atStart => exact ⟨rfl, rfl⟩
    case round =>
      obtain ⟨rfl, rfl⟩ := hrel
      go_wp2
      go_ret
      exact ⟨rfl, rfl⟩
  · clear hp
    have HT := hid (show tot recs = 1 + sumL recs from rfl)
    go_enter Try.func27, Try.ntmps27
    go_wp2
    go_loop [3, 11] (fun s3 s11 => ∃ k : Nat, k ≤ recs.length ∧ s11 = .int .i64 k ∧ s3 = .int .i64 (1 + (sumL (recs.take k) : Int))) (fun _ s11 => recs.length - (intOf s11).toNat)
    case atStart => exact ⟨0, Nat.zero_le _, rfl, by simp [sumL]⟩
    case round =>
      obtain ⟨k, hk, rfl, rfl⟩ := hrel
      by_cases hlt : k < recs.length
      · have hi : recs[k]? = some recs[k] := List.getElem?_eq_getElem hlt
        obtain ⟨A, c, hcell, _⟩ := hrow k _ hi
        have hsucc := hid (sumL_take_succ recs k _ hi)
        have hle2 := sumL_take_le recs (k + 1)
        rw [hsucc.out] at hle2
        generalize hq : sumL (recs.take k) = q at hle2 ⊢
        generalize hr : recs[k].length = r at hle2 hcell
        have HQ := hid hq
        have HR := hid hr
        clear hq hr hi
        go_wp2
        go_round
        case rel => exact ⟨k + 1, by omega, by go_num, by rw [hsucc.out, HQ.out, HR.out]; go_num⟩
        case measure => simp [intOf]; omega
      · obtain rfl : k = recs.length := by omega
        go_wp2
        go_ret
        exact ⟨ret_int (by rw [HT.out]; omega), rfl⟩
end Go.Proofs.Ytgkohbjbfjnllaa
