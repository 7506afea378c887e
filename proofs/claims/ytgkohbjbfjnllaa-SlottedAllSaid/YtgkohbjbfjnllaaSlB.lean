/-
  Package slotted: New, check, has, empty, Room: for every page.
-/
import Derived.Test.YtgkohbjbfjnllaaSlA
namespace Go.Proofs.Ytgkohbjbfjnllaa
open Go.RowKit

/-- the least slot without a byte; else the number of slots -/
def emptyAt (recs : List (List UInt8)) : Nat := recs.findIdx (fun l => l.isEmpty)
theorem emptyAt_le (recs : List (List UInt8)) : emptyAt recs ≤ recs.length := List.findIdx_le_length

theorem new_any (size : Int) (w : World) (h : 16 ≤ size ∧ size ≤ 4096) :
    Calls Try.prog 9 #[.int .i64 size] w fun e w' => e = .returned (.pointer (some ⟨w.heap.size, 0, none⟩)) ∧ w' = w.alloc (.cells #[.int .i64 size, .slice none 0 0] 53) := by
  obtain ⟨h1, h2⟩ := h
  go_enter Try.func9, Try.ntmps9
  go_wp2
  go_ret
  exact ⟨rfl, rfl⟩

theorem check_any (A : Option Addr) (n c : Nat) (w : World) (h : n ≤ 16384) :
    Calls Try.prog 24 #[.slice A n c] w fun e w' => e = .returned (.bool (decide (0 < n))) ∧ w = w' := by
  go_enter Try.func24, Try.ntmps24
  by_cases h0 : 0 < n
  · go_wp2
    go_ret
    exact ⟨ret_bool (show decide ((n : Int) ≤ 16384) = decide (0 < n) by rw [decide_eq_true (by omega), decide_eq_true (by omega)]), rfl⟩
  · obtain rfl : n = 0 := by omega
    go_wp2
    go_ret
    exact ⟨rfl, rfl⟩

theorem emptyFn_any (A : Option Addr) (n c : Nat) (w : World) :
    Calls Try.prog 39 #[.slice A n c] w fun e w' => e = .returned (.bool (decide (n = 0))) ∧ w = w' := by
  go_enter Try.func39, Try.ntmps39
  go_wp2
  go_ret
  exact ⟨ret_bool (show decide ((n : Int) = 0) = decide (n = 0) by simp), rfl⟩

/-- has slot i a record? -/
def hasV (recs : List (List UInt8)) (i : Int) : Bool := decide (0 ≤ i) && !((recs[i.toNat]?).getD []).isEmpty

set_option maxHeartbeats 400000 in
theorem has_any [fb : Forbid] {B : Nat} (bp : Nat) (size : Int) (sv : Value) (recs : List (List UInt8)) (i : Int) (w : World) (hp : PageAt w B bp size sv recs) :
    Calls Try.prog 28 #[.pointer (some ⟨bp, 0, none⟩), .int .i64 i] w fun e w' => e = .returned (.bool (hasV recs i)) ∧ w = w' := by
  have hc := hp.slots_cell
  by_cases h0 : 0 ≤ i
  · rcases hp.rows with ⟨rfl, rfl⟩ | ⟨g, cap, rfl, hn, hm, hrow⟩
    · have hf : decide (i < 0) = false := decide_eq_false (by omega)
      go_enter Try.func28, Try.ntmps28
      go_wp2
      go_ret
      exact ⟨ret_bool (by simp [hasV]), rfl⟩
    · obtain ⟨k, rfl⟩ := Int.eq_ofNat_of_zero_le h0
      clear hp
      by_cases hk : k < recs.length
      · have hi : recs[k]? = some recs[k] := List.getElem?_eq_getElem hk
        obtain ⟨A, c, hcell, _⟩ := hrow k _ hi
        have HV := hid (show hasV recs (k : Int) = decide (0 < recs[k].length) by simp [hasV, hi]; cases recs[k] <;> simp)
        generalize recs[k].length = r at hcell HV
        clear hi hrow
        go_enter Try.func28, Try.ntmps28
        go_wp2
        go_ret
        exact ⟨ret_bool (by rw [HV.out]), rfl⟩
      · have hf : decide ((k : Int) < (recs.length : Int)) = false := decide_eq_false (by omega)
        have HV := hid (show hasV recs (k : Int) = false by simp [hasV, List.getElem?_eq_none (show recs.length ≤ k by omega)])
        go_enter Try.func28, Try.ntmps28
        go_wp2
        go_ret
        exact ⟨ret_bool HV.out.symm, rfl⟩
  · have hf : decide (i ≥ 0) = false := decide_eq_false (by omega)
    have HV := hid (show hasV recs i = false by simp [hasV]; omega)
    go_enter Try.func28, Try.ntmps28
    go_wp2
    go_ret
    exact ⟨ret_bool HV.out.symm, rfl⟩

theorem emptyAt_skip (recs : List (List UInt8)) (k : Nat) (h : k ≤ emptyAt recs) (hk : k < recs.length) (h0 : recs[k].length ≠ 0) : k + 1 ≤ emptyAt recs := by
  by_cases he : k = emptyAt recs
  · subst he
    have := List.findIdx_getElem (w := hk)
    simp at this
    exact absurd (by show (recs[emptyAt recs]'hk).length = 0; exact List.length_eq_zero_iff.2 this) h0
  · omega
theorem emptyAt_stop (recs : List (List UInt8)) (k : Nat) (h : k ≤ emptyAt recs) (hk : k < recs.length) (h0 : recs[k].length = 0) : k = emptyAt recs := by
  by_cases he : k < emptyAt recs
  · have := List.not_of_lt_findIdx he
    simp at this
    exact absurd (List.length_eq_zero_iff.1 h0) this
  · omega

/-- what IndexFunc gives -/
def indexV (recs : List (List UInt8)) : Int := if emptyAt recs < recs.length then (emptyAt recs : Int) else -1

set_option maxHeartbeats 400000 in
theorem index_any [fb : Forbid] {B : Nat} (bp : Nat) (size : Int) (sv : Value) (recs : List (List UInt8)) (w : World) (hp : PageAt w B bp size sv recs) (hb : recs.length ≤ 1048576) :
    Calls Try.prog 38 #[sv, .func (.func 39) #[] #[]] w fun e w' => e = .returned (.int .i64 (indexV recs)) ∧ w = w' := by
  rcases hp.rows with ⟨rfl, rfl⟩ | ⟨g, cap, rfl, hn, hm, hrow⟩
  ·
    go_enter Try.func38, Try.ntmps38
    go_wp2
    go_loop [8] (fun s8 => s8 = .int .i64 0) (fun _ => 0)
    case atStart => rfl
    case round =>
      obtain rfl := hrel
      go_wp2
      go_ret
      exact ⟨rfl, rfl⟩
  · clear hp
    go_enter Try.func38, Try.ntmps38
    go_wp2
    go_loop [8] (fun s8 => ∃ k : Nat, k ≤ recs.length ∧ k ≤ emptyAt recs ∧ s8 = .int .i64 k) (fun s8 => recs.length - (intOf s8).toNat)
    case atStart => exact ⟨0, Nat.zero_le _, Nat.zero_le _, rfl⟩
    case round =>
      obtain ⟨k, hk, he, rfl⟩ := hrel
      by_cases hlt : k < recs.length
      · have hi : recs[k]? = some recs[k] := List.getElem?_eq_getElem hlt
        obtain ⟨A, c, hcell, _⟩ := hrow k _ hi
        by_cases h0 : recs[k].length = 0
        · have hst := hid (emptyAt_stop recs k he hlt h0)
          rw [h0] at hcell
          go_wp2_with fail
          refine (emptyFn_any _ _ _ _).mono ?_
          rintro e w1 ⟨rfl, rfl⟩
          go_wp2
          go_ret
          exact ⟨ret_int (by rw [indexV, ← hst.out, if_pos hlt]), rfl⟩
        · have hst := hid (emptyAt_skip recs k he hlt h0)
          generalize recs[k].length = r at hcell h0
          go_wp2_with fail
          refine (emptyFn_any _ _ _ _).mono ?_
          rintro e w1 ⟨rfl, rfl⟩
          go_wp2
          go_round
          case rel => exact ⟨k + 1, by omega, hst.out, by go_num⟩
          case measure => simp [intOf]; omega
      · obtain rfl : k = recs.length := by omega
        have hx := hid he
        go_wp2
        go_ret
        exact ⟨ret_int (by rw [indexV, if_neg (by have := hx.out; omega)]), rfl⟩

theorem empty_any [fb : Forbid] {B : Nat} (bp : Nat) (size : Int) (sv : Value) (recs : List (List UInt8)) (w : World) (hp : PageAt w B bp size sv recs) (hb : recs.length ≤ 1048576) :
    Calls Try.prog 25 #[.pointer (some ⟨bp, 0, none⟩)] w fun e w' => e = .returned (.int .i64 (emptyAt recs : Int)) ∧ w = w' := by
  have hc := hp.slots_cell
  obtain ⟨A, cap, hsv⟩ : ∃ A cap, sv = .slice A recs.length cap := by
    rcases hp.rows with ⟨rfl, rfl⟩ | ⟨g, cap, rfl, _⟩
    · exact ⟨_, _, rfl⟩
    · exact ⟨_, _, rfl⟩
  have hidx := index_any bp size sv recs w hp hb
  have hle := emptyAt_le recs
  clear hp
  subst hsv
  by_cases hlt : emptyAt recs < recs.length
  · have hv := hid (show indexV recs = (emptyAt recs : Int) by rw [indexV, if_pos hlt])
    go_enter Try.func25, Try.ntmps25
    go_wp2_with fail
    refine hidx.mono ?_
    rintro e w1 ⟨rfl, rfl⟩
    rw [hv.out]
    go_wp2
    go_ret
    exact ⟨rfl, rfl⟩
  · have hv := hid (show indexV recs = -1 by rw [indexV, if_neg hlt])
    have hv2 := hid (show emptyAt recs = recs.length by omega)
    go_enter Try.func25, Try.ntmps25
    go_wp2_with fail
    refine hidx.mono ?_
    rintro e w1 ⟨rfl, rfl⟩
    rw [hv.out]
    go_wp2
    go_ret
    exact ⟨ret_int (by rw [hv2.out]), rfl⟩
end Go.Proofs.Ytgkohbjbfjnllaa
