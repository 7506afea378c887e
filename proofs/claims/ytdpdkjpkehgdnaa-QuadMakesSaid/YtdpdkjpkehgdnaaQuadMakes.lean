/-
  The walk of the statement QuadMakes: it returns true, for every side.
-/
import Derived.Test.YtdpdkjpkehgdnaaQuN
namespace Go.Proofs.Ytdpdkjpkehgdnaa
open Go.RowKit

def wantB (n : Int) : Nat → Bool
  | 0 => false
  | i + 1 => wantB n i || decide (n = ((2 ^ i : Nat) : Int))
theorem wantB_all (n : Int) : wantB n 9 = powB n := by
  simp [wantB, powB]

theorem w64_pow9 : ∀ i : Fin 9, wrap64 ((2 : Int) ^ i.val) = ((2 ^ i.val : Nat) : Int) := by decide +kernel
theorem powB_sd {n : Int} (h : powB n = true) : ∃ k, k ≤ 8 ∧ n = sd k := by
  simp only [powB, Bool.or_eq_true, decide_eq_true_eq] at h
  rcases h with (((((((h | h) | h) | h) | h) | h) | h) | h) | h
  · exact ⟨0, by decide, h⟩
  · exact ⟨1, by decide, h⟩
  · exact ⟨2, by decide, h⟩
  · exact ⟨3, by decide, h⟩
  · exact ⟨4, by decide, h⟩
  · exact ⟨5, by decide, h⟩
  · exact ⟨6, by decide, h⟩
  · exact ⟨7, by decide, h⟩
  · exact ⟨8, by decide, h⟩
theorem count_new : ∀ k : Nat, k ≤ 8 → cntL 0 (lvs k 0 0 0 0 (sd k) (sd k) (.leaf 0)) = sd k * sd k
  | 0, _ => by kernel_rfl
  | 1, _ => by kernel_rfl
  | 2, _ => by kernel_rfl
  | 3, _ => by kernel_rfl
  | 4, _ => by kernel_rfl
  | 5, _ => by kernel_rfl
  | 6, _ => by kernel_rfl
  | 7, _ => by kernel_rfl
  | 8, _ => by kernel_rfl
theorem sq_wrap : ∀ k : Nat, k ≤ 8 → IntKind.i64.wrap (sd k * sd k) = sd k * sd k
  | 0, _ => by kernel_rfl
  | 1, _ => by kernel_rfl
  | 2, _ => by kernel_rfl
  | 3, _ => by kernel_rfl
  | 4, _ => by kernel_rfl
  | 5, _ => by kernel_rfl
  | 6, _ => by kernel_rfl
  | 7, _ => by kernel_rfl
  | 8, _ => by kernel_rfl

set_option maxHeartbeats 1000000 in
theorem lawMakes (n : Int) (w : World) :
    Calls Try.prog 4 #[.int .i64 n] w fun e w' => e = .returned (.bool true) ∧ Below w.heap.size w w' := by
  go_enter Try.func4, Try.ntmps4
  go_wp2_with fail
  go_loopw [3, 6] (fun s3 s6 wr => ∃ i : Nat, i ≤ 9 ∧ s6 = .int .i64 (i : Int) ∧ s3 = .bool (wantB n i) ∧ Below w.heap.size w wr) (fun _ s6 _ => 9 - (intOf s6).toNat)
  case atStart => exact ⟨0, Nat.zero_le _, rfl, rfl, Below.refl _ _⟩
  case round =>
    obtain ⟨i, hi, rfl, rfl, hB⟩ := hrel
    by_cases hlt : i < 9
    · cases hw : wantB n i with
      | true =>
        go_wp2_with fail
        go_roundw
        case rel => exact ⟨i + 1, by omega, by go_num, by simp [wantB, hw], hB⟩
        case measure => simp [intOf]; omega
      | false =>
        go_wp2_with fail
        go_roundw
        case rel => exact ⟨i + 1, by omega, by go_num, by
          have := w64_pow9 ⟨i, hlt⟩
          dsimp only at this
          rw [this, wantB, hw, Bool.false_or]
          congr 1, hB⟩
        case measure => simp [intOf]; omega
    · obtain rfl : i = 9 := by omega
      rw [wantB_all]
      cases hp : powB n with
      | false =>
        go_wp2_with fail
        refine (new_no n wr hp).mono ?_
        rintro e w1 ⟨rfl, hb1⟩
        replace hb1 := bthrough hB hb1 hB.size
        go_wp2_with fail
        refine (awake_any w1).mono ?_
        rintro e w2 ⟨rfl, hb2⟩
        replace hb2 := bthrough hb1 hb2 hb1.size
        go_wp2
        go_ret
        exact ⟨rfl, hb2⟩
      | true =>
        go_wp2_with fail
        refine (new_yes n wr hp).mono ?_
        rintro e w1 ⟨⟨g, rfl, hq⟩, hb1⟩
        replace hb1 := bthrough hB hb1 hB.size
        obtain ⟨k, hk, hnk⟩ := powB_sd hp
        have hcn := count_new k hk
        have hsw := sq_wrap k hk
        rw [← hnk] at hcn hsw
        have hN := hid hnk
        clear hnk
        go_wp2_with fail
        refine (side_get g n w1 hq.side).mono ?_
        rintro e w2 ⟨rfl, hb2⟩
        have hq2 := hq.below hb2
        replace hb2 := bthrough hb1 hb2 hb1.size
        go_wp2_with fail
        refine (nodes_get wr.heap.size g n (.leaf 0) w2 hq2 (by decide)).mono ?_
        rintro e w3 ⟨rfl, hb3⟩
        have hq3 := hq2.below hb3
        replace hb3 := bthrough hb2 hb3 hb2.size
        have hn1 : (((Sq.leaf 0).nodes : Nat) : Int) = 1 := rfl
        rw [hn1]
        go_wp2_with fail
        refine (count_any wr.heap.size g k (.leaf 0) 0 w3 (hN.out ▸ hq3) trivial hk (by decide)).mono ?_
        rintro e w4 ⟨rfl, hb4⟩
        rw [← hN.out, hcn]
        replace hb4 := bthrough hb3 hb4 hb3.size
        go_wp2_with fail
        refine (awake_any w4).mono ?_
        rintro e w5 ⟨rfl, hb5⟩
        replace hb5 := bthrough hb4 hb5 hb4.size
        go_wp2
        go_ret
        exact ⟨rfl, hb5⟩
end Go.Proofs.Ytdpdkjpkehgdnaa
