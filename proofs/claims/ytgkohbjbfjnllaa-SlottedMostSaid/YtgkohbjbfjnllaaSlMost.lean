/-
  The walk of the statement SlottedMost: it returns true, for every number and every list of slots.
-/
import Derived.Test.YtgkohbjbfjnllaaSlM
import Derived.Test.YtgkohbjbfjnllaaSlN
namespace Go.Proofs.Ytgkohbjbfjnllaa
open Go.RowKit

theorem rec_one (W : World) (b : UInt8) (z : Int) (hz : z = (b.toNat : Int)) : RecAt (W.alloc (.cells #[.int .u8 z] 5)) (.slice (some ⟨W.heap.size, 0, none⟩) 1 1) [b] :=
  .inr ⟨W.heap.size, 0, 1, _, (0, 0), rfl, Nat.le_refl _, heap_alloc_new W _, fun j u hu => by
    rcases j with _ | j
    · simp at hu ⊢
      subst hu
      exact hz
    · simp at hu⟩

theorem most_put {B bp : Nat} {sv : Value} (k : Nat) (hk : k < 80) (w : World) (hB : B ≤ w.heap.size) (hp : PageAt w B bp 400 sv (recsM k)) :
    Calls Try.prog 10 #[.pointer (some ⟨bp, 0, none⟩), .slice (some ⟨w.heap.size, 0, none⟩) 1 1] (w.alloc (.cells #[.int .u8 ((k : Int) + 1)] 5)) fun e w' => e = .returned (.tuple #[.int .i64 (if k < 63 then (k : Int) else 0), .int .i64 (if k < 63 then 0 else 21)]) ∧ (∃ sv', PageAt w' B bp 400 sv' (recsM (k + 1))) ∧ Touch B bp w w' := by
  have hb : Below w.heap.size w (w.alloc (.cells #[.int .u8 ((k : Int) + 1)] 5)) := balloc (Below.refl _ _) _
  have hg := recsM_good k
  have ht := hg.tot
  refine (put_any bp 400 sv (recsM k) _ [UInt8.ofNat (k + 1)] _ (Nat.le_trans hB hb.size) (hp.kept hb) (by omega) (by omega) ((rec_one w (UInt8.ofNat (k + 1)) _ (by simp; omega)).stays (hp.kept hb).1) (by simp) (by simp)).mono ?_
  rintro e w' ⟨i, c, sv', recs', rfl, hp', ht', hx⟩
  have hf : fullB 400 (recsM k) [UInt8.ofNat (k + 1)].length = decide (min k 63 = 63) := by rw [← recsM_cnt k]; exact hg.full.1
  by_cases h : k < 63
  · rw [hf, decide_eq_false (by omega)] at hx
    rcases hx with ⟨hx, _⟩ | ⟨_, rfl, rfl, rfl⟩
    · cases hx
    · rw [if_pos h, if_pos h, recsM_empty, Nat.min_eq_left (by omega)]
      rw [recsM_put k h] at hp'
      exact ⟨rfl, ⟨_, hp'⟩, (Touch.of_below hb hB).trans ht'⟩
  · rw [hf, decide_eq_true (by omega)] at hx
    rcases hx with ⟨_, rfl, rfl, rfl⟩ | ⟨hx, _⟩
    · rw [if_neg h, if_neg h]
      rw [recsM_stop k (by omega)] at hp'
      exact ⟨rfl, ⟨_, hp'⟩, (Touch.of_below hb hB).trans ht'⟩
    · cases hx

theorem most_last {B bp : Nat} {sv : Value} {recs : List (List UInt8)} {w : World} (hB : B ≤ w.heap.size) (hp : PageAt w B bp 400 sv recs) (hg : GoodM recs) :
    Calls Try.prog 10 #[.pointer (some ⟨bp, 0, none⟩), .slice (some ⟨w.heap.size, 0, none⟩) 1 1] (w.alloc (.cells #[.int .u8 9] 5)) fun e w' => e = .returned (.tuple #[.int .i64 (if cntV recs = 63 then 0 else (emptyAt recs : Int)), .int .i64 (if cntV recs = 63 then 21 else 0)]) ∧ Below B w w' := by
  have hb : Below w.heap.size w (w.alloc (.cells #[.int .u8 9] 5)) := balloc (Below.refl _ _) _
  have ht := hg.tot
  refine (put_any bp 400 sv recs _ [9] _ (Nat.le_trans hB hb.size) (hp.kept hb) (by omega) (by omega) ((rec_one w 9 _ rfl).stays (hp.kept hb).1) (by simp) (by simp)).mono ?_
  rintro e w' ⟨i, c, sv', recs', rfl, hp', ht', hx⟩
  have hf : fullB 400 recs ([9] : List UInt8).length = decide (cntV recs = 63) := hg.full.1
  by_cases h : cntV recs = 63
  · rw [hf, decide_eq_true h] at hx
    rcases hx with ⟨_, rfl, rfl, rfl⟩ | ⟨hx, _⟩
    · rw [if_pos h, if_pos h]
      exact ⟨rfl, ((Touch.of_below (bp := bp) hb hB).trans ht').below⟩
    · cases hx
  · rw [hf, decide_eq_false h] at hx
    rcases hx with ⟨hx, _⟩ | ⟨_, rfl, rfl, rfl⟩
    · cases hx
    · rw [if_neg h, if_neg h]
      exact ⟨rfl, ((Touch.of_below (bp := bp) hb hB).trans ht').below⟩

set_option maxHeartbeats 4000000 in
theorem lawMost (n : Int) (a : Option Addr) (len cap : Nat) (zs : List Int) (w : World) (hl : len ≤ maxLen) (ha : ∀ j, j < len → ∃ A, a = some A ∧ w.cell? (A.add j) = some (.int .i64 (zs.getD j 0))) :
    Calls Try.prog 3 #[.int .i64 n, .slice a len cap] w fun e w' => e = .returned (.bool true) ∧ Below w.heap.size w w' := by
  have hl : len ≤ 9223372036854775807 := hl
  by_cases h0 : n < 0 ∨ 80 < n ∨ 80 < len
  ·
    go_enter Try.func3, Try.ntmps3
    go_wp2_with fail
    all_goals
      refine (awake_any _).mono ?_
      rintro e w1 ⟨rfl, hb⟩
      go_wp2
      go_ret
      exact ⟨rfl, hb⟩
  · have hn1 : decide (n < 0) = false := decide_eq_false (by omega)
    have hn2 : decide (n > 80) = false := decide_eq_false (by omega)
    have hn3 : decide ((len : Int) > 80) = false := decide_eq_false (by omega)
    obtain ⟨N, rfl⟩ := Int.eq_ofNat_of_zero_le (show 0 ≤ n by omega)
    have hN : N ≤ 80 := by omega
    have hL : len ≤ 80 := by omega
    have HA := hid ha
    clear h0 ha
    go_enter Try.func3, Try.ntmps3
    go_wp2_with fail
    refine (new_any 400 _ (by omega)).mono ?_
    rintro e w1 ⟨rfl, hw1⟩
    have hp1 := page_new w 400
    rw [← hw1] at hp1
    have HP1 := hid hp1
    have HB1 : Hid (Below w.heap.size w w1) := hid (by rw [hw1]; exact balloc (Below.refl _ _) _)
    clear hw1 hp1
    go_wp2_with fail
    go_loopw [30] (fun s30 wr => ∃ k : Nat, k ≤ N ∧ s30 = .int .i64 k ∧ (∃ sv, PageAt wr w.heap.size w.heap.size 400 sv (recsM k)) ∧ Below w.heap.size w wr) (fun s30 _ => N - (intOf s30).toNat)
    case atStart => exact ⟨0, Nat.zero_le _, rfl, ⟨_, HP1.out⟩, HB1.out⟩
    case round =>
      obtain ⟨k, hk, rfl, ⟨sv, hp⟩, hb⟩ := hrel
      have HP := hid hp
      have HB := hid hb
      clear hp hb
      by_cases hlt : k < N
      · by_cases h63 : k < 63
        · have hput := most_put k (by omega) wr HB.out.size HP.out
          rw [if_pos h63, if_pos h63] at hput
          go_wp2_with fail
          refine hput.mono ?_
          rintro e w2 ⟨rfl, ⟨sv2, hp2⟩, ht2⟩
          have HP2 := hid hp2
          have HT2 := hid ht2
          clear hp2 ht2 hput
          go_wp2
          go_roundw
          case rel => exact ⟨k + 1, by omega, by go_num, ⟨sv2, HP2.out⟩, HB.out.trans HT2.out.below⟩
          case measure => simp [intOf]; omega
        · have hput := most_put k (by omega) wr HB.out.size HP.out
          rw [if_neg h63, if_neg h63] at hput
          go_wp2_with fail
          refine hput.mono ?_
          rintro e w2 ⟨rfl, ⟨sv2, hp2⟩, ht2⟩
          have HP2 := hid hp2
          have HT2 := hid ht2
          have hroom := room_any w.heap.size 400 sv2 (recsM (k + 1)) w2 hp2 (by have := (recsM_good (k + 1)).tot; omega) (by omega)
          rw [(recsM_good (k + 1)).full.2 (by rw [recsM_cnt]; omega)] at hroom
          clear hp2 ht2 hput
          go_wp2_with fail
          refine hroom.mono ?_
          rintro e w3 ⟨rfl, hb3, hh3⟩
          have HP3 := hid (HP2.out.same hh3)
          have HB3 := hid (HB.out.trans (HT2.out.below.trans (hb3.mono (HB.out.trans HT2.out.below).size)))
          clear hroom hb3 hh3
          go_wp2
          go_roundw
          case rel => exact ⟨k + 1, by omega, by go_num, ⟨sv2, HP3.out⟩, HB3.out⟩
          case measure => simp [intOf]; omega
      · obtain rfl : k = N := by omega
        have hmin : (min (k : Int) 63) = ((cntV (recsM k) : Nat) : Int) := by rw [recsM_cnt]; omega
        go_wp2_with fail
        all_goals
          go_loopw [9, 71] (fun s9 s71 wr2 => ∃ j : Nat, j ≤ len ∧ s71 = .int .i64 j ∧ (∃ recs sv, PageAt wr2 w.heap.size w.heap.size 400 sv recs ∧ GoodM recs ∧ s9 = .int .i64 (cntV recs : Int)) ∧ Below w.heap.size w wr2) (fun _ s71 _ => len - (intOf s71).toNat)
          case atStart => exact ⟨0, Nat.zero_le _, rfl, ⟨_, _, HP.out, recsM_good k, by rw [← hmin]; first | rfl | (congr 1; omega)⟩, HB.out⟩
          case round =>
            obtain ⟨j, hj, rfl, ⟨recs, sv2, hp2, hg, rfl⟩, hb2⟩ := hrel
            have HP2 := hid hp2
            have HB2 := hid hb2
            have HG := hid hg
            have hcl := cntV_le recs
            have hrl := hg.len
            clear hp2 hb2 hg hmin
            by_cases hjl : j < len
            · obtain ⟨A, rfl, hcell⟩ := HA.out j hjl
              have hcell2 := (HB2.out.cell (p := A.add j) (World.block_lt_of_cell? _ _ hcell)).trans hcell
              have hdel := del_any w.heap.size 400 sv2 recs (zs.getD j 0) _ HP2.out (by omega)
              have hgd := hid (HG.out.del (zs.getD j 0))
              clear hcell
              generalize zs.getD j 0 = z at hcell2 hdel hgd
              cases hh : hasV recs z
              · rw [hh] at hdel
                go_wp2_with fail
                refine hdel.mono ?_
                rintro e w4 ⟨rfl, ⟨sv4, hp4⟩, ht4⟩
                have HP4 := hid hp4
                have HT4 := hid ht4
                clear hp4 ht4 hdel
                go_wp2
                go_roundw
                case rel => exact ⟨j + 1, by omega, by go_num, ⟨_, sv4, HP4.out, hgd.out.1, by have := hgd.out.2; rw [hh] at this; rw [← this]; rfl⟩, HB2.out.trans HT4.out.below⟩
                case measure => simp [intOf]; omega
              · rw [hh] at hdel
                go_wp2_with fail
                refine hdel.mono ?_
                rintro e w4 ⟨rfl, ⟨sv4, hp4⟩, ht4⟩
                have HP4 := hid hp4
                have HT4 := hid ht4
                clear hp4 ht4 hdel
                go_wp2
                go_roundw
                case rel => exact ⟨j + 1, by omega, by go_num, ⟨_, sv4, HP4.out, hgd.out.1, by have := hgd.out.2; rw [hh] at this; rw [if_pos rfl] at this; congr 1; omega⟩, HB2.out.trans HT4.out.below⟩
                case measure => simp [intOf]; omega
            · obtain rfl : j = len := by omega
              have hlen := len_any w.heap.size 400 sv2 recs _ HP2.out (by have := HG.out.tot; omega)
              rw [idxs_cnt] at hlen
              go_wp2_with fail
              refine hlen.mono ?_
              rintro e w4 ⟨rfl, hb4⟩
              have HP4 := hid (HP2.out.kept hb4)
              have HB4 := hid (HB2.out.trans (hb4.mono HB2.out.size))
              clear hb4 hlen
              have hfin := most_last HB4.out.size HP4.out HG.out
              go_wp2_with fail
              by_cases h63 : cntV recs = 63
              · rw [if_pos h63, if_pos h63] at hfin
                refine hfin.mono ?_
                rintro e w5 ⟨rfl, hb5⟩
                have HB5 := hid (HB4.out.trans hb5)
                clear hb5 hfin
                rw [h63]
                go_wp2_with fail
                refine (awake_any _).mono ?_
                rintro e w6 ⟨rfl, hb6⟩
                have HB6 := hid (HB5.out.trans (hb6.mono HB5.out.size))
                go_wp2
                go_ret
                exact ⟨rfl, HB6.out⟩
              · rw [if_neg h63, if_neg h63] at hfin
                refine hfin.mono ?_
                rintro e w5 ⟨rfl, hb5⟩
                have HB5 := hid (HB4.out.trans hb5)
                have hlt63 : decide ((cntV recs : Int) < 63) = true := decide_eq_true (by omega)
                clear hb5 hfin h63
                go_wp2_with fail
                refine (awake_any _).mono ?_
                rintro e w6 ⟨rfl, hb6⟩
                have HB6 := hid (HB5.out.trans (hb6.mono HB5.out.size))
                go_wp2
                go_ret
                exact ⟨rfl, HB6.out⟩
end Go.Proofs.Ytgkohbjbfjnllaa
