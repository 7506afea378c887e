/-
  The law's played (of quad): its walk. For every list of calls.
-/
import Derived.Test.YtdpdkjpkehgdnaaQuP
namespace Go.Proofs.Ytdpdkjpkehgdnaa
open Go.RowKit

theorem powB_k {k : Nat} (hk : k ≤ 5) : powB (sd k) = true := by
  match k, hk with
  | 0, _ => rfl
  | 1, _ => rfl
  | 2, _ => rfl
  | 3, _ => rfl
  | 4, _ => rfl
  | 5, _ => rfl
theorem pow_32 {k : Nat} (hk : k ≤ 5) : 1 ≤ 2 ^ k ∧ 2 ^ k ≤ 32 :=
  ⟨Nat.one_le_two_pow, (Nat.pow_le_pow_right (by decide) hk : 2 ^ k ≤ 2 ^ 5)⟩

set_option maxRecDepth 100000 in
set_option maxHeartbeats 4000000 in
theorem played_any {B : Nat} (k : Nat) (hk : k ≤ 5) (A : Option Addr) (cap : Nat) (l : List Op5) (w : World) (hBw : B ≤ w.heap.size) (ho : OpsAt B w A l) (hl : l.length ≤ 1000) :
    Calls Try.prog 10 #[.int .i64 (sd k), .slice A l.length cap] w fun e w' => ∃ g vg, e = .returned (.tuple #[.pointer (some ⟨g, 0, none⟩), vg]) ∧
      QuadAt w' w.heap.size g (sd k) (playT k l) ∧ (playT k l).fits k ∧ GridIs w' w.heap.size (2 ^ k) (playF k l) vg ∧ Below w.heap.size w w' := by
  have hpk := powB_k hk
  have hp32 := pow_32 hk
  obtain ⟨s, hs⟩ : ∃ s, s = 2 ^ k := ⟨_, rfl⟩
  have hS := hid hs
  have hsd := hid (show sd k = (s : Int) by rw [hs]; rfl)
  rw [← hs] at hp32 ⊢
  clear hs
  have HO := hid ho
  clear ho
  go_enter Try.func10, Try.ntmps10
  go_wp2_with fail
  refine (new_yes (sd k) _ hpk).mono ?_
  rintro e w1 ⟨⟨g, rfl, hq⟩, hb1⟩
  have hsq := hid hq
  have hg1 := hq.low
  have hg2 := hq.lt
  clear hq
  have hs1 := hb1.size
  simp at hs1 hg1
  go_wp2_with fail
  have hrn := refNew_any s w1 hp32
  rw [← hsd.out] at hrn
  refine hrn.mono ?_
  clear hrn
  rintro e w2 ⟨vg, rfl, hgr, hb2⟩
  obtain ⟨g0, cap0, rfl, hI⟩ := hgr
  have hs2 := hb2.size
  go_wp2_with fail
  have c5 : ∀ i, w1.cell? ⟨w.heap.size, i, none⟩ = (w.alloc (.cells #[.int .i64 0, .slice none 0 0] 32)).cell? ⟨w.heap.size, i, none⟩ := fun i => (bcell hb1).1 _ _ (by simp)
  have f5 : ∀ i, w1.frozen? ⟨w.heap.size, i, none⟩ = (w.alloc (.cells #[.int .i64 0, .slice none 0 0] 32)).frozen? ⟨w.heap.size, i, none⟩ := fun i => (bcell hb1).2 _ _ (by simp)
  have hb12 : Below w.heap.size w w2 := (bstep (balloc (Below.refl _ _) _) hb1).trans (hb2.mono (by omega))
  have inv : PInv w w.heap.size w2.heap.size g k s (.leaf 0) (fun _ => 0) (w2.alloc (.cells #[.int .i64 (s : Int), .slice (some ⟨g0, 0, none⟩) (s * s) cap0] 32)) := by
    obtain ⟨F, hF⟩ := hsq.out.open
    have hba : Below w2.heap.size w2 (w2.alloc (.cells #[.int .i64 (s : Int), .slice (some ⟨g0, 0, none⟩) (s * s) cap0] 32)) := balloc (Below.refl _ _) _
    have hb13 := bthrough hb2 hba hs2
    have hi1 := hI.low
    have hi2 := hI.lt
    have hF3 := hF.below hb13
    have hFl := hF3.lt
    have hw5 : w.heap.size < w1.heap.size := by omega
    have e5 : ∀ i, (w2.alloc (.cells #[.int .i64 (s : Int), .slice (some ⟨g0, 0, none⟩) (s * s) cap0] 32)).cell? ⟨w.heap.size, i, none⟩ = (w.alloc (.cells #[.int .i64 0, .slice none 0 0] 32)).cell? ⟨w.heap.size, i, none⟩ := fun i => ((bcell hb13).1 _ _ hw5).trans (c5 i)
    have g5 : ∀ i, (w2.alloc (.cells #[.int .i64 (s : Int), .slice (some ⟨g0, 0, none⟩) (s * s) cap0] 32)).frozen? ⟨w.heap.size, i, none⟩ = (w.alloc (.cells #[.int .i64 0, .slice none 0 0] 32)).frozen? ⟨w.heap.size, i, none⟩ := fun i => ((bcell hb13).2 _ _ hw5).trans (f5 i)
    have hlo : ∀ c, F c → w.heap.size + 1 ≤ c ∧ c < w1.heap.size := fun c hc => by have := hF.bd c hc; simpa using this
    refine ⟨⟨F, ⟨by omega, hF3.lt, hF3.side, hF3.sq, hF3.out, fun c hc => ?_⟩, fun h => by have := hlo _ h; omega, fun h => by have := hlo _ h; omega, g0, cap0, fun h => by have := hlo _ h; omega, by omega, by omega, by omega, by simp [go_sem], by simp [go_sem], (hI.below hba).imp' ?_⟩, by simp [go_sem], by simp [go_sem], ?_, ?_, ?_, ?_, ⟨Nat.le_refl _, by simp; omega, by omega⟩, ⟨by omega, by simp, by omega, by omega⟩, hb12.trans (hba.mono (by omega)), trivial⟩
    · have := hlo c hc
      simp
      omega
    · omega
    · rw [e5]; simp [go_sem]
    · rw [e5]; simp [go_sem]
    · rw [g5]; simp [go_sem]
    · rw [g5]; simp [go_sem]
  generalize w2.alloc (.cells #[.int .i64 (s : Int), .slice (some ⟨g0, 0, none⟩) (s * s) cap0] 32) = W3 at inv ⊢
  clear hsq hI hb1 hb2 c5 f5 hb12 hpk
  have hS2 : ∀ (f : Nat → Int) (o : Op5), stepF k f o = if okSet (sd k) o.x o.y o.m o.n o.v = true then setF s o.x o.y o.m o.n o.v f else f := fun f o => by rw [hS.out]; rfl
  have HS2 := hid hS2
  clear hS2
  go_loopw [20] (fun s20 wr => ∃ i : Nat, i ≤ l.length ∧ s20 = .int .i64 (i : Int) ∧ PInv w w.heap.size w2.heap.size g k s (playT k (l.take i)) (playF k (l.take i)) wr) (fun s20 _ => l.length - (intOf s20).toNat)
  case atStart => exact ⟨0, Nat.zero_le _, rfl, inv⟩
  case round =>
    obtain ⟨i, hi, rfl, hin⟩ := hrel
    have hb5 := hin.b5
    have hb7 := hin.b7
    by_cases hlt : i < l.length
    · obtain ⟨A0, hA, hAB, x0, x1, x2, x3, x4⟩ := (HO.out.later (hin.below.mono hBw)) i l[i] (List.getElem?_eq_getElem hlt)
      subst hA
      rw [add_next A0 (i * 5) 0] at x1
      rw [add_next A0 (i * 5) 1] at x2
      rw [add_next A0 (i * 5) 2] at x3
      rw [add_next A0 (i * 5) 3] at x4
      simp only [Nat.zero_add, Nat.reduceAdd] at x1 x2 x3 x4
      have HT := hid (playT_succ k l i l[i] (List.getElem?_eq_getElem hlt))
      have HF := hid ((playF_succ k l i l[i] (List.getElem?_eq_getElem hlt)).trans (HS2.out _ _))
      generalize l[i] = o at x0 x1 x2 x3 x4 HT HF
      obtain ⟨ox, oy, om, on, ov⟩ := o
      dsimp only at x0 x1 x2 x3 x4 HT HF
      generalize playT k (l.take i) = t0 at hin HT
      generalize playF k (l.take i) = f0 at hin HF
      go_wp2_with fail
      have hw4 : Below wr.heap.size wr (wr.alloc (.cells #[.int .i64 ox, .int .i64 oy, .int .i64 om, .int .i64 on, .int .i64 ov] 26)) := balloc (Below.refl _ _) _
      have l4 : wr.heap.size < (wr.alloc (.cells #[.int .i64 ox, .int .i64 oy, .int .i64 om, .int .i64 on, .int .i64 ov] 26)).heap.size := by simp
      have z0 : (wr.alloc (.cells #[.int .i64 ox, .int .i64 oy, .int .i64 om, .int .i64 on, .int .i64 ov] 26)).cell? ⟨wr.heap.size, 0, none⟩ = some (.int .i64 ox) := by simp [go_sem]
      have z1 : (wr.alloc (.cells #[.int .i64 ox, .int .i64 oy, .int .i64 om, .int .i64 on, .int .i64 ov] 26)).cell? ⟨wr.heap.size, 1, none⟩ = some (.int .i64 oy) := by simp [go_sem]
      have z2 : (wr.alloc (.cells #[.int .i64 ox, .int .i64 oy, .int .i64 om, .int .i64 on, .int .i64 ov] 26)).cell? ⟨wr.heap.size, 2, none⟩ = some (.int .i64 om) := by simp [go_sem]
      have z3 : (wr.alloc (.cells #[.int .i64 ox, .int .i64 oy, .int .i64 om, .int .i64 on, .int .i64 ov] 26)).cell? ⟨wr.heap.size, 3, none⟩ = some (.int .i64 on) := by simp [go_sem]
      have z4 : (wr.alloc (.cells #[.int .i64 ox, .int .i64 oy, .int .i64 om, .int .i64 on, .int .i64 ov] 26)).cell? ⟨wr.heap.size, 4, none⟩ = some (.int .i64 ov) := by simp [go_sem]
      have in4 := hin.later hw4
      generalize (wr.alloc (.cells #[.int .i64 ox, .int .i64 oy, .int .i64 om, .int .i64 on, .int .i64 ov] 26)) = w4 at hw4 l4 z0 z1 z2 z3 z4 in4 ⊢
      have IN4 := hid in4
      have INR := hid hin
      clear hin in4 x0 x1 x2 x3 x4
      cases hok : okSet (sd k) ox oy om on ov with
      | false =>
        have ht : playT k (l.take (i + 1)) = t0 := by have := HT.out; simpa [stepT, hok] using this
        have hf : playF k (l.take (i + 1)) = f0 := by have := HF.out; simpa [hok] using this
        obtain ⟨F4, q1, _⟩ := IN4.out.quad
        refine (qset_no w.heap.size g (sd k) t0 ox oy om on ov w4 q1.quad hok).mono ?_
        rintro e w5 ⟨rfl, hb5⟩
        clear q1
        have IN5 := hid (IN4.out.later hb5)
        have e5 : ∀ j, w5.cell? ⟨wr.heap.size, j, none⟩ = w4.cell? ⟨wr.heap.size, j, none⟩ := fun j => (bcell hb5).1 _ _ l4
        have y0 := (e5 0).trans z0
        have y1 := (e5 1).trans z1
        have y2 := (e5 2).trans z2
        have y3 := (e5 3).trans z3
        have y4 := (e5 4).trans z4
        have l5 : wr.heap.size < w5.heap.size := Nat.lt_of_lt_of_le l4 hb5.size
        clear z0 z1 z2 z3 z4 e5
        go_wp2_with fail
        refine (within_any ox oy om on (sd k) _).mono ?_
        rintro e w6 ⟨rfl, hb6⟩
        have IN6 := hid (IN5.out.later hb6)
        have e6 : ∀ j, w6.cell? ⟨wr.heap.size, j, none⟩ = w5.cell? ⟨wr.heap.size, j, none⟩ := fun j => (bcell hb6).1 _ _ l5
        have z0 := (e6 0).trans y0
        have z1 := (e6 1).trans y1
        have z2 := (e6 2).trans y2
        have z3 := (e6 3).trans y3
        have z4 := (e6 4).trans y4
        clear y0 y1 y2 y3 y4 e6
        have hcs : (withinB ox oy om on (sd k) = false) ∨ (withinB ox oy om on (sd k) = true ∧ ov < 0) ∨ (withinB ox oy om on (sd k) = true ∧ ¬ ov < 0 ∧ 255 < ov) := by
          rw [okSet_within (by omega)] at hok
          cases hwi : withinB ox oy om on (sd k) with
          | false => exact .inl rfl
          | true =>
            right
            simp only [hwi, Bool.true_and, Bool.and_eq_false_iff, decide_eq_false_iff_not] at hok
            by_cases hv : ov < 0
            · exact .inl ⟨rfl, hv⟩
            · exact .inr ⟨rfl, hv, by omega⟩
        rcases hcs with hwi | ⟨hwi, hv⟩ | ⟨hwi, hv, hv2⟩
        · rw [hwi]
          go_wp2_with fail
          go_roundw
          case rel => exact ⟨i + 1, by omega, by go_num, by rw [ht, hf]; exact IN6.out⟩
          case measure => simp [intOf]; omega
        · rw [hwi]
          go_wp2_with fail
          go_roundw
          case rel => exact ⟨i + 1, by omega, by go_num, by rw [ht, hf]; exact IN6.out⟩
          case measure => simp [intOf]; omega
        · rw [hwi]
          have hv3 : decide (ov < 0) = false := by simpa using hv
          go_wp2_with fail
          go_roundw
          case rel => exact ⟨i + 1, by omega, by go_num, by rw [ht, hf]; exact IN6.out⟩
          case measure => simp [intOf]; omega
      | true =>
        have ht : playT k (l.take (i + 1)) = setT k 0 0 ox oy om on ov t0 := by have := HT.out; simpa [stepT, hok] using this
        have hf : playF k (l.take (i + 1)) = setF s ox oy om on ov f0 := by have := HF.out; simpa [hok] using this
        obtain ⟨F4, q1', q2, q3, g', cap', q4, q5, q6, q7, q8', q9', q10'⟩ := INR.out.quad
        have q1 := q1'.below hw4
        have hc7 : ∀ j, w4.cell? ⟨w2.heap.size, j, none⟩ = wr.cell? ⟨w2.heap.size, j, none⟩ := fun j => (bcell hw4).1 _ _ hb7.2.1
        have q8 := (hc7 0).trans q8'
        have q9 := (hc7 1).trans q9'
        have q10 := q10'.below hw4
        have hnb : ¬ F4 wr.heap.size := fun h => by have := (q1'.bd _ h).2; omega
        have hgr := q1'.lt
        clear q1' q8' q9' q10' hc7
        have hfit0 := IN4.out.fits
        refine (qset_yesF w.heap.size g k t0 F4 ox oy om on ov w4 q1 hfit0 hok).mono ?_
        rintro e w5 ⟨rfl, n1, kp⟩
        have IN5 := hid (IN4.out.set q1 q2 q3 q4 q5 q6 q7 q8 q9 q10 n1 kp (setT_fits k 0 0 ox oy om on ov t0 hfit0))
        have kb := kp.block wr.heap.size l4 hnb (by omega)
        have y0 := (cell_of_block kb 0).trans z0
        have y1 := (cell_of_block kb 1).trans z1
        have y2 := (cell_of_block kb 2).trans z2
        have y3 := (cell_of_block kb 3).trans z3
        have y4 := (cell_of_block kb 4).trans z4
        have l5 : wr.heap.size < w5.heap.size := Nat.lt_of_lt_of_le l4 kp.size
        clear z0 z1 z2 z3 z4 q1 q2 q3 q4 q5 q6 q7 q8 q9 q10 n1 kp kb hnb hgr
        have hwv : withinB ox oy om on (sd k) = true ∧ 0 ≤ ov ∧ ov ≤ 255 := by
          rw [okSet_within (by omega)] at hok
          simp only [Bool.and_eq_true, decide_eq_true_eq] at hok
          exact ⟨hok.1.1, hok.1.2, hok.2⟩
        obtain ⟨hwi, hv0, hv1⟩ := hwv
        have hrt : rightB ox oy om on = true := by
          simp only [withinB, Bool.and_eq_true] at hwi
          exact hwi.1.1
        obtain ⟨⟨a1, a2, a3, a4⟩, a5, a6, a7, a8⟩ := of_rightB hrt
        have hv3 : decide (ov < 0) = false := by simp; omega
        have hv4 : decide (255 < ov) = false := by simp; omega
        go_wp2_with fail
        refine (within_any ox oy om on (sd k) _).mono ?_
        rintro e w6 ⟨rfl, hb6⟩
        rw [hwi]
        have IN6 := hid (IN5.out.later hb6)
        have e6 : ∀ j, w6.cell? ⟨wr.heap.size, j, none⟩ = w5.cell? ⟨wr.heap.size, j, none⟩ := fun j => (bcell hb6).1 _ _ l5
        have z0 := (e6 0).trans y0
        have z1 := (e6 1).trans y1
        have z2 := (e6 2).trans y2
        have z3 := (e6 3).trans y3
        have z4 := (e6 4).trans y4
        clear y0 y1 y2 y3 y4 e6
        obtain ⟨F6, q1, q2, q3, g6, cap6, q4, q5, q6, q7, q8, q9, q10⟩ := IN6.out.quad
        clear q1 q2 q3 q4 q5 q6 q7
        go_wp2_with fail
        refine (refSet_any s ox oy om on ov _ g6 cap6 f0 w6 hp32 q10 (by omega) (by omega) (by omega) (by omega)).mono ?_
        rintro e w7 ⟨vg, rfl, ⟨g7, cap7, rfl, hI7⟩, hb7'⟩
        have IN7 := hid (IN6.out.grid hb7' (c2 := cap7) hI7)
        have hs7 := hb7'.size
        obtain ⟨F7, _, _, _, g8, cap8, _, _, _, _, p8, p9, _⟩ := (IN6.out.later hb7').quad
        have ff0 := (IN6.out.later hb7').f70
        have ff1 := (IN6.out.later hb7').f71
        clear hI7 q8 q9 q10
        go_wp2_with fail
        go_roundw
        case rel => exact ⟨i + 1, by omega, by go_num, by rw [ht, hf]; exact IN7.out⟩
        case measure => simp [intOf]; omega
    · obtain rfl : i = l.length := by omega
      rw [List.take_length] at hin
      have IN := hid hin
      obtain ⟨F, _, _, _, g', cap', _, _, _, q7, q8, q9, q10⟩ := hin.quad
      have f50 := hin.f50
      have f51 := hin.f51
      have c50 := hin.c50
      have c51 := hin.c51
      have hQ10 := hid q10
      clear hin q10 inv
      obtain ⟨W9, hW9⟩ : ∃ W9, W9 = ((wr.setCell ⟨w.heap.size, 0, none⟩ (.int .i64 (s : Int))).setCell ⟨w.heap.size, 1, none⟩ (.slice (some ⟨g', 0, none⟩) (s * s) cap')).drew := ⟨_, rfl⟩
      have hfin := IN.out.fin (.int .i64 (s : Int)) (.slice (some ⟨g', 0, none⟩) (s * s) cap')
      rw [← hW9] at hfin
      have d0 : W9.cell? ⟨w.heap.size, 0, none⟩ = some (.int .i64 (s : Int)) := by
        rw [hW9, World.cell?_drew, World.cell?_setCell_other _ _ _ _ (by simp), World.cell?_setCell_same _ _ _ c50]
      have d1 : W9.cell? ⟨w.heap.size, 1, none⟩ = some (.slice (some ⟨g', 0, none⟩) (s * s) cap') := by
        rw [hW9, World.cell?_drew, World.cell?_setCell_same (u := .slice none 0 0) _ _ _ (by rw [World.cell?_setCell_other _ _ _ _ (by simp)]; exact c51)]
      have HFIN := hid hfin
      clear hfin
      go_wp2_with fail
      go_region
      go_wp2
      rw [← hW9]
      refine bodyPost_ret (v := .tuple #[.pointer (some ⟨g, 0, none⟩), .agg #[.int .i64 (s : Int), .slice (some ⟨g', 0, none⟩) (s * s) cap']]) (by simp [results, Try.f10, go_sem, d0, d1]) rfl ?_
      exact ⟨g, _, rfl, HFIN.out.1, IN.out.fits, ⟨g', cap', rfl, HFIN.out.2.1 g' q7 _ hQ10.out⟩, HFIN.out.2.2⟩
end Go.Proofs.Ytdpdkjpkehgdnaa
