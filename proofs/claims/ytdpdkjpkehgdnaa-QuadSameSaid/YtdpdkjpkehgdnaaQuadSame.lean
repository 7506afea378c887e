/-
  The walk of the statement QuadSame: it returns true, for every side and all lists of calls.
-/
import Derived.Test.YtdpdkjpkehgdnaaQuCo
import Derived.Test.YtdpdkjpkehgdnaaQuEq
import Derived.Test.YtdpdkjpkehgdnaaQuSm
import Derived.Test.YtdpdkjpkehgdnaaQuQ
import Derived.Test.YtdpdkjpkehgdnaaQuZ
import Derived.Test.YtdpdkjpkehgdnaaQuN
namespace Go.Proofs.Ytdpdkjpkehgdnaa
open Go.RowKit

theorem QuadAt.later {W W' : World} {B N g : Nat} {side : Int} {t : Sq} (h : QuadAt W N g side t) (k : Below B W W') (hB : W.heap.size ≤ B) : QuadAt W' N g side t := h.below (k.mono hB)

theorem own_bat {w : World} {base : Nat} {v : Value} {l : List UInt8} (h : w.ownsRow base 5 1 v l.length (cellsB l)) (hp : 0 < l.length) : BAt w w.heap.size v l := by
  obtain ⟨g, cap, hv, _, hgl, hc⟩ := own_get h hp
  have hle : l.length ≤ cap := by
    obtain ⟨_, ⟨_, h3⟩ | ⟨g', cap', cur, h2, _, _, h5, _⟩⟩ := h
    · omega
    · rw [hv] at h2
      cases h2
      exact h5
  subst hv
  exact .inr ⟨⟨g, 0, none⟩, cap, rfl, hle, fun _ => hgl, fun j u hu => hc j u hu⟩

set_option maxRecDepth 100000 in
set_option maxHeartbeats 1000000 in
theorem same_short (n : Int) (A A2 : Option Addr) (len cap len2 cap2 : Nat) (w : World) (hs : (n < 0 ∨ 5 < n) ∨ ((0 ≤ n ∧ n ≤ 5) ∧ (20 < len ∨ 20 < len2))) (hlen : len ≤ 9223372036854775807) (hlen2 : len2 ≤ 9223372036854775807) :
    Calls Try.prog 7 #[.int .i64 n, .slice A len cap, .slice A2 len2 cap2] w fun e w' => e = .returned (.bool true) ∧ Below w.heap.size w w' := by
  rcases hs with hs | ⟨hn, hs⟩
  ·
    go_enter Try.func7, Try.ntmps7
    go_wp2_with fail
    refine (sides_no n _ hs).mono ?_
    rintro e w1 ⟨rfl, hbw1⟩
    obtain ⟨hcw1, hfw1⟩ := bcell hbw1
    have hsw1 := hbw1.size
    try simp at hcw1 hfw1 hsw1
    go_wp2_with fail
    refine (awake_any _).mono ?_
    rintro e w2 ⟨rfl, hbw2⟩
    obtain ⟨hcw2, hfw2⟩ := bcell hbw2
    have hsw2 := hbw2.size
    try simp at hcw2 hfw2 hsw2
    go_wp2
    go_ret
    refine ⟨rfl, ?_⟩
    repeat' (first | with_reducible assumption | with_reducible refine Below.setCell ?_ ?_ _ | with_reducible refine below_drewN ?_ _ | with_reducible refine Below.drew ?_ | with_reducible refine balloc ?_ _ | with_reducible exact Below.refl _ _ | with_reducible refine bstep ?_ (by assumption) | with_reducible refine Below.alloc ?_ ?_ _ | with_reducible refine bthrough ?_ (by assumption) ?_)
    all_goals (first | omega | (simp; done) | (simp; omega))
  · obtain ⟨k, rfl⟩ : ∃ k : Nat, n = k := ⟨n.toNat, by omega⟩
    have hk : k ≤ 5 := by omega
    have hp := sd_pos k
    have hne : (sd k == 0) = false := by simp; omega
    by_cases h1 : 20 < len
    · have hgt : decide ((20 : Int) < (len : Int)) = true := by simp; omega
      clear h1 hs
      go_enter Try.func7, Try.ntmps7
      go_wp2_with fail
      refine (sides_yes k _ hk).mono ?_
      rintro e w1 ⟨rfl, hbw1⟩
      obtain ⟨hcw1, hfw1⟩ := bcell hbw1
      have hsw1 := hbw1.size
      try simp at hcw1 hfw1 hsw1
      go_wp2_with fail
      refine (awake_any _).mono ?_
      rintro e w2 ⟨rfl, hbw2⟩
      obtain ⟨hcw2, hfw2⟩ := bcell hbw2
      have hsw2 := hbw2.size
      try simp at hcw2 hfw2 hsw2
      go_wp2
      go_ret
      refine ⟨rfl, ?_⟩
      repeat' (first | with_reducible assumption | with_reducible refine Below.setCell ?_ ?_ _ | with_reducible refine below_drewN ?_ _ | with_reducible refine Below.drew ?_ | with_reducible refine balloc ?_ _ | with_reducible exact Below.refl _ _ | with_reducible refine bstep ?_ (by assumption) | with_reducible refine Below.alloc ?_ ?_ _ | with_reducible refine bthrough ?_ (by assumption) ?_)
      all_goals (first | omega | (simp; done) | (simp; omega))
    · have hgt : decide ((20 : Int) < (len : Int)) = false := by simp; omega
      have hgt2 : decide ((20 : Int) < (len2 : Int)) = true := by simp; omega
      clear h1 hs
      go_enter Try.func7, Try.ntmps7
      go_wp2_with fail
      refine (sides_yes k _ hk).mono ?_
      rintro e w1 ⟨rfl, hbw1⟩
      obtain ⟨hcw1, hfw1⟩ := bcell hbw1
      have hsw1 := hbw1.size
      try simp at hcw1 hfw1 hsw1
      go_wp2_with fail
      refine (awake_any _).mono ?_
      rintro e w2 ⟨rfl, hbw2⟩
      obtain ⟨hcw2, hfw2⟩ := bcell hbw2
      have hsw2 := hbw2.size
      try simp at hcw2 hfw2 hsw2
      go_wp2
      go_ret
      refine ⟨rfl, ?_⟩
      repeat' (first | with_reducible assumption | with_reducible refine Below.setCell ?_ ?_ _ | with_reducible refine below_drewN ?_ _ | with_reducible refine Below.drew ?_ | with_reducible refine balloc ?_ _ | with_reducible exact Below.refl _ _ | with_reducible refine bstep ?_ (by assumption) | with_reducible refine Below.alloc ?_ ?_ _ | with_reducible refine bthrough ?_ (by assumption) ?_)
      all_goals (first | omega | (simp; done) | (simp; omega))

set_option maxRecDepth 100000 in
set_option maxHeartbeats 4000000 in
theorem same_long (k : Nat) (hk : k ≤ 5) (A A2 : Option Addr) (cap cap2 : Nat) (l more : List Op5) (w : World) (ho : OpsAt w.heap.size w A l) (ho2 : OpsAt w.heap.size w A2 more) (hl : l.length ≤ 20) (hl2 : more.length ≤ 20) :
    Calls Try.prog 7 #[.int .i64 (k : Int), .slice A l.length cap, .slice A2 more.length cap2] w fun e w' => e = .returned (.bool true) ∧ Below w.heap.size w w' := by
  have hk8 : k ≤ 8 := by omega
  have hp32 := pow_32 hk
  obtain ⟨s, hs⟩ : ∃ s, s = 2 ^ k := ⟨_, rfl⟩
  have hsd : sd k = (s : Int) := by rw [hs]; rfl
  obtain ⟨T, hT⟩ : ∃ T, T = s * s := ⟨_, rfl⟩
  have hsides : ∀ w', Calls Try.prog 8 #[.int .i64 (k : Int)] w' fun e w'' => e = .returned (.int .i64 (s : Int)) ∧ Below w'.heap.size w' w'' := fun w' => by
    rw [← hsd]
    exact sides_yes k w' hk
  have hplay : ∀ (A : Option Addr) (cap : Nat) (l : List Op5), OpsAt w.heap.size w A l → l.length ≤ 20 → ∀ w', Below w.heap.size w w' → Calls Try.prog 10 #[.int .i64 (s : Int), .slice A l.length cap] w' fun e w'' => ∃ g g' cap', e = .returned (.tuple #[.pointer (some ⟨g, 0, none⟩), .agg #[.int .i64 (s : Int), .slice (some ⟨g', 0, none⟩) T cap']]) ∧
      QuadAt w'' w'.heap.size g (sd k) (playT k l) ∧ (playT k l).fits k ∧ IntsAt w'' w'.heap.size g' T (playF k l) ∧ Below w'.heap.size w' w'' := fun A cap l ho hl w' b => by
    rw [← hsd]
    refine (played_any (B := w.heap.size) k hk A cap l w' b.size (ho.later b) (by omega)).mono ?_
    rintro e w'' ⟨g, vg, e1, e2, e3, ⟨g', cap', e4, e5⟩, e6⟩
    refine ⟨g, g', cap', ?_, e2, e3, by rw [hT, hs]; exact e5, e6⟩
    rw [e1, e4, hT, hs]
    rfl
  have HPA := hid (hplay A cap l ho hl)
  have HPB := hid (hplay A2 cap2 more ho2 hl2)
  have HSI := hid hsides
  have HS := hid hs
  have HT := hid hT
  have HSD := hid hsd
  rw [← hs] at hp32
  have hT4 : T ≤ 1024 := by rw [hT]; exact Nat.mul_le_mul hp32.2 hp32.2
  have hne : ((s : Int) == 0) = false := by simp; omega
  have hgt : decide ((20 : Int) < (l.length : Int)) = false := by simp; omega
  have hgt2 : decide ((20 : Int) < (more.length : Int)) = false := by simp; omega
  clear hs hT hsd hplay hsides ho ho2
  go_enter Try.func7, Try.ntmps7
  go_wp2_with fail
  refine (HSI.out _).mono ?_
  rintro e w1 ⟨rfl, hb1⟩
  have hs1 := hb1.size
  go_wp2_with fail
  refine (HPA.out _ hb1).mono ?_
  rintro e w2 ⟨ga, ia, ca, rfl, hqa, hfa, hIa, hb2⟩
  have hs2 := hb2.size
  have hbb2 : Below w.heap.size w w2 := bthrough hb1 hb2 hs1
  have hb3 : Below w2.heap.size w2 (w2.alloc (.cells #[.int .i64 (s : Int), .slice (some ⟨ia, 0, none⟩) T ca] 32)) := balloc (Below.refl _ _) _
  have hc9 : ∀ j, (w2.alloc (.cells #[.int .i64 (s : Int), .slice (some ⟨ia, 0, none⟩) T ca] 32)).cell? ⟨w2.heap.size, j, none⟩ = (#[Value.int .i64 (s : Int), .slice (some ⟨ia, 0, none⟩) T ca] : Array Value)[j]? := fun j => World.cell?_alloc_new _ _ _ _
  have hs3 : (w2.alloc (.cells #[.int .i64 (s : Int), .slice (some ⟨ia, 0, none⟩) T ca] 32)).heap.size = w2.heap.size + 1 := by simp
  go_upto_region 5 with fail
  generalize w2.alloc (.cells #[.int .i64 (s : Int), .slice (some ⟨ia, 0, none⟩) T ca] 32) = w3 at hb3 hc9 hs3 ⊢
  have c91 := hc9 1
  simp at c91
  have hbb3 : Below w.heap.size w w3 := bthrough hbb2 hb3 hbb2.size
  have HQA3 := hid (hqa.below hb3)
  have HIA3 := hid (hIa.below hb3)
  obtain ⟨b9, hb9⟩ : ∃ b9, b9 = w2.heap.size := ⟨_, rfl⟩
  rw [← hb9] at c91 hs3 ⊢
  clear hc9 hqa hIa hb2 hb3 hb9 hbb2
  go_wp2_with fail
  refine (HPB.out _ hbb3).mono ?_
  rintro e w4 ⟨gb, ib, cb, rfl, hqb, hfb, hIb, hb4⟩
  have hs4 := hb4.size
  have hbb4 : Below w.heap.size w w4 := bthrough hbb3 hb4 hbb3.size
  have hb5 : Below w4.heap.size w4 (w4.alloc (.cells #[.int .i64 (s : Int), .slice (some ⟨ib, 0, none⟩) T cb] 32)) := balloc (Below.refl _ _) _
  have hc11 : ∀ j, (w4.alloc (.cells #[.int .i64 (s : Int), .slice (some ⟨ib, 0, none⟩) T cb] 32)).cell? ⟨w4.heap.size, j, none⟩ = (#[Value.int .i64 (s : Int), .slice (some ⟨ib, 0, none⟩) T cb] : Array Value)[j]? := fun j => World.cell?_alloc_new _ _ _ _
  have hs5 : (w4.alloc (.cells #[.int .i64 (s : Int), .slice (some ⟨ib, 0, none⟩) T cb] 32)).heap.size = w4.heap.size + 1 := by simp
  go_upto_region 6 with fail
  generalize w4.alloc (.cells #[.int .i64 (s : Int), .slice (some ⟨ib, 0, none⟩) T cb] 32) = w5 at hb5 hc11 hs5 ⊢
  have c111 := hc11 1
  simp at c111
  have hb35 : Below w3.heap.size w3 w5 := bthrough hb4 hb5 hs4
  have hbb5 : Below w.heap.size w w5 := bthrough hbb4 hb5 hbb4.size
  have HQA5 := hid (HQA3.out.below hb35)
  have HIA5 := hid (HIA3.out.below hb35)
  have HQB5 := hid (hqb.below hb5)
  have HIB5 := hid (hIb.below hb5)
  have d91 := ((bcell hb35).1 b9 1 (by omega)).trans c91
  obtain ⟨b11, hb11⟩ : ∃ b11, b11 = w4.heap.size := ⟨_, rfl⟩
  rw [← hb11] at c111 hs5 ⊢
  have l9 : b9 < w5.heap.size := by omega
  have l11 : b11 < w5.heap.size := by omega
  clear hc11 hqb hIb hb4 hb5 hb11 hbb3 hbb4 c91 hb35 HQA3 HIA3 hb1
  go_wp2_with fail
  go_loopw [12, 55] (fun s12 s55 wr => ∃ i : Nat, i ≤ T ∧ s55 = .int .i64 (i : Int) ∧ s12 = .bool (eqTo (playF k l) (playF k more) i) ∧ Below w5.heap.size w5 wr) (fun _ s55 _ => T - (intOf s55).toNat)
  case atStart => exact ⟨0, Nat.zero_le _, rfl, rfl, Below.refl _ _⟩
  case round =>
    obtain ⟨i, hi, rfl, rfl, hB⟩ := hrel
    have hsr := hB.size
    by_cases hlt : i < T
    · have ea := (HIA5.out.below hB).cell i hlt
      have eb := (HIB5.out.below hB).cell i hlt
      have x9 := ((bcell hB).1 b9 1 l9).trans d91
      have x11 := ((bcell hB).1 b11 1 l11).trans c111
      have hstep : eqTo (playF k l) (playF k more) (i + 1) = (eqTo (playF k l) (playF k more) i && (playF k l i == playF k more i)) := rfl
      generalize playF k l i = va at ea hstep
      generalize playF k more i = vb at eb hstep
      cases he : eqTo (playF k l) (playF k more) i with
      | false =>
        rw [he] at hstep
        go_wp2_with fail
        go_quiet (fail)
        go_wp2_with fail
        go_roundw
        case rel => exact ⟨i + 1, by omega, by go_num, by rw [hstep]; rfl, hB.trans (below_drewN (Below.refl _ _) _)⟩
        case measure => simp [intOf]; omega
      | true =>
        rw [he] at hstep
        go_wp2_with fail
        go_quiet (fail)
        go_wp2_with fail
        go_roundw
        case rel => exact ⟨i + 1, by omega, by go_num, by rw [hstep]; simp, hB.trans (below_drewN (Below.refl _ _) _)⟩
        case measure => simp [intOf]; omega
    · have hiT : i = T := by omega
      subst i
      have HQAr := hid (HQA5.out.below hB)
      have HQBr := hid (HQB5.out.below hB)
      have hbbr : Below w.heap.size w wr := bthrough hbb5 hB hbb5.size
      have hokA : okS (playT k l) := by
        obtain ⟨F, h, _⟩ := HQAr.out.root
        exact h.ok
      have hokB : okS (playT k more) := by
        obtain ⟨F, h, _⟩ := HQBr.out.root
        exact h.ok
      have hlA := bytes_len hk (sameG_play l) (canon_play k l) hfa
      have hlB := bytes_len hk (sameG_play more) (canon_play k more) hfb
      have hT2 : T = 2 ^ k * 2 ^ k := by rw [HT.out, HS.out]
      have hEq : decide (bytesT (playT k l) = bytesT (playT k more)) = eqTo (playF k l) (playF k more) T := by
        rw [Bool.eq_iff_iff, decide_eq_true_iff, eqTo_iff, hT2]
        exact same_iff hk8 (sameG_play l) (sameG_play more) (canon_play k l) (canon_play k more) hfa hfb hokA hokB
      have HEQ := hid hEq
      have HT2 := hid hT2
      have hbd := playF_bd k l 0
      have hok0 : okSet (sd k) 0 0 1 1 (255 - playF k l 0) = true := by
        have h1 := sd_pos k
        have h2 := sd_le8 hk8
        simp [okSet, inB, rightB, sideB]
        omega
      have hnext : setT k 0 0 0 0 1 1 (255 - playF k l 0) (playT k l) = playT k (l ++ [⟨0, 0, 1, 1, 255 - playF k l 0⟩]) := (playT_snoc hok0).symm
      have hfC : (playT k (l ++ [⟨0, 0, 1, 1, 255 - playF k l 0⟩])).fits k := by
        rw [← hnext]
        exact setT_fits k 0 0 0 0 1 1 _ _ hfa
      have hlC := bytes_len hk (sameG_play (l ++ [⟨0, 0, 1, 1, 255 - playF k l 0⟩])) (canon_play k _) hfC
      have hneC : okS (playT k (l ++ [⟨0, 0, 1, 1, 255 - playF k l 0⟩])) → ¬ bytesT (playT k (l ++ [⟨0, 0, 1, 1, 255 - playF k l 0⟩])) = bytesT (playT k l) := fun hokC e => by
        have h0 := (same_iff hk8 (sameG_play _) (sameG_play l) (canon_play k _) (canon_play k l) hfC hfa hokC hokA).1 e 0 (by rw [← HT2.out, HT.out]; exact Nat.mul_pos hp32.1 hp32.1)
        have h1 : playF k (l ++ [⟨0, 0, 1, 1, 255 - playF k l 0⟩]) 0 = 255 - playF k l 0 := by
          rw [playF_snoc hok0]
          simp [setF]
        omega
      have hat : onlyV (lvs k 0 0 0 0 1 1 (playT k l)) = (playF k l 0, true) := by
        have := at_tile hk (sameG_play l) hfa (i := 0) (by rw [← HT2.out, HT.out]; exact Nat.mul_pos hp32.1 hp32.1)
        simpa using this
      have HAT := hid hat
      have HOK := hid hok0
      have HNX := hid hnext
      have HNC := hid hneC
      have hfront : Front k (bytesT (playT k l)) (playT k l) [] := ⟨by simp, hfa, canon_play k l, hokA⟩
      have HFR := hid hfront
      generalize playF k l 0 = v0 at hbd HAT HOK HNX HNC hfC hlC
      generalize playT k (l ++ [⟨0, 0, 1, 1, 255 - v0⟩]) = tc at HNX HNC hfC hlC
      generalize eqTo (playF k l) (playF k more) T = same at HEQ ⊢
      generalize playT k l = ta at *
      generalize playT k more = tb at *
      clear hEq hT2 hok0 hnext hneC hat hfront HQA5 HQB5 HIA5 HIB5 d91 c111 HPA HPB
      go_wp2_with fail
      refine (bytes_quad _ ga _ _ wr HQAr.out hlA).mono ?_
      rintro e w6 ⟨v6, rfl, ho6, hb6⟩
      have hbt : BAt w6 w6.heap.size v6 (bytesT ta) := own_bat ho6 (bytesT_pos _)
      obtain ⟨A6, c6, hv6⟩ := own_form ho6
      subst hv6
      have HBT := hid hbt
      have hs6 := hb6.size
      clear ho6 hbt
      go_wp2_with fail
      have hpq := qparse_any k hk8 (bytesT ta) _ w6.heap.size w6 hlA HBT.out (Nat.le_refl _)
      rw [HSD.out] at hpq
      refine hpq.mono ?_
      clear hpq
      rintro e w7 ⟨hb7, hpost⟩
      obtain ⟨gp, rfl, hqp⟩ : ∃ gp, e = .returned (.tuple #[.pointer (some ⟨gp, 0, none⟩), .bool true]) ∧ QuadAt w7 w6.heap.size gp (sd k) ta := by
        rcases hpost with ⟨gp, t', e1, e2, e3, e4, e5, e6⟩ | ⟨_, h⟩
        · have := (bytes_inj ta t' [] [] hokA e5 (by rw [e6])).1
          subst this
          exact ⟨gp, e1, e2⟩
        · exact absurd HFR.out (h ta)
      clear hpost
      have hs7 := hb7.size
      have hB7 : Below wr.heap.size wr w7 := bthrough hb6 hb7 hb6.size
      have HQP := hid hqp
      clear hqp HBT HFR
      go_wp2_with fail
      refine (copy_any _ ga _ _ w7 (HQAr.out.below hB7)).mono ?_
      rintro e w8 ⟨gc, rfl, hqc, hb8⟩
      have hs8 := hb8.size
      have hB8 : Below wr.heap.size wr w8 := bthrough hB7 hb8 hB7.size
      have HQA7 := hid (HQAr.out.below hB7)
      have HQA8 := hid (HQAr.out.below hB8)
      have HQB8 := hid (HQBr.out.below hB8)
      have HQP8 := hid (HQP.out.below hb8)
      have HQC8 := hid hqc
      have hbb8 : Below w.heap.size w w8 := bthrough hbbr hB8 hbbr.size
      have hws : wr.heap.size ≤ w7.heap.size := hB7.size
      have hw7 : w.heap.size ≤ w7.heap.size := Nat.le_trans hbbr.size hws
      clear hqc HQAr HQBr hB hB7 hB8 hb6 hb7 hbbr hbb5
      go_wp2_with fail
      refine (equal_side _ _ ga gb (sd k) ta tb w8 HQA8.out HQB8.out hlA hlB).mono ?_
      rw [HEQ.out]
      rintro e w9 ⟨rfl, hb9⟩
      have hs9 := hb9.size
      go_wp2_with fail
      refine (equal_side _ _ gp ga (sd k) ta ta w9 (HQP8.out.below hb9) (HQA8.out.below hb9) hlA hlA).mono ?_
      rw [decide_eq_true rfl]
      rintro e w10 ⟨rfl, hb10⟩
      have hb810 : Below w8.heap.size w8 w10 := bthrough hb9 hb10 hs9
      clear hb9 hb10
      go_wp2_with fail
      refine (equal_side _ _ gc ga (sd k) ta ta w10 (HQC8.out.below hb810) (HQA8.out.below hb810) hlA hlA).mono ?_
      rw [decide_eq_true rfl]
      rintro e w11 ⟨rfl, hb11⟩
      have hb811 : Below w8.heap.size w8 w11 := bthrough hb810 hb11 hb810.size
      clear hb810 hb11
      have hp2 : powB (2 * (s : Int)) = true := by rw [← HSD.out, ← sd_succ]; exact powB_8 (by omega)
      go_wp2_with fail
      refine (new_yes (2 * (s : Int)) w11 hp2).mono ?_
      rintro e w12 ⟨⟨gn, rfl, hqn⟩, hb12⟩
      have hb812 : Below w8.heap.size w8 w12 := bthrough hb811 hb12 hb811.size
      have HQN := hid hqn
      clear hb811 hb12 hqn hp2
      go_wp2_with fail
      refine (equal_not _ _ ga gn (sd k) (2 * (s : Int)) ta _ w12 (HQA8.out.below hb812) HQN.out (by rw [HSD.out]; omega)).mono ?_
      rintro e w13 ⟨rfl, hb13⟩
      have hb813 : Below w8.heap.size w8 w13 := bthrough hb812 hb13 hb812.size
      clear hb812 hb13 HQN
      go_wp2_with fail
      refine (at_any _ gc k ta 0 0 w13 (HQC8.out.below hb813) hfa hk8).mono ?_
      rw [HAT.out]
      rintro e w14 ⟨rfl, hb14⟩
      have hb814 : Below w8.heap.size w8 w14 := bthrough hb813 hb14 hb813.size
      clear hb813 hb14
      go_wp2_with fail
      have hset := qset_yes _ gc k ta 0 0 1 1 (255 - v0) w14 (HQC8.out.below hb814) hfa hk8 HOK.out
      rw [HNX.out] at hset
      refine hset.mono ?_
      rintro e w15 ⟨rfl, hqc15, hb15⟩
      clear hset
      have hb715 : Below w7.heap.size w8 w15 := (hb814.mono hs8).trans hb15
      have hb7e : Below w7.heap.size w7 w15 := hb8.trans hb715
      have hokC : okS tc := by
        obtain ⟨F, h, _⟩ := hqc15.root
        exact h.ok
      have hnc := HNC.out hokC
      have HQA15 := hid (HQA7.out.below hb7e)
      have HQP15 := hid (HQP.out.below hb7e)
      have HQC15 := hid hqc15
      have hbb15 : Below w.heap.size w w15 := hbb8.trans (hb715.mono hw7)
      clear hqc15 hb715 hb15 hb7e hb814 hb8 hbb8 HQA7 HQP HQA8 HQB8 HQP8 HQC8 HNX HOK HAT
      go_wp2_with fail
      refine (equal_side _ _ gc ga (sd k) tc ta w15 HQC15.out HQA15.out hlC hlA).mono ?_
      rw [decide_eq_false hnc]
      rintro e w16 ⟨rfl, hb16⟩
      go_wp2_with fail
      refine (equal_side _ _ ga gp (sd k) ta ta w16 (HQA15.out.below hb16) (HQP15.out.below hb16) hlA hlA).mono ?_
      rw [decide_eq_true rfl]
      rintro e w17 ⟨rfl, hb17⟩
      have hb1517 : Below w15.heap.size w15 w17 := bthrough hb16 hb17 hb16.size
      clear hb16 hb17
      go_wp2_with fail
      refine (awake_any _).mono ?_
      rintro e w18 ⟨rfl, hb18⟩
      have hend : Below w.heap.size w w18 := bthrough (bthrough hbb15 hb1517 hbb15.size) hb18 (by have := hbb15.size; have := hb1517.size; omega)
      clear hbb15 hb1517 hb18
      go_wp2
      go_ret
      exact ⟨rfl, hend⟩
end Go.Proofs.Ytdpdkjpkehgdnaa
