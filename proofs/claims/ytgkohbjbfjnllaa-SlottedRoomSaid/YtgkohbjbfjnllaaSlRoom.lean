/-
  The walk of the statement SlottedRoom: it returns true, for every size and every list of calls.
-/
import Derived.Test.YtgkohbjbfjnllaaSlPlays
import Derived.Test.YtgkohbjbfjnllaaSlCopy
namespace Go.Proofs.Ytgkohbjbfjnllaa
open Go.RowKit

/-- zeros, as make lays them -/
def zA (n : Nat) : Array Value := madeCells (Value.int .u8 0).cells (n * 1)
theorem zA_get (n j : Nat) (h : j < n) : (zA n)[j]? = some (.int .u8 0) := by
  simp [zA, madeCells, Value.cells, h, Nat.mod_one]
theorem mkz (n : Nat) (hn : n ≤ 1048576) (W : World) : (Instr.makeSlice 29 (.int .i64 (n : Int)) (.int .i64 (n : Int))).run Try.prog W = .ok (.slice (some ⟨W.heap.size, 0, none⟩) n n) (W.alloc (.cells (zA n) 5)) := by
  obtain ⟨i0, hi, hz0, hz1, hz2⟩ := info_parts infoB
  have h := run_make (P := Try.prog) W 29 5 i0 (.int .u8 0) Try.underlying29 hi hz0 .i64 .i64 (n : Int) (n : Int) (by omega) (by omega) (by rw [hz2]; omega) (by omega)
  rw [hz1] at h
  simpa [zA] using h
theorem rec_made (W : World) (n : Nat) : RecAt (W.alloc (.cells (zA n) 5)) (.slice (some ⟨W.heap.size, 0, none⟩) n n) (List.replicate n 0) :=
  .inr ⟨W.heap.size, 0, n, _, (0, 0), by rw [List.length_replicate], by rw [List.length_replicate]; exact Nat.le_refl _, heap_alloc_new W _, fun j u hu => by
    have hj : j < n := by have := (List.getElem?_eq_some_iff.1 hu).1; simpa using this
    rw [List.getElem?_replicate_of_lt hj] at hu
    injection hu with hu
    subst hu
    rw [Nat.zero_add, zA_get n j hj]
    rfl⟩

theorem roomV_full {size : Nat} {recs : List (List UInt8)} (h : tot recs = size) : roomV (size : Int) recs = 0 := by
  unfold roomV
  split
  · split
    · rfl
    · omega
  · omega
theorem roomV_le {size : Nat} {recs : List (List UInt8)} (h : tot recs ≤ size) : 0 ≤ roomV (size : Int) recs ∧ roomV (size : Int) recs ≤ size := by
  unfold roomV
  split
  · split <;> omega
  · omega
/-- a record as long as the room fills the page -/
theorem tot_put {size : Nat} {recs : List (List UInt8)} (hf : Fits size recs) (l : List UInt8) (h0 : 0 < l.length) (hl : (l.length : Int) = roomV (size : Int) recs) : tot (putV recs l) = size := by
  have h1 := hf.len
  have h2 := hf.fit
  have h3 := emptyAt_le recs
  by_cases he : emptyAt recs = recs.length
  · rw [putV, if_pos he]
    rw [roomV, if_pos he] at hl
    by_cases h63 : recs.length = 63
    · rw [if_pos h63] at hl; omega
    · rw [if_neg h63] at hl
      unfold tot at *
      rw [sumL_append]
      simp only [sumL]
      omega
  · rw [putV, if_neg he]
    rw [roomV, if_neg he] at hl
    have hs := sumL_set recs (emptyAt recs) l (by omega)
    rw [emptyAt_empty recs (by omega)] at hs
    unfold tot at *
    simp at hs
    omega

set_option maxRecDepth 100000 in
set_option maxHeartbeats 4000000 in
theorem lawRoom (size : Int) (A : Option Addr) (cap : Nat) (ops : List Op3) (w : World) (hl : ops.length ≤ maxLen) (ho : OpsAt w.heap.size w A ops) :
    Calls Try.prog 5 #[.int .i64 size, .slice A ops.length cap] w fun e w' => e = .returned (.bool true) ∧ Below w.heap.size w w' := by
  have hsm := small_any A cap ops 120 w (Nat.le_refl _) ho hl
  have HO := hid ho
  have hl2 : ops.length ≤ 9223372036854775807 := hl
  clear ho hl
  by_cases h16 : size < 16
  · have g1 : decide (size < 16) = true := decide_eq_true h16
    clear hsm h16
    go_enter Try.func5, Try.ntmps5
    go_wp2_with fail
    refine (awake_any _).mono ?_
    rintro e w1 ⟨rfl, hb⟩
    go_wp2
    go_ret
    exact ⟨rfl, hb⟩
  · by_cases h4 : 400 < size
    · have g1 : decide (size < 16) = false := decide_eq_false h16
      have g2 : decide (size > 400) = true := decide_eq_true h4
      clear hsm h16 h4
      go_enter Try.func5, Try.ntmps5
      go_wp2_with fail
      refine (awake_any _).mono ?_
      rintro e w1 ⟨rfl, hb⟩
      go_wp2
      go_ret
      exact ⟨rfl, hb⟩
    · by_cases hok : (shortB ops && decide ((ops.length : Int) ≤ 120)) = false
      · rw [hok] at hsm
        have g1 : decide (size < 16) = false := decide_eq_false h16
        have g2 : decide (size > 400) = false := decide_eq_false (by omega)
        clear hok h16 h4
        go_enter Try.func5, Try.ntmps5
        go_wp2_with fail
        refine hsm.mono ?_
        rintro e w0 ⟨rfl, hb0⟩
        clear hsm
        have HB0 := hid hb0
        clear hb0
        go_wp2_with fail
        refine (awake_any _).mono ?_
        rintro e w1 ⟨rfl, hb⟩
        have HB1 := hid (HB0.out.trans (hb.mono HB0.out.size))
        go_wp2
        go_ret
        exact ⟨rfl, HB1.out⟩
      · have hok2 := Bool.not_eq_false _ ▸ hok
        rw [hok2] at hsm
        rw [Bool.and_eq_true] at hok2
        obtain ⟨hsh, hle⟩ := hok2
        have hle := of_decide_eq_true hle
        have HSH := hid hsh
        clear hok hsh
        obtain ⟨N, rfl⟩ := Int.eq_ofNat_of_zero_le (show 0 ≤ size by omega)
        have hN1 : 16 ≤ N := by omega
        have hN2 : N ≤ 400 := by omega
        have g1 : decide ((N : Int) < 16) = false := decide_eq_false h16
        have g2 : decide ((N : Int) > 400) = false := decide_eq_false (by omega)
        clear h16 h4
        go_enter Try.func5, Try.ntmps5
        go_wp2_with fail
        refine hsm.mono ?_
        rintro e w0 ⟨rfl, hb0⟩
        clear hsm
        have HB0 := hid hb0
        clear hb0
        go_wp2_with fail
        refine (new_any (N : Int) _ (by omega)).mono ?_
        rintro e w1 ⟨rfl, hw1⟩
        have hp1 := (page_new w0 (N : Int)).base HB0.out.size
        rw [← hw1] at hp1
        have HP1 := hid hp1
        have HB1 : Hid (Below w.heap.size w w1) := hid (by rw [hw1]; exact balloc HB0.out _)
        clear hw1 hp1
        generalize w0.heap.size = bp at *
        go_wp2_with fail
        go_loopw [6, 34] (fun s6 s34 wr => ∃ k : Nat, k ≤ ops.length ∧ s34 = .int .i64 k ∧ (∃ recs sv, PageAt wr w.heap.size bp (N : Int) sv recs ∧ Fits N recs ∧ StrsAt wr w.heap.size s6 recs) ∧ Below w.heap.size w wr) (fun _ s34 _ => ops.length - (intOf s34).toNat)
        case atStart => exact ⟨0, Nat.zero_le _, rfl, ⟨[], _, HP1.out, Fits.nil (by omega), World.ownsRow_nil _ _ _ _⟩, HB1.out⟩
        case round =>
          obtain ⟨k, hk, rfl, ⟨recs, sv, hp, hf, hx⟩, hbw⟩ := hrel
          have HB := hid hbw
          have HP := hid hp
          have HF := hid hf
          have HX := hid hx
          clear hbw hp hf hx
          obtain ⟨Ax, cx, hv⟩ := HX.out.form
          subst hv
          by_cases hlt : k < ops.length
          · obtain ⟨A0, dv, rfl, hblk, h0, h1, h2, h3⟩ := (HO.out.later HB.out) k ops[k] (List.getElem?_eq_getElem hlt)
            have hd4 : ops[k].data.length ≤ 400 := of_decide_eq_true (List.all_eq_true.1 HSH.out ops[k] (List.getElem_mem hlt))
            generalize ops[k] = o at *
            rw [add_next A0 (k * 3) 0] at h1
            rw [add_next A0 (k * 3) 1] at h2
            obtain ⟨A1, c1, rfl⟩ := h3.form
            have H3 := hid h3
            clear h3
            have hbx : Below wr.heap.size wr (wr.alloc (.cells #[.int .i64 o.kind, .int .i64 o.slot, .slice A1 o.data.length c1] 37)) := balloc (Below.refl _ _) _
            have hst := step_any (B := w.heap.size) bp N sv (.slice Ax recs.length cx) (.slice A1 o.data.length c1) recs o.kind o.slot o.data _ (Nat.le_trans HB.out.size hbx.size) (HP.out.kept hbx) (HX.out.below hbx) ((H3.out.later (hbx.mono HB.out.size)).stays) HF.out (by omega) hd4
            have HF2 := hid (HF.out.step o.kind o.slot o.data)
            have HBX := hid (HB.out.trans (hbx.mono HB.out.size))
            clear hbx
            generalize stepV N recs o.kind o.slot o.data = recs2 at hst HF2
            go_wp2_with fail
            refine hst.mono ?_
            rintro e w2 ⟨xv2, rfl, ⟨sv2, hp2⟩, hx2, ht2⟩
            have HP2 := hid hp2
            have HX2 := hid hx2
            have HB2 := hid (HBX.out.trans ht2.below)
            clear hst hp2 hx2 ht2 h0 h1 h2
            go_wp2
            go_roundw
            case rel => exact ⟨k + 1, by omega, by go_num, ⟨recs2, sv2, HP2.out, HF2.out, HX2.out⟩, HB2.out⟩
            case measure => simp [intOf]; omega
          · obtain rfl : k = ops.length := by omega
            have hlen := HF.out.len
            have hfit := HF.out.fit
            have hro := room_any bp (N : Int) sv recs wr HP.out (by omega) (by omega)
            have hrl := roomV_le hfit
            obtain ⟨q, hq⟩ := Int.eq_ofNat_of_zero_le hrl.1
            rw [hq] at hro hrl
            have HQ := hid hq
            clear hq
            go_wp2_with fail
            refine hro.mono ?_
            rintro e w2 ⟨rfl, hb2, _⟩
            have HB2 := hid (HB.out.trans (hb2.mono HB.out.size))
            have HP2 := hid (HP.out.kept hb2)
            have HX2 := hid (HX.out.below hb2)
            clear hro hb2
            go_wp2
            go_loop [10] (fun s10 => ∃ j : Nat, 1 ≤ j ∧ j ≤ N + 1 ∧ s10 = .int .i64 j) (fun s10 => N + 1 - (intOf s10).toNat)
            case atStart => exact ⟨1, Nat.le_refl _, by omega, rfl⟩
            case round =>
              obtain ⟨j, hj1, hj2, rfl⟩ := hrel
              by_cases hjl : j ≤ N
              · have hjle : decide ((j : Int) ≤ (N : Int)) = true := decide_eq_true (by omega)
                have hrp := refPut_any (.slice Ax recs.length cx) recs (N : Int) (j : Int) w2 HX2.out (by omega) (by omega) (by omega)
                rcases place_full HF.out j (by omega) with ⟨hfu, hpl⟩ | ⟨hfu, hpl, he62⟩
                · have hlt2 := of_decide_eq_true (show decide (roomV (N : Int) recs < (j : Int)) = true from hfu)
                  rw [HQ.out] at hlt2
                  rw [hpl] at hrp
                  have d1 : decide ((j : Int) ≤ (q : Int)) = false := decide_eq_false (by omega)
                  clear hpl hfu
                  go_wp2_with fail
                  refine hrp.mono ?_
                  rintro e w3 ⟨rfl, rfl⟩
                  clear hrp
                  go_wp2
                  go_round
                  case rel => exact ⟨j + 1, by omega, by omega, by go_num⟩
                  case measure => simp [intOf]; omega
                · have hlt2 := of_decide_eq_false (show decide (roomV (N : Int) recs < (j : Int)) = false from hfu)
                  rw [HQ.out] at hlt2
                  rw [hpl] at hrp
                  have d1 : decide ((j : Int) ≤ (q : Int)) = true := decide_eq_true (by omega)
                  clear hpl hfu
                  go_wp2_with fail
                  refine hrp.mono ?_
                  rintro e w3 ⟨rfl, rfl⟩
                  clear hrp
                  go_wp2
                  go_round
                  case rel => exact ⟨j + 1, by omega, by omega, by go_num⟩
                  case measure => simp [intOf]; omega
              · obtain rfl : j = N + 1 := by omega
                have hjle : decide (((N + 1 : Nat) : Int) ≤ (N : Int)) = false := decide_eq_false (by omega)
                have hcp := copy_any bp (N : Int) sv recs w2 HP2.out (by omega)
                have hq1 : ((q : Int) + 1) = ((q + 1 : Nat) : Int) := by omega
                have hm1 := mkz (q + 1) (by omega)
                rw [← hq1] at hm1
                clear hq1
                go_wp2_with fail
                refine hcp.mono ?_
                rintro e w3 ⟨bc, sv3, rfl, hp3, hbc, hb3⟩
                have HP3 := hid hp3
                have HB3 := hid hb3
                clear hcp hp3 hb3
                have hba : Below w3.heap.size w3 (w3.alloc (.cells (zA (q + 1)) 5)) := balloc (Below.refl _ _) _
                have hpu := put_any bc (N : Int) sv3 recs (.slice (some ⟨w3.heap.size, 0, none⟩) (q + 1) (q + 1)) (List.replicate (q + 1) 0) _ (Nat.le_trans HB3.out.size hba.size) (HP3.out.kept hba) (by omega) (by omega) ((rec_made w3 (q + 1)).stays (HP3.out.kept hba).1) (by rw [List.length_replicate]; omega) (by rw [List.length_replicate]; omega)
                rw [List.length_replicate, show fullB (N : Int) recs (q + 1) = true from decide_eq_true (by rw [HQ.out]; omega)] at hpu
                have HB3a := hid (HB3.out.trans (hba.mono HB3.out.size))
                clear hba
                go_wp2_with fail
                refine hpu.mono ?_
                rintro e w4 ⟨i4, c4, sv4, recs4, rfl, hp4, ht4, ⟨_, rfl, rfl, rfl⟩ | ⟨hno, _⟩⟩
                case inr => cases hno
                have HP4 := hid hp4
                have HB4 := hid (HB3a.out.trans ht4.below)
                clear hpu hp4 ht4 hm1
                by_cases hq0 : q = 0
                · subst hq0
                  have hsa := same_any bp N sv recs4 _ w4 (HP2.out.kept HB4.out) (HX2.out.below HB4.out) hfit (by omega) (by omega)
                  have HBl := hid (HB2.out.trans (HB4.out.mono HB2.out.size))
                  go_wp2_with fail
                  refine hsa.mono ?_
                  rintro e w8 ⟨rfl, hb8⟩
                  have HB8 := hid (HBl.out.trans (hb8.mono HBl.out.size))
                  clear hsa hb8
                  go_wp2_with fail
                  refine (awake_any _).mono ?_
                  rintro e w9 ⟨rfl, hb9⟩
                  have HB9 := hid (HB8.out.trans (hb9.mono HB8.out.size))
                  go_wp2
                  go_ret
                  exact ⟨rfl, HB9.out⟩
                · have hqp : 0 < q := by omega
                  have hm2 := mkz q (by omega)
                  have hba : Below w4.heap.size w4 (w4.alloc (.cells (zA q) 5)) := balloc (Below.refl _ _) _
                  have hrlen : (List.replicate q (0 : UInt8)).length = q := List.length_replicate
                  have hfu : fullB (N : Int) recs4 q = false := decide_eq_false (by rw [HQ.out]; omega)
                  have hpu := put_any bc (N : Int) sv4 recs4 (.slice (some ⟨w4.heap.size, 0, none⟩) q q) (List.replicate q 0) _ (Nat.le_trans HB4.out.size hba.size) (HP4.out.kept hba) (by omega) (by omega) ((rec_made w4 q).stays (HP4.out.kept hba).1) (by omega) (by omega)
                  rw [hrlen, hfu] at hpu
                  have hto := tot_put HF.out (List.replicate q 0) (by omega) (by rw [hrlen, HQ.out])
                  have hpl : placeV (N : Int) recs4 (q : Int) = (emptyAt recs4 : Int) := by
                    rcases place_full HF.out q (by omega) with ⟨h1, _⟩ | ⟨_, h1, _⟩
                    · rw [hfu] at h1; cases h1
                    · exact h1
                  have HTO := hid hto
                  have HB4a := hid (HB4.out.trans (hba.mono HB4.out.size))
                  clear hba hrlen hfu hto hq0
                  go_wp2_with fail
                  refine hpu.mono ?_
                  rintro e w5 ⟨i5, c5, sv5, recs5, rfl, hp5, ht5, ⟨hno, _⟩ | ⟨_, rfl, rfl, rfl⟩⟩
                  case inl => cases hno
                  have HP5 := hid hp5
                  have HB5 := hid (HB4a.out.trans ht5.below)
                  clear hpu hp5 ht5 hm2
                  have hrp := refPut_any (.slice Ax recs4.length cx) recs4 (N : Int) (q : Int) w5 (HX2.out.below HB5.out) (by omega) (by omega) (by omega)
                  rw [hpl] at hrp
                  have hro := room_any bc (N : Int) sv5 _ w5 HP5.out (by have := HTO.out; omega) (by omega)
                  rw [roomV_full HTO.out] at hro
                  go_wp2_with fail
                  refine hrp.mono ?_
                  rintro e w6 ⟨rfl, rfl⟩
                  clear hrp hpl
                  go_wp2_with fail
                  refine hro.mono ?_
                  rintro e w6 ⟨rfl, hb6, _⟩
                  have HB6 := hid (HB5.out.trans (hb6.mono HB5.out.size))
                  clear hro hb6
                  have hsa := same_any bp N sv recs4 _ w6 (HP2.out.kept HB6.out) (HX2.out.below HB6.out) hfit (by omega) (by omega)
                  have HBl := hid (HB2.out.trans (HB6.out.mono HB2.out.size))
                  go_wp2_with fail
                  refine hsa.mono ?_
                  rintro e w8 ⟨rfl, hb8⟩
                  have HB8 := hid (HBl.out.trans (hb8.mono HBl.out.size))
                  clear hsa hb8
                  go_wp2_with fail
                  refine (awake_any _).mono ?_
                  rintro e w9 ⟨rfl, hb9⟩
                  have HB9 := hid (HB8.out.trans (hb9.mono HB8.out.size))
                  go_wp2
                  go_ret
                  exact ⟨rfl, HB9.out⟩
end Go.Proofs.Ytgkohbjbfjnllaa
