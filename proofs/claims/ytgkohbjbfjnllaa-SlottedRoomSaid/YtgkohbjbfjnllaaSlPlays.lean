/-
  The walk of the statement SlottedPlays: it returns true, for every size and every list of calls.
-/
import Derived.Test.YtgkohbjbfjnllaaSlY
import Derived.Test.YtgkohbjbfjnllaaSlS
import Derived.Test.YtgkohbjbfjnllaaSlP
namespace Go.Proofs.Ytgkohbjbfjnllaa
open Go.RowKit

theorem PageAt.base {w : World} {B B' bp : Nat} {size : Int} {sv : Value} {recs : List (List UInt8)} (h : PageAt w B bp size sv recs) (hB : B' ≤ B) : PageAt w B' bp size sv recs := by
  obtain ⟨h1, h2, vs, h3, h4⟩ := h
  exact ⟨h1, Nat.le_trans hB h2, vs, ownsRow_base h3 hB, h4⟩

/-- bytes of a fresh row: where they lie -/
theorem own_lies {w : World} {b n : Nat} {v : Value} {l : List UInt8} (h : w.ownsRow b 5 1 v n (cellsB l)) (h0 : 0 < n) (hl : l.length = n) : ∃ g cap, v = .slice (some ⟨g, 0, none⟩) n cap ∧ g < w.heap.size ∧ n ≤ cap ∧ cap ≤ maxLen ∧ ∀ j u, l[j]? = some u → w.cell? ((⟨g, 0, none⟩ : Addr).add j) = some (.int .u8 (u.toNat : Int)) := by
  obtain ⟨_, ⟨_, h2⟩ | ⟨g, cap, cur, h2, hb, hh, hn, hm, hs, ht⟩⟩ := h
  · omega
  · refine ⟨g, cap, h2, heap_lt hh, by simpa using hn, hm, fun j u hu => ?_⟩
    have hj : j < l.length := (List.getElem?_eq_some_iff.1 hu).1
    have h3 : (cur.toList.take (n * 1))[j]? = some (Value.int .u8 (u.toNat : Int)) := by rw [ht]; unfold cellsB; rw [List.getElem?_map, hu]; rfl
    rw [List.getElem?_take_of_lt (by omega)] at h3
    by_cases hj0 : j = 0
    · subst hj0; simpa [World.cell?, Addr.add, hh] using h3
    · simpa [World.cell?, Addr.add, hh, hj0] using h3

/-- Load of the bytes of a page that fits -/
theorem load_back {B : Nat} {size : Nat} {v : Value} {recs : List (List UInt8)} {w : World} (hf : Fits size recs) (hs : 16 ≤ size ∧ size ≤ 4096) (h : w.ownsRow B 5 1 v size (cellsB (bytesV size recs))) :
    Calls Try.prog 20 #[v] w fun e w' => e = .returned (.tuple #[.pointer (some ⟨w.heap.size, 0, none⟩), .bool true]) ∧ (∃ sv, PageAt w' w.heap.size w.heap.size (size : Int) sv recs) ∧ Below w.heap.size w w' := by
  have hlen := bytesV_length size recs hf.fit
  obtain ⟨g, cap, rfl, hg, h1, h2, h3⟩ := own_lies h (by omega) hlen
  have hok := ok_bytesV hf (by omega)
  have hl := load_any ⟨g, 0, none⟩ cap (bytesV size recs) w hg h3 (by rw [hlen]; exact hs) (by rw [hlen]; exact ⟨h1, h2⟩)
  rw [bytesV_head size recs (by have := hf.len; omega), hlen] at hl
  refine hl.mono ?_
  rintro e w' ⟨⟨hno, _⟩ | ⟨_, he, sv, hp⟩, hb⟩
  · exact absurd hok.1 hno
  · rw [hlen, hok.2] at hp
    exact ⟨he, ⟨sv, hp⟩, hb⟩

set_option maxRecDepth 100000 in
set_option maxHeartbeats 4000000 in
theorem lawPlays (size : Int) (A : Option Addr) (cap : Nat) (ops : List Op3) (w : World) (hl : ops.length ≤ maxLen) (ho : OpsAt w.heap.size w A ops) :
    Calls Try.prog 7 #[.int .i64 size, .slice A ops.length cap] w fun e w' => e = .returned (.bool true) ∧ Below w.heap.size w w' := by
  have hsm := small_any A cap ops 120 w (Nat.le_refl _) ho hl
  have HO := hid ho
  have hl2 : ops.length ≤ 9223372036854775807 := hl
  clear ho hl
  by_cases ha : 400 < size ∧ size ≤ 4096
  · have g1 : decide (size > 400) = true := decide_eq_true ha.1
    have g2 : decide (size ≤ 4096) = true := decide_eq_true ha.2
    clear hsm ha
    go_enter Try.func7, Try.ntmps7
    go_wp2_with fail
    refine (awake_any _).mono ?_
    rintro e w1 ⟨rfl, hb⟩
    go_wp2
    go_ret
    exact ⟨rfl, hb⟩
  · by_cases hok : (shortB ops && decide ((ops.length : Int) ≤ 120)) = false
    · rw [hok] at hsm
      clear hok
      by_cases h4 : size ≤ 400
      · have g1 : decide (size > 400) = false := decide_eq_false (by omega)
        clear h4 ha
        go_enter Try.func7, Try.ntmps7
        go_wp2_with fail
        refine hsm.mono ?_
        rintro e w0 ⟨rfl, hb0⟩
        clear hsm
        have HB0 := hid hb0
        clear hb0
        go_wp2_with fail
        refine (awake_any _).mono ?_
        rintro e w1 ⟨rfl, hb⟩
        have HB1 := hid (HB0.out.trans (hb.mono HB0.out.size))
        go_wp2
        go_ret
        exact ⟨rfl, HB1.out⟩
      · have g1 : decide (size > 400) = true := decide_eq_true (by omega)
        have g2 : decide (size ≤ 4096) = false := decide_eq_false (by omega)
        clear h4 ha
        go_enter Try.func7, Try.ntmps7
        go_wp2_with fail
        refine hsm.mono ?_
        rintro e w0 ⟨rfl, hb0⟩
        clear hsm
        have HB0 := hid hb0
        clear hb0
        go_wp2_with fail
        refine (awake_any _).mono ?_
        rintro e w1 ⟨rfl, hb⟩
        have HB1 := hid (HB0.out.trans (hb.mono HB0.out.size))
        go_wp2
        go_ret
        exact ⟨rfl, HB1.out⟩
    · have hok2 := Bool.not_eq_false _ ▸ hok
      rw [hok2] at hsm
      rw [Bool.and_eq_true] at hok2
      obtain ⟨hsh, hle⟩ := hok2
      have hle := of_decide_eq_true hle
      have HSH := hid hsh
      clear hok hsh
      by_cases h16 : size < 16
      · have g1 : decide (size > 400) = false := decide_eq_false (by omega)
        have g3 : decide (size < 16) = true := decide_eq_true h16
        go_enter Try.func7, Try.ntmps7
        go_wp2_with fail
        refine hsm.mono ?_
        rintro e w0 ⟨rfl, hb0⟩
        clear hsm
        have HB0 := hid hb0
        clear hb0
        go_wp2_with fail
        refine (new_none size _ (by omega)).mono ?_
        rintro e w1 ⟨rfl, rfl⟩
        go_wp2_with fail
        refine (awake_any _).mono ?_
        rintro e w1 ⟨rfl, hb⟩
        have HB1 := hid (HB0.out.trans (hb.mono HB0.out.size))
        go_wp2
        go_ret
        exact ⟨rfl, HB1.out⟩
      · by_cases h4 : 400 < size
        · have g1 : decide (size > 400) = true := decide_eq_true (by omega)
          have g2 : decide (size ≤ 4096) = false := decide_eq_false (by omega)
          have g3 : decide (size < 16) = false := decide_eq_false h16
          have g4 : decide (size > 4096) = true := decide_eq_true (by omega)
          go_enter Try.func7, Try.ntmps7
          go_wp2_with fail
          refine hsm.mono ?_
          rintro e w0 ⟨rfl, hb0⟩
          clear hsm
          have HB0 := hid hb0
          clear hb0
          go_wp2_with fail
          refine (new_none size _ (by omega)).mono ?_
          rintro e w1 ⟨rfl, rfl⟩
          go_wp2_with fail
          refine (awake_any _).mono ?_
          rintro e w1 ⟨rfl, hb⟩
          have HB1 := hid (HB0.out.trans (hb.mono HB0.out.size))
          go_wp2
          go_ret
          exact ⟨rfl, HB1.out⟩
        · obtain ⟨N, rfl⟩ := Int.eq_ofNat_of_zero_le (show 0 ≤ size by omega)
          have hN1 : 16 ≤ N := by omega
          have hN2 : N ≤ 400 := by omega
          have g1 : decide ((N : Int) > 400) = false := decide_eq_false (by omega)
          have g3 : decide ((N : Int) < 16) = false := decide_eq_false h16
          have g4 : decide ((N : Int) > 4096) = false := decide_eq_false (by omega)
          clear h16 h4 ha
          go_enter Try.func7, Try.ntmps7
          go_wp2_with fail
          refine hsm.mono ?_
          rintro e w0 ⟨rfl, hb0⟩
          clear hsm
          have HB0 := hid hb0
          clear hb0
          go_wp2_with fail
          refine (new_any (N : Int) _ (by omega)).mono ?_
          rintro e w1 ⟨rfl, hw1⟩
          have hp1 := (page_new w0 (N : Int)).base HB0.out.size
          rw [← hw1] at hp1
          have HP1 := hid hp1
          have HB1 : Hid (Below w.heap.size w w1) := hid (by rw [hw1]; exact balloc HB0.out _)
          clear hw1 hp1
          generalize w0.heap.size = bp at *
          go_wp2_with fail
          go_loopw [6, 41] (fun s6 s41 wr => ∃ k : Nat, k ≤ ops.length ∧ s41 = .int .i64 k ∧ (∃ recs sv, PageAt wr w.heap.size bp (N : Int) sv recs ∧ Fits N recs ∧ StrsAt wr w.heap.size s6 recs) ∧ Below w.heap.size w wr) (fun _ s41 _ => ops.length - (intOf s41).toNat)
          case atStart => exact ⟨0, Nat.zero_le _, rfl, ⟨[], _, HP1.out, Fits.nil (by omega), World.ownsRow_nil _ _ _ _⟩, HB1.out⟩
          case round =>
            obtain ⟨k, hk, rfl, ⟨recs, sv, hp, hf, hx⟩, hbw⟩ := hrel
            have HB := hid hbw
            have HP := hid hp
            have HF := hid hf
            have HX := hid hx
            clear hbw hp hf hx
            obtain ⟨Ax, cx, hv⟩ := HX.out.form
            subst hv
            by_cases hlt : k < ops.length
            · obtain ⟨A0, dv, rfl, hblk, h0, h1, h2, h3⟩ := (HO.out.later HB.out) k ops[k] (List.getElem?_eq_getElem hlt)
              have hd4 : ops[k].data.length ≤ 400 := of_decide_eq_true (List.all_eq_true.1 HSH.out ops[k] (List.getElem_mem hlt))
              generalize ops[k] = o at *
              rw [add_next A0 (k * 3) 0] at h1
              rw [add_next A0 (k * 3) 1] at h2
              obtain ⟨A1, c1, rfl⟩ := h3.form
              have H3 := hid h3
              clear h3
              have hbx : Below wr.heap.size wr (wr.alloc (.cells #[.int .i64 o.kind, .int .i64 o.slot, .slice A1 o.data.length c1] 37)) := balloc (Below.refl _ _) _
              have hst := step_any (B := w.heap.size) bp N sv (.slice Ax recs.length cx) (.slice A1 o.data.length c1) recs o.kind o.slot o.data _ (Nat.le_trans HB.out.size hbx.size) (HP.out.kept hbx) (HX.out.below hbx) ((H3.out.later (hbx.mono HB.out.size)).stays) HF.out (by omega) hd4
              have HF2 := hid (HF.out.step o.kind o.slot o.data)
              have HBX := hid (HB.out.trans (hbx.mono HB.out.size))
              clear hbx
              generalize stepV N recs o.kind o.slot o.data = recs2 at hst HF2
              go_wp2_with fail
              refine hst.mono ?_
              rintro e w2 ⟨xv2, rfl, ⟨sv2, hp2⟩, hx2, ht2⟩
              have HP2 := hid hp2
              have HX2 := hid hx2
              have HB2 := hid (HBX.out.trans ht2.below)
              clear hst hp2 hx2 ht2 h0 h1 h2
              obtain ⟨Ax2, cx2, hv⟩ := HX2.out.form
              subst hv
              have hsa := same_any bp N sv2 recs2 _ w2 HP2.out HX2.out HF2.out.fit (by omega) (by have := HF2.out.len; omega)
              go_wp2_with fail
              refine hsa.mono ?_
              rintro e w3 ⟨rfl, hb3⟩
              have HP3 := hid (HP2.out.kept hb3)
              have HX3 := hid (HX2.out.below hb3)
              have HB3 := hid (HB2.out.trans (hb3.mono HB2.out.size))
              clear hsa hb3
              go_wp2
              go_roundw
              case rel => exact ⟨k + 1, by omega, by go_num, ⟨recs2, sv2, HP3.out, HF2.out, HX3.out⟩, HB3.out⟩
              case measure => simp [intOf]; omega
            · obtain rfl : k = ops.length := by omega
              have hby := bytes_any bp N sv recs wr HP.out HF.out.fit (by omega) (by have := HF.out.len; omega)
              go_wp2_with fail
              refine hby.mono ?_
              rintro e w2 ⟨v2, rfl, ho2, hb2⟩
              have hld := load_back HF.out (by omega) ho2
              have HB2 := hid (HB.out.trans (hb2.mono HB.out.size))
              have HX2 := hid (HX.out.below hb2)
              obtain ⟨g2, cc2, hv, _⟩ := own_lies ho2 (by omega) (bytesV_length N recs HF.out.fit)
              subst hv
              clear hby ho2 hb2
              go_wp2_with fail
              refine hld.mono ?_
              rintro e w3 ⟨rfl, ⟨sv3, hp3⟩, hb3⟩
              have hsa := same_any w2.heap.size N sv3 recs _ w3 hp3 (HX2.out.below hb3) HF.out.fit (by omega) (by have := HF.out.len; omega)
              have HB3 := hid (HB2.out.trans (hb3.mono HB2.out.size))
              clear hld hp3 hb3
              go_wp2_with fail
              refine hsa.mono ?_
              rintro e w4 ⟨rfl, hb4⟩
              have HB4 := hid (HB3.out.trans (hb4.mono HB3.out.size))
              clear hsa hb4
              go_wp2_with fail
              refine (awake_any _).mono ?_
              rintro e w5 ⟨rfl, hb5⟩
              have HB5 := hid (HB4.out.trans (hb5.mono HB4.out.size))
              clear hb5
              go_wp2
              go_ret
              exact ⟨rfl, HB5.out⟩
end Go.Proofs.Ytgkohbjbfjnllaa
