/-
  Layer 9's statements: one call of both (step): the second kind (Set).
-/
import Derived.Test.YtgkohbjbfjnllaaSlX
namespace Go.Proofs.Ytgkohbjbfjnllaa
open Go.RowKit

set_option maxRecDepth 100000 in
set_option maxHeartbeats 2000000 in
theorem step_two [fb : Forbid] {B : Nat} (bp size : Nat) (sv xv dv : Value) (recs : List (List UInt8)) (slot : Int) (data : List UInt8) (w : World) (hB : B ≤ w.heap.size) (hp : PageAt w B bp (size : Int) sv recs) (hx : StrsAt w B xv recs) (hd : StaysAt B bp w dv data) (hf : Fits size recs) (hs : size ≤ 400) (hdl : data.length ≤ 400) :
    Calls Try.prog 15 #[.pointer (some ⟨bp, 0, none⟩), xv, .int .i64 (size : Int), .agg #[.int .i64 2, .int .i64 slot, dv]] w fun e w' => ∃ xv', e = .returned (.tuple #[xv', .bool true]) ∧ (∃ sv', PageAt w' B bp (size : Int) sv' (stepV size recs 2 slot data)) ∧ StrsAt w' B xv' (stepV size recs 2 slot data) ∧ Touch B bp w w' := by
  have hlen := hf.len
  have hfit := hf.fit
  obtain ⟨A, c, hv⟩ := hx.form
  subst hv
  obtain ⟨A1, c1, hv⟩ := hd.form
  subst hv
  have HP := hid hp
  have HX := hid hx
  have HD := hid hd
  have HF := hid hf
  have hbs := baOf_size
  have hbt := baOf_toList
  clear hp hx hd hf
  go_enter Try.func15, Try.ntmps15
  go_upto_region 1 with fail
  have hb0 : Below w.heap.size w (w.alloc (.cells #[.int .i64 2, .int .i64 slot, .slice A1 data.length c1] 37)) := balloc (Below.refl _ _) _
  have ho0 : (w.alloc (.cells #[.int .i64 2, .int .i64 slot, .slice A1 data.length c1] 37)).heap[w.heap.size]? = some (.cells #[.int .i64 2, .int .i64 slot, .slice A1 data.length c1] 37) := heap_alloc_new w _
  have HB0 := hid hb0
  have HO0 := hid ho0
  clear hb0 ho0
  generalize w.alloc (.cells #[.int .i64 2, .int .i64 slot, .slice A1 data.length c1] 37) = w0 at HB0 HO0 ⊢
  have hk0 : w0.cell? ⟨w.heap.size, 0, none⟩ = some (.int .i64 2) := by simp [World.cell?, HO0.out]
  have hk1 : w0.cell? ⟨w.heap.size, 1, none⟩ = some (.int .i64 slot) := by simp [World.cell?, HO0.out]
  have hk2 : w0.cell? ⟨w.heap.size, 2, none⟩ = some (.slice A1 data.length c1) := by simp [World.cell?, HO0.out]
  go_cut [10] (fun s10 wx => s10 = .bool (hasV recs slot) ∧ wx = w0)
  case first =>
    have hh := hasV_cases recs slot
    rcases hh with ⟨h0, hv⟩ | ⟨k, rfl, hkl, hv⟩ | ⟨k, rfl, hkl, hv⟩
    · have hf0 : decide (slot ≥ 0) = false := decide_eq_false (by omega)
      have HV := hid hv
      clear hv
      go_wp2_with fail
      go_meet
      exact ⟨by rw [HV.out], rfl⟩
    · have hf0 : decide ((k : Int) < (recs.length : Int)) = false := decide_eq_false (by omega)
      have HV := hid hv
      clear hv
      go_wp2_with fail
      go_meet
      exact ⟨by rw [HV.out], rfl⟩
    · obtain ⟨g, c', hv2⟩ := HX.out.row (by omega)
      injection hv2 with hA _ hc
      subst hA hc
      have hcell := (HX.out.below HB0.out).cell k hkl
      have HV := hid hv
      clear hv
      generalize recs[k] = r at hcell HV
      cases r with
      | nil =>
        go_wp2_with fail
        go_meet
        exact ⟨by rw [HV.out]; rfl, rfl⟩
      | cons b t =>
        go_wp2_with fail
        go_meet
        exact ⟨by rw [HV.out]; rfl, rfl⟩
  case rest =>
    obtain ⟨rfl, hwc⟩ := hcut
    subst hwc
    have hsz0 := HB0.out.size
    have hlt0 : w.heap.size < wc.heap.size := heap_lt HO0.out
    go_wp2_with (first
      | (at_builtin; go_loud (refine wpList_append_strs rfl (.tmp 35) (.tmp 36) rfl wc.heap.size _ rfl ?co _ B recs rfl (HX.out.below (HB0.out.trans ?cb)) (by omega) ?cz ?_)))
    case co => exact ⟨rfl, .inr ⟨wc.heap.size, 0, #[], rfl, Nat.le_refl _, heap_alloc_new wc _, Nat.le_refl _, by unfold maxLen; omega, rfl, rfl⟩⟩
    case cb => exact (Below.refl _ _).alloc hsz0 _
    case cz => simp
    intro lv w2 hl hg
    have HL := hid hl
    have HB2 : Hid (Below wc.heap.size wc w2) := hid (((Below.refl _ _).alloc (Nat.le_refl _) _).grown hg (by simp) (fun k hk => by simp [Value.ownBlock] at hk; omega))
    clear hl hg
    have hm0 := (HB2.out.cell (p := ⟨w.heap.size, 0, none⟩) hlt0).trans hk0
    have hm1 := (HB2.out.cell (p := ⟨w.heap.size, 1, none⟩) hlt0).trans hk1
    have hm2 := (HB2.out.cell (p := ⟨w.heap.size, 2, none⟩) hlt0).trans hk2
    have HBW : Hid (Below w.heap.size w w2) := hid (bthrough HB0.out HB2.out hsz0)
    have HT2 : Hid (Touch B bp w w2) := hid (Touch.of_below HBW.out hB)
    have HP2 := hid (HP.out.kept HBW.out)
    have HX2 := hid (HX.out.below HBW.out)
    have HD2 := hid (HD.out.later HT2.out)
    have hB2 : B ≤ w2.heap.size := Nat.le_trans hB HBW.out.size
    obtain ⟨Al, cl, hlv⟩ := HL.out.form
    subst hlv
    clear hk0 hk1 hk2 hsz0
    by_cases hd0 : data = []
    · subst hd0
      have HSV := hid (show stepV size recs 2 slot [] = recs by simp [stepV])
      have hset := set_range bp slot _ w2 (HD2.out w2 (Touch.refl _ _ _))
      go_wp2_with fail
      refine hset.mono ?_
      rintro e w3 ⟨rfl, rfl⟩
      clear hset
      go_wp2
      go_ret2
      exact ⟨_, rfl, ⟨_, by rw [HSV.out]; exact HP2.out⟩, by rw [HSV.out]; exact HX2.out, HT2.out⟩
    · have hd1 : 0 < data.length := List.length_pos_iff.2 hd0
      have hd2 : ((data.length : Int) == 0) = false := by simp; omega
      cases hr : hasV recs slot
      · have HSV := hid (show stepV size recs 2 slot data = recs by simp [stepV, hd0, hr])
        have hset := set_none bp (size : Int) sv recs slot _ data w2 HP2.out HD2.out (by omega) hd1 hr
        go_wp2_with fail
        refine hset.mono ?_
        rintro e w3 ⟨rfl, rfl⟩
        clear hset
        go_wp2
        go_ret2
        exact ⟨_, rfl, ⟨_, by rw [HSV.out]; exact HP2.out⟩, by rw [HSV.out]; exact HX2.out, HT2.out⟩
      · obtain ⟨hs0, hkl⟩ := hasV_lt hr
        obtain ⟨k, rfl⟩ := Int.eq_ofNat_of_zero_le hs0
        simp only [Int.toNat_natCast] at hkl
        have hts : sumL (recs.set k data) + recs[k].length = sumL recs + data.length := sumL_set recs k data hkl
        have htt : tot (recs.set k data) + recs[k].length = tot recs + data.length := by unfold tot; omega
        clear hts
        have hrk : recs[k].length ≤ 1048576 := by
          have h1 := sumL_take_succ recs k recs[k] (List.getElem?_eq_getElem hkl)
          have h2 := sumL_take_le recs (k + 1)
          unfold tot at hfit
          omega
        have hti : (tot (recs.set k data) : Int) = (tot recs : Int) + (data.length : Int) - (recs[k].length : Int) := by omega
        by_cases hfull : tot (recs.set k data) ≤ size
        · have HSV := hid (show stepV size recs 2 (k : Int) data = recs.set k data by simp [stepV, hd0, hr, hfull])
          have hset := set_some bp (size : Int) sv recs k _ data w2 HP2.out (by omega) (by omega) HD2.out (by omega) hd1 hr hkl (by omega) hB2 hrk
          have htot := hid (show tot (recs.set k data) ≤ 1048576 by omega)
          have hng : decide ((tot (recs.set k data) : Int) > (size : Int)) = false := decide_eq_false (by omega)
          clear hti htt hrk
          go_wp2_with fail
          refine hset.mono ?_
          rintro e w3 ⟨rfl, hp3, ht3⟩
          have HP3 := hid hp3
          have HT3 := hid ht3
          have HL3 := hid (HL.out.touch ht3 HP2.out.1)
          clear hp3 ht3 hset
          have hO3 : w3.heap[w.heap.size]? = some (.cells #[.int .i64 2, .int .i64 (k : Int), .slice A1 data.length c1] 37) := (HT3.out.block w.heap.size _ _ _ ((HB2.out.block _ hlt0).trans HO0.out) (by decide) (fun hbp => by have := heap_lt HP.out.1; omega)).trans ((HB2.out.block _ hlt0).trans HO0.out)
          have HO3 := hid hO3
          clear hO3
          have hr0 : w3.cell? ⟨w.heap.size, 0, none⟩ = some (.int .i64 2) := by simp [World.cell?, HO3.out]
          have hr1 : w3.cell? ⟨w.heap.size, 1, none⟩ = some (.int .i64 (k : Int)) := by simp [World.cell?, HO3.out]
          have hr2 : w3.cell? ⟨w.heap.size, 2, none⟩ = some (.slice A1 data.length c1) := by simp [World.cell?, HO3.out]
          have hcv := run_string_b (HD2.out w3 HT3.out)
          obtain ⟨g, c', hv2⟩ := HL3.out.row (by omega)
          injection hv2 with hA _ hc
          subst hA hc
          have hcell := HL3.out.cell k hkl
          have hfree := HL3.out.free k
          have hw3 : wc.heap.size ≤ w3.heap.size := Nat.le_trans HB2.out.size HT3.out.below.size
          have htl := total_any _ (recs.set k data) _ (HL3.out.put k data) htot.out
          go_wp2_with fail
          refine htl.mono ?_
          rintro e w4 ⟨rfl, rfl⟩
          clear htl
          go_wp2
          go_ret2
          refine ⟨_, rfl, ⟨_, by rw [HSV.out]; exact HP3.out.set_str HL3.out k _⟩, ?_, (HT2.out.trans HT3.out).above (HL3.out.set_below k _) (by omega) (by omega)⟩
          rw [HSV.out]
          have hx := (HL3.out.put k data).base (show B ≤ wc.heap.size by omega)
          simpa using hx
        · have HSV := hid (show stepV size recs 2 (k : Int) data = recs by simp [stepV, hd0, hr, hfull])
          have hset := set_full bp (size : Int) sv recs k _ data w2 HP2.out (by omega) (by omega) HD2.out (by omega) hd1 hr hkl (by omega) hrk
          have htot := hid (show tot (recs.set k data) ≤ 1048576 by omega)
          have hng : decide ((tot (recs.set k data) : Int) > (size : Int)) = true := decide_eq_true (by omega)
          clear hti htt hrk
          go_wp2_with fail
          refine hset.mono ?_
          rintro e w3 ⟨rfl, hb3, hh3⟩
          have HP3 := hid (HP2.out.same hh3)
          have HT3 : Hid (Touch B bp w2 w3) := hid (Touch.of_below hb3 hB2)
          have HL3 := hid (HL.out.below hb3)
          have HX3 := hid (HX2.out.below hb3)
          clear hb3 hh3 hset
          have hO3 : w3.heap[w.heap.size]? = some (.cells #[.int .i64 2, .int .i64 (k : Int), .slice A1 data.length c1] 37) := (HT3.out.block w.heap.size _ _ _ ((HB2.out.block _ hlt0).trans HO0.out) (by decide) (fun hbp => by have := heap_lt HP.out.1; omega)).trans ((HB2.out.block _ hlt0).trans HO0.out)
          have HO3 := hid hO3
          clear hO3
          have hr0 : w3.cell? ⟨w.heap.size, 0, none⟩ = some (.int .i64 2) := by simp [World.cell?, HO3.out]
          have hr1 : w3.cell? ⟨w.heap.size, 1, none⟩ = some (.int .i64 (k : Int)) := by simp [World.cell?, HO3.out]
          have hr2 : w3.cell? ⟨w.heap.size, 2, none⟩ = some (.slice A1 data.length c1) := by simp [World.cell?, HO3.out]
          have hcv := run_string_b (HD2.out w3 HT3.out)
          obtain ⟨g, c', hv2⟩ := HL3.out.row (by omega)
          injection hv2 with hA _ hc
          subst hA hc
          have hcell := HL3.out.cell k hkl
          have hfree := HL3.out.free k
          have hw3 : wc.heap.size ≤ w3.heap.size := Nat.le_trans HB2.out.size HT3.out.below.size
          have htl := total_any _ (recs.set k data) _ (HL3.out.put k data) htot.out
          go_wp2_with fail
          refine htl.mono ?_
          rintro e w4 ⟨rfl, rfl⟩
          clear htl
          go_wp2
          go_ret2
          refine ⟨_, rfl, ⟨_, by rw [HSV.out]; exact HP3.out.set_str HL3.out k _⟩, ?_, (HT2.out.trans HT3.out).above (HL3.out.set_below k _) (by omega) (by omega)⟩
          rw [HSV.out]
          exact HX.out.touch ((HT2.out.trans HT3.out).above (HL3.out.set_below k _) (by omega) (by omega)) HP.out.1
end Go.Proofs.Ytgkohbjbfjnllaa
