/-
  The walk of the statement SlottedAll: it returns true, for every list of calls and every number.
-/
import Derived.Test.YtgkohbjbfjnllaaSlAllA
import Derived.Test.YtgkohbjbfjnllaaRound
namespace Go.Proofs.Ytgkohbjbfjnllaa
open Go.RowKit Go.Shelf

attribute [local go_sem] Oper.semAt_some

/-- the world behind New: the boxes and the page -/
theorem all_begin (w w1 : World) (stop : Int) (hw1 : w1 = ((w.alloc (.cells #[.int .i64 stop] 3)).alloc (.cells #[.bool false] 4)).alloc (.cells #[.int .i64 200, .slice none 0 0] 53)) :
    w1.heap[w.heap.size]? = some (.cells #[.int .i64 stop] 3) ∧ w1.heap[w.heap.size + 1]? = some (.cells #[.bool false] 4) ∧ w1.heap.size = w.heap.size + 3 ∧ Below w.heap.size w w1 ∧ PageAt w1 w.heap.size (w.heap.size + 2) 200 (.slice none 0 0) [] := by
  subst hw1
  have e1 : (w.alloc (.cells #[.int .i64 stop] 3)).heap.size = w.heap.size + 1 := by simp
  have e2 : ((w.alloc (.cells #[.int .i64 stop] 3)).alloc (.cells #[.bool false] 4)).heap.size = w.heap.size + 2 := by simp
  have h1 := heap_alloc_new w (.cells #[.int .i64 stop] 3)
  have h2 := heap_alloc_new (w.alloc (.cells #[.int .i64 stop] 3)) (.cells #[.bool false] 4)
  have hp := (page_new ((w.alloc (.cells #[.int .i64 stop] 3)).alloc (.cells #[.bool false] 4)) 200).base (B' := w.heap.size) (by omega)
  have hb : Below w.heap.size w (w.alloc (.cells #[.int .i64 stop] 3)) := balloc (Below.refl _ _) _
  generalize w.alloc (.cells #[.int .i64 stop] 3) = wa at e1 e2 h1 h2 hp hb ⊢
  have hb2 : Below wa.heap.size wa (wa.alloc (.cells #[.bool false] 4)) := balloc (Below.refl _ _) _
  generalize wa.alloc (.cells #[.bool false] 4) = wb at e2 h2 hp hb2 ⊢
  have hb3 : Below wb.heap.size wb (wb.alloc (.cells #[.int .i64 200, .slice none 0 0] 53)) := balloc (Below.refl _ _) _
  rw [e2] at hp
  rw [e1] at h2
  exact ⟨(hb3.block _ (by omega)).trans ((hb2.block _ (by omega)).trans h1), (hb3.block _ (by omega)).trans h2, by simp [e2], (hb.trans (hb2.mono hb.size)).trans (hb3.mono (by omega)), hp⟩

set_option maxRecDepth 100000 in
set_option maxHeartbeats 4000000 in
theorem lawAll_no (A : Option Addr) (cap : Nat) (ops : List Op3) (stop : Int) (w : World) (hl : ops.length ≤ maxLen) (ho : OpsAt w.heap.size w A ops) (hok : (shortB ops && decide ((ops.length : Int) ≤ 60)) = false) :
    Calls Try.prog 4 #[.slice A ops.length cap, .int .i64 stop] w fun e w' => e = .returned (.bool true) ∧ Below w.heap.size w w' := by
  have HO := hid ho
  have hl2 : ops.length ≤ 9223372036854775807 := hl
  clear ho
  go_enter Try.func4, Try.ntmps4
  go_wp2_with fail
  refine (new_any 200 _ (by omega)).mono ?_
  rintro e w1 ⟨rfl, hw1⟩
  obtain ⟨_, hr1, hz1, hb1, _⟩ := all_begin w w1 stop hw1
  have HB1 := hid hb1
  clear hw1 hb1
  have hsm := small_any A cap ops 60 w1 HB1.out.size (HO.out.later HB1.out) hl
  rw [hok] at hsm
  clear hok
  go_wp2_with fail
  refine hsm.mono ?_
  rintro e w2 ⟨rfl, hb2⟩
  clear hsm
  have hr2 := (hb2.block (w.heap.size + 1) (by omega)).trans hr1
  have HB2 := hid (HB1.out.trans (hb2.mono HB1.out.size))
  clear hb2 hr1
  go_wp2_with fail
  refine (awake_any _).mono ?_
  rintro e w3 ⟨rfl, hb3⟩
  have hr3 := (hb3.block (w.heap.size + 1) (heap_lt hr2)).trans hr2
  have HB3 := hid (HB2.out.trans (hb3.mono HB2.out.size))
  clear hb3 hr2
  have hc3 : w3.cell? ⟨w.heap.size + 1, 0, none⟩ = some (.bool false) := by simp [World.cell?, hr3]
  have hf3 : w3.frozen? ⟨w.heap.size + 1, 0, none⟩ = false := by simp [World.frozen?, hr3]
  go_wp2
  refine bodyPost_ret (v := .bool true) (by simp [results, Try.results4, go_sem, hc3]) rfl ⟨rfl, HB3.out.setCell (p := ⟨w.heap.size + 1, 0, none⟩) (Nat.le_succ _) _⟩

set_option maxRecDepth 100000 in
set_option maxHeartbeats 4000000 in
theorem lawAll_yes (A : Option Addr) (cap : Nat) (ops : List Op3) (stop : Int) (w : World) (hl : ops.length ≤ maxLen) (ho : OpsAt w.heap.size w A ops) (hok : (shortB ops && decide ((ops.length : Int) ≤ 60)) = true) :
    Calls Try.prog 4 #[.slice A ops.length cap, .int .i64 stop] w fun e w' => e = .returned (.bool true) ∧ Below w.heap.size w w' := by
  have HO := hid ho
  have hl2 : ops.length ≤ 9223372036854775807 := hl
  clear ho
  refine (callsIn_wide (n := 9)).1 ?_
  refine callsIn_of_wp_marks Try.func4 rfl trivial ?_ rfl
  simp only [Try.ntmps4, List.size_toArray, List.length_cons, List.length_nil, Nat.reduceAdd, Nat.reduceSub, Array.replicate_succ, Array.replicate_zero, List.push_toArray, List.append_toArray, List.nil_append, List.cons_append]
  refine wpIn_wide.2 ?_
  go_wp2_with fail
  refine (new_any 200 _ (by omega)).mono ?_
  rintro e w1 ⟨rfl, hw1⟩
  obtain ⟨hs1, hr1, hz1, hb1, hp1⟩ := all_begin w w1 stop hw1
  have HB1 := hid hb1
  have HP1 := hid hp1
  clear hw1 hb1 hp1
  have hsm := small_any A cap ops 60 w1 HB1.out.size (HO.out.later HB1.out) hl
  rw [hok] at hsm
  rw [Bool.and_eq_true] at hok
  obtain ⟨hsh, hle⟩ := hok
  have hle := of_decide_eq_true hle
  have HSH := hid hsh
  clear hsh
  go_wp2_with fail
  refine hsm.mono ?_
  rintro e w2 ⟨rfl, hb2⟩
  have hW : AllW w (w.heap.size + 2) w2.heap.size stop [] (w2.alloc (.cells #[.slice none 0 0] 35)) := by
    have hb3 : Below w2.heap.size w2 (w2.alloc (.cells #[.slice none 0 0] 35)) := balloc (Below.refl _ _) _
    have l0 := heap_lt hs1
    have l1 := heap_lt hr1
    have h2 := hb2.size
    exact ⟨(HB1.out.trans (hb2.mono HB1.out.size)).trans (hb3.mono (by omega)), (hb3.block _ (by omega)).trans ((hb2.block _ l0).trans hs1), (hb3.block _ (by omega)).trans ((hb2.block _ l1).trans hr1), Fits.nil (by omega), ⟨_, (HP1.out.kept hb2).kept hb3⟩, _, heap_alloc_new w2 _, World.ownsRow_nil _ _ _ _⟩
  have HW := hid hW
  have hxb : w.heap.size + 3 ≤ w2.heap.size := by have := hb2.size; omega
  clear hsm hb2 hs1 hr1 hW
  go_wp2_with fail
  generalize w2.heap.size = xb at hxb HW ⊢
  go_loopw [30] (fun s30 wr => ∃ k : Nat, k ≤ ops.length ∧ s30 = .int .i64 k ∧ ∃ recs, AllW w (w.heap.size + 2) xb stop recs wr) (fun s30 _ => ops.length - (intOf s30).toNat)
  case atStart => exact ⟨0, Nat.zero_le _, rfl, [], HW.out⟩
  case round =>
    obtain ⟨k, hk, rfl, recs, hW⟩ := hrel
    have HW := hid hW
    obtain ⟨xv, hx1, hx2⟩ := hW.x
    have hxc : wr.cell? ⟨xb, 0, none⟩ = some xv := by simp [World.cell?, hx1]
    have hxl := heap_lt hx1
    have HX := hid hx2
    obtain ⟨Ax, cx, hv⟩ := hx2.form
    subst hv
    have hxw := hxc
    clear hW hx2 hx1
    by_cases hlt : k < ops.length
    · obtain ⟨A0, dv, rfl, hblk, h0, h1, h2, h3⟩ := (HO.out.later HW.out.below) k ops[k] (List.getElem?_eq_getElem hlt)
      have hd4 : ops[k].data.length ≤ 400 := of_decide_eq_true (List.all_eq_true.1 HSH.out ops[k] (List.getElem_mem hlt))
      generalize ops[k] = o at *
      rw [add_next A0 (k * 3) 0] at h1
      rw [add_next A0 (k * 3) 1] at h2
      obtain ⟨A1, c1, rfl⟩ := h3.form
      have H3 := hid h3
      clear h3
      go_upto_region 8 with fail
      obtain ⟨wa, hwa⟩ : ∃ wa, wa = wr.alloc (.cells #[.int .i64 o.kind, .int .i64 o.slot, .slice A1 o.data.length c1] 37) := ⟨_, rfl⟩
      have hba : Below wr.heap.size wr wa := by rw [hwa]; exact balloc (Below.refl _ _) _
      have hoa : wa.heap[wr.heap.size]? = some (.cells #[.int .i64 o.kind, .int .i64 o.slot, .slice A1 o.data.length c1] 37) := by rw [hwa]; exact heap_alloc_new wr _
      rw [← hwa]
      clear hwa h0 h1 h2 hxc
      have hla := heap_lt hoa
      have hown0 : (wa.alloc (.cells #[] 5)).ownsRow wr.heap.size 5 1 (.slice (some ⟨wa.heap.size, 0, none⟩) 0 0) 0 [] :=
        ⟨rfl, .inr ⟨wa.heap.size, 0, #[], rfl, by omega, heap_alloc_new wa _, Nat.le_refl _, by unfold maxLen; omega, rfl, rfl⟩⟩
      have hab : Below wa.heap.size wa (wa.alloc (.cells #[] 5)) := balloc (Below.refl _ _) _
      have hrec0 : BytesAt (wa.alloc (.cells #[] 5)) (.slice A1 o.data.length c1) o.data := (H3.out.later ((hba.mono HW.out.below.size).trans (hab.mono (by have := HW.out.below.size; omega)))).stays (bp := 0) _ (Touch.refl _ _ _)
      have hca : wa.cell? ⟨wr.heap.size, 2, none⟩ = some (.slice A1 o.data.length c1) := by simp [World.cell?, hoa]
      have HOA := hid hoa
      clear hoa
      go_wp2_with (first
        | (at_builtin; go_loud (refine wpList_append_old rfl (.tmp 34) (.tmp 36) rfl wr.heap.size (.slice (some ⟨wa.heap.size, 0, none⟩) 0 0) rfl hown0 (fun e => by cases e) (.slice A1 o.data.length c1) o.data rfl hrec0 (by omega) (by simp; omega) ?_)))
      intro v' wc hown' hnn hgrow
      obtain ⟨gd, cp, rfl, hgd, hrow, hcp, hcm⟩ := ByteRow.of_own hown' hnn
      have hcm : cp ≤ 9223372036854775807 := hcm
      have hbc : Below wa.heap.size wa wc := hab.grown hgrow (by simp) (fun k hk => by simp [Value.ownBlock] at hk; omega)
      have hoc := (hbc.block _ hla).trans HOA.out
      have hcc : wc.cell? ⟨wr.heap.size, 2, none⟩ = some (.slice A1 o.data.length c1) := by simp [World.cell?, hoc]
      have hfc : wc.frozen? ⟨wr.heap.size, 2, none⟩ = false := by simp [World.frozen?, hoc]
      have hgo : gd ≠ wr.heap.size := fun e => by
        obtain ⟨cur, h5, _⟩ := hrow
        rw [e, hoc] at h5
        injection h5 with h5
        injection h5 with _ h5 _
        exact absurd h5 (by decide)
      have hrecc : RecAt wc (.slice (some ⟨gd, 0, none⟩) o.data.length cp) o.data := (RecAt.of_own hown').1
      have HRC := hid hrecc
      have HROW := hid hrow
      have HBC := hid ((hba.trans (hbc.mono (by omega))))
      have HOC := hid hoc
      clear hown' hnn hgrow hown0 hrec0 hab hca hbc hoc hrow hrecc hba HOA
      go_upto_region 9 with fail
      have hod : (wc.setCell ⟨wr.heap.size, 2, none⟩ (.slice (some ⟨gd, 0, none⟩) o.data.length cp)).heap[wr.heap.size]? = some (.cells #[.int .i64 o.kind, .int .i64 o.slot, .slice (some ⟨gd, 0, none⟩) o.data.length cp] 37) := by
        rw [heap_set_self _ HOC.out]
        rfl
      have hbd : Below wr.heap.size wr (wc.setCell ⟨wr.heap.size, 2, none⟩ (.slice (some ⟨gd, 0, none⟩) o.data.length cp)) := HBC.out.setCell (p := ⟨wr.heap.size, 2, none⟩) (Nat.le_refl _) _
      have hok : ∀ q, q ≠ wr.heap.size → (wc.setCell ⟨wr.heap.size, 2, none⟩ (.slice (some ⟨gd, 0, none⟩) o.data.length cp)).heap[q]? = wc.heap[q]? := fun q hq => Below.heap_setCell _ _ _ _ hq
      generalize wc.setCell ⟨wr.heap.size, 2, none⟩ (.slice (some ⟨gd, 0, none⟩) o.data.length cp) = wd at hod hbd hok ⊢
      have hgdd : ∃ cur, wd.heap[gd]? = some (Obj.cells cur 5) ∧ ∀ j, j < o.data.length → ∃ z, cur[j]? = some (.int .u8 z) := by
        obtain ⟨cur, h5, h6⟩ := HROW.out
        exact ⟨cur, (hok gd hgo).trans h5, h6⟩
      obtain ⟨cur, hgd1, hgd2⟩ := hgdd
      have hgl := heap_lt hgd1
      have hre : RecAt wd (.slice (some ⟨gd, 0, none⟩) o.data.length cp) o.data := HRC.out.kept fun q cur fr hq => hok q (fun e => by
        have h7 := HOC.out
        rw [← e, hq] at h7
        injection h7 with h7
        injection h7 with _ h7 _
        exact absurd h7 (by decide))
      obtain ⟨sv, hpw⟩ := HW.out.page
      have hpd := hpw.forbid (fun b => b = gd) hbd (fun b hb => by subst hb; exact ⟨hgd, hgl⟩)
      have hst := step_any (fb := ⟨fun b => b = gd⟩) (B := w.heap.size) (w.heap.size + 2) 200 sv (.slice Ax recs.length cx) (.slice (some ⟨gd, 0, none⟩) o.data.length cp) recs o.kind o.slot o.data wd (Nat.le_trans HW.out.below.size hbd.size) hpd (HX.out.below hbd) (hre.stays hpd.1) HW.out.fit (by omega) hd4
      have HF2 := hid (HW.out.fit.step o.kind o.slot o.data)
      have c0 : wd.cell? ⟨wr.heap.size, 0, none⟩ = some (.int .i64 o.kind) := by simp [World.cell?, hod]
      have c1 : wd.cell? ⟨wr.heap.size, 1, none⟩ = some (.int .i64 o.slot) := by simp [World.cell?, hod]
      have c2 : wd.cell? ⟨wr.heap.size, 2, none⟩ = some (.slice (some ⟨gd, 0, none⟩) o.data.length cp) := by simp [World.cell?, hod]
      obtain ⟨xv0, hx1, _⟩ := HW.out.x
      have hxd := (hbd.block _ (heap_lt hx1)).trans hx1
      have cx0 : wd.cell? ⟨xb, 0, none⟩ = some (.slice Ax recs.length cx) := by rw [hbd.cell (p := ⟨xb, 0, none⟩) (heap_lt hx1)]; exact hxw
      have HBD := hid hbd
      have HOD := hid hod
      have HGD := hid (And.intro hgd1 hgd2)
      have HXD := hid hxd
      clear hpw hpd hre hbd hok hod hgd1 hgd2 hx1 hxd HROW HRC HOC HBC hcc hfc
      generalize stepV 200 recs o.kind o.slot o.data = recs2 at hst HF2
      go_wp2_with fail
      refine hst.mono ?_
      rintro e w2' ⟨xv2, rfl, ⟨sv2, hp2⟩, hx2, ht2⟩
      clear hst c0 c1 c2 cx0
      obtain ⟨Ax2, cx2, hv⟩ := hx2.form
      subst hv
      have ho2 := (ht2.block _ _ _ _ HOD.out (by decide) (by have := heap_lt HW.out.hr; omega)).trans HOD.out
      have hx3 := (ht2.block _ _ _ _ HXD.out (by decide) (by omega)).trans HXD.out
      have hg2 := (ht2.block _ _ _ _ HGD.out.1 (by decide) (by have := heap_lt HW.out.hr; omega)).trans HGD.out.1
      have cxx : w2'.cell? ⟨xb, 0, none⟩ = some xv0 := by simp [World.cell?, hx3]
      have fxx : w2'.frozen? ⟨xb, 0, none⟩ = false := by simp [World.frozen?, hx3]
      have HP2 := hid hp2
      have HX2 := hid hx2
      have HT2 := hid ht2
      have HO2 := hid ho2
      have HG2 := hid hg2
      have HX3 := hid hx3
      clear hp2 hx2 ht2 ho2 hg2 hx3 HOD
      go_upto_region 10 with fail
      have h3o : (w2'.setCell ⟨xb, 0, none⟩ (.slice Ax2 recs2.length cx2)).heap[wr.heap.size]? = some (.cells #[.int .i64 o.kind, .int .i64 o.slot, .slice (some ⟨gd, 0, none⟩) o.data.length cp] 37) := (Below.heap_setCell _ _ _ _ (show wr.heap.size ≠ xb by omega)).trans HO2.out
      have h3g : (w2'.setCell ⟨xb, 0, none⟩ (.slice Ax2 recs2.length cx2)).heap[gd]? = some (Obj.cells cur 5) := (Below.heap_setCell _ _ _ _ (show gd ≠ xb by omega)).trans HG2.out
      have HR3 : Hid (ByteRow (w2'.setCell ⟨xb, 0, none⟩ (.slice Ax2 recs2.length cx2)) gd o.data.length) := hid ⟨cur, h3g, HGD.out.2⟩
      have HAR := hid (fun w4 (h4 : OnRow w.heap.size gd (w2'.setCell ⟨xb, 0, none⟩ (.slice Ax2 recs2.length cx2)) w4) => HW.out.round HBD.out HT2.out ⟨by omega, by omega, by omega⟩ (by omega) hgd ⟨cur, HG2.out⟩ HP2.out HF2.out HX2.out h4)
      have HO3 := hid h3o
      clear h3o h3g cxx fxx HP2 HX2 HT2 HO2 HG2 HX3 HXD HGD HBD
      generalize w2'.setCell ⟨xb, 0, none⟩ (.slice Ax2 recs2.length cx2) = w3 at HR3 HAR HO3 ⊢
      have c2 : w3.cell? ⟨wr.heap.size, 2, none⟩ = some (.slice (some ⟨gd, 0, none⟩) o.data.length cp) := by have := HO3.out; simp [World.cell?, this]
      go_wp2
      generalize wr.heap.size = ob at *
      go_loopw [49] (fun s49 w4 => ∃ j : Nat, j ≤ o.data.length ∧ s49 = .int .i64 j ∧ OnRow w.heap.size gd w3 w4 ∧ ByteRow w4 gd o.data.length) (fun s49 _ => o.data.length - (intOf s49).toNat)
      case atStart => exact ⟨0, Nat.zero_le _, rfl, OnRow.refl _ _ _, HR3.out⟩
      case round =>
        obtain ⟨j, hj, rfl, hon, hrow⟩ := hrel
        have HON := hid hon
        have HRW := hid hrow
        clear c2
        have c2 : wr.cell? ⟨ob, 2, none⟩ = some (.slice (some ⟨gd, 0, none⟩) o.data.length cp) := by have := (hon.block _ (Ne.symm hgo)).trans HO3.out; simp [World.cell?, this]
        clear hon hrow
        by_cases hjl : j < o.data.length
        · obtain ⟨z, hz⟩ := HRW.out.cell j hjl
          have hfz := HRW.out.free j
          go_wp2
          go_roundw
          case rel => exact ⟨j + 1, by omega, by go_num, HON.out.set (by omega) _ _, HRW.out.set _ _⟩
          case measure => simp [intOf]; omega
        · obtain rfl : j = o.data.length := by omega
          go_wp2
          go_roundw
          case rel => exact ⟨k + 1, by omega, by go_num, recs2, HAR.out _ HON.out⟩
          case measure => simp [intOf]; omega
    · obtain rfl : k = ops.length := by omega
      clear hlt hxc
      obtain ⟨V, rfl⟩ : ∃ V : World, V = wr := ⟨_, rfl⟩
      have hbp : w.heap.size + 2 < V.heap.size := by
        obtain ⟨sv, hp⟩ := HW.out.page
        exact heap_lt hp.1
      have hb0 : Below V.heap.size V (((V.alloc (.cells #[.int .i64 0] 3)).alloc (.cells #[.int .i64 0] 3)).alloc (.cells #[.pointer (some ⟨w.heap.size + 2, 0, none⟩)] 24)) := balloc (balloc (balloc (Below.refl _ _) _) _) _
      have hca : (((V.alloc (.cells #[.int .i64 0] 3)).alloc (.cells #[.int .i64 0] 3)).alloc (.cells #[.pointer (some ⟨w.heap.size + 2, 0, none⟩)] 24)).cell? ⟨V.heap.size, 0, none⟩ = some (.int .i64 0) := by simp [go_sem]
      have hfa : (((V.alloc (.cells #[.int .i64 0] 3)).alloc (.cells #[.int .i64 0] 3)).alloc (.cells #[.pointer (some ⟨w.heap.size + 2, 0, none⟩)] 24)).frozen? ⟨V.heap.size, 0, none⟩ = false := by simp [go_sem]
      have hcn : (((V.alloc (.cells #[.int .i64 0] 3)).alloc (.cells #[.int .i64 0] 3)).alloc (.cells #[.pointer (some ⟨w.heap.size + 2, 0, none⟩)] 24)).cell? ⟨V.heap.size + 1, 0, none⟩ = some (.int .i64 0) := by simp [go_sem]
      have hfn : (((V.alloc (.cells #[.int .i64 0] 3)).alloc (.cells #[.int .i64 0] 3)).alloc (.cells #[.pointer (some ⟨w.heap.size + 2, 0, none⟩)] 24)).frozen? ⟨V.heap.size + 1, 0, none⟩ = false := by simp [go_sem]
      have hcp : (((V.alloc (.cells #[.int .i64 0] 3)).alloc (.cells #[.int .i64 0] 3)).alloc (.cells #[.pointer (some ⟨w.heap.size + 2, 0, none⟩)] 24)).cell? ⟨V.heap.size + 2, 0, none⟩ = some (.pointer (some ⟨w.heap.size + 2, 0, none⟩)) := by simp [go_sem]
      have hsz0 : (((V.alloc (.cells #[.int .i64 0] 3)).alloc (.cells #[.int .i64 0] 3)).alloc (.cells #[.pointer (some ⟨w.heap.size + 2, 0, none⟩)] 24)).heap.size = V.heap.size + 3 := by simp
      go_wp2_with (go_at_call 16; refine (all_any _ _).mono ?_; rintro e w4 ⟨rfl, rfl⟩)
      generalize (((V.alloc (.cells #[.int .i64 0] 3)).alloc (.cells #[.int .i64 0] 3)).alloc (.cells #[.pointer (some ⟨w.heap.size + 2, 0, none⟩)] 24)) = W0 at hb0 hca hfa hcn hfn hcp hsz0 ⊢
      obtain ⟨sv, hpV⟩ := HW.out.page
      have hto : tot recs ≤ 1048576 := by have := HW.out.fit.fit; omega
      refine (wpIn_wide (n := 9)).1 ?_
      refine' wpIn_rangeFunc_given rfl (by omega) (gf := 32) (lb := #[.pointer (some ⟨V.heap.size + 2, 0, none⟩)]) rfl trivial (enters_of Try.func32 (by kernel_rfl) rfl)
        (all_hands 8 (by omega) (V.heap.size + 2) w.heap.size (w.heap.size + 2) 200 sv recs V W0 hb0 hpV hto hcp) (fun h k => h.trans k) (fun W l o o' hl _ _ _ => below_putObj (by omega) o') (Below.refl _ _) (fun _ => rfl)
        (fun pre W => (∃ at_ : Nat, at_ ≤ recs.length ∧ pre.map Prod.fst = (idxs recs at_).map (fun (i : Nat) => (i : Int)) ∧ W.cell? ⟨V.heap.size, 0, none⟩ = some (.int .i64 (at_ : Int)) ∧ W.frozen? ⟨V.heap.size, 0, none⟩ = false ∧ W.cell? ⟨V.heap.size + 1, 0, none⟩ = some (.int .i64 (pre.length : Int)) ∧ W.frozen? ⟨V.heap.size + 1, 0, none⟩ = false) ∧ Below V.heap.size V W)
        (fun c pre W => (c = .exit 4 ∧ (pre.length : Int) = stop ∧ W.cell? ⟨V.heap.size + 1, 0, none⟩ = some (.int .i64 (pre.length : Int)) ∧ W.frozen? ⟨V.heap.size + 1, 0, none⟩ = false) ∧ Below V.heap.size V W)
        (OwnFrom.and (Own.from (fun s A B row ⟨at_, h1, h2, h3, h4, h5, h6⟩ hg hr => ⟨at_, h1, h2, cell_kept h3 hg hr, (frozen_kept h3 hg hr).trans h4, cell_kept h5 hg hr, (frozen_kept h5 hg hr).trans h6⟩) _) (ownFrom_below (Nat.le_refl _) (by omega)))
        (fun c => OwnFrom.and (Own.from (fun s A B row ⟨h1, h2, h5, h6⟩ hg hr => ⟨h1, h2, cell_kept h5 hg hr, (frozen_kept h5 hg hr).trans h6⟩) _) (ownFrom_below (Nat.le_refl _) (by omega)))
        (handG_own _ _)
        ⟨⟨0, Nat.zero_le _, rfl, hca, hfa, hcn, hfn⟩, hb0⟩
        _ ?assign ?body ?done ?stop
      case assign =>
        intro l p W K hK
        gi_wp2
        exact hK
      case body =>
        rintro l pre p W ⟨⟨at_, hat, hpre, ca, fa, cn, fn⟩, hB⟩ hlen ⟨k, lr, hk2, hne, hp1, hpre2, hown⟩
        obtain ⟨p1, p2⟩ := p
        simp only at hp1 hown
        subst hp1
        have hkl : k < recs.length := (List.getElem?_eq_some_iff.1 hk2).1
        have hkr : recs[k] = lr := (List.getElem?_eq_some_iff.1 hk2).2
        have hlr0 : 0 < lr.length := List.length_pos_iff.2 hne
        have hhas : hasV recs (k : Int) = true := by rw [hasV_at recs k hkl, hkr]; cases lr with | nil => exact absurd rfl hne | cons _ _ => rfl
        have hidx : idxs recs at_ = idxs recs k := by
          have := hpre.symm.trans hpre2
          exact map_cast_inj _ _ this
        obtain ⟨hak, hbe⟩ := idxs_between hidx hhas
        obtain ⟨gb, cb, hp2, hgb, hrow, hcb, hcm⟩ := ByteRow.of_own (B := V.heap.size) (l := lr) hown (fun e => by
          subst e
          rcases hown.2 with ⟨_, h0⟩ | ⟨_, _, _, h0, _⟩
          · omega
          · cases h0)
        subst hp2
        have hrec : RecAt W (.slice (some ⟨gb, 0, none⟩) lr.length cb) lr := (RecAt.of_own hown).1
        obtain ⟨g, cx', hv⟩ := HX.out.row (by omega)
        injection hv with hA _ hc
        subst hA hc
        have hcm : cb ≤ 9223372036854775807 := hcm
        have hga : gb ≠ V.heap.size := fun e => by
          obtain ⟨z, hz⟩ := hrow.cell 0 hlr0
          rw [e, ca] at hz
          simp at hz
        have hgn : gb ≠ V.heap.size + 1 := fun e => by
          obtain ⟨z, hz⟩ := hrow.cell 0 hlr0
          rw [e, cn] at hz
          simp at hz
        have hrl4 : recs.length ≤ 63 := HW.out.fit.len
        have HROW := hid hrow
        have HREC := hid hrec
        have HBE := hid hbe
        have HBW := hid hB
        have HPRE := hid hpre2
        have HKR := hid hkr
        have hbs := baOf_size
        have hbt := baOf_toList
        clear hpre hpre2 hidx hown hrow hrec hbe hB hk2 hkr
        gi_wp2
        gi_loopw [] (fun W' => ∃ j : Nat, at_ ≤ j ∧ j ≤ k ∧ W'.cell? ⟨V.heap.size, 0, none⟩ = some (.int .i64 (j : Int)) ∧ W'.frozen? ⟨V.heap.size, 0, none⟩ = false ∧ OnRow V.heap.size V.heap.size W W' ∧ KeepsOthers W W') (fun W' => k - numAt ⟨V.heap.size, 0, none⟩ W')
        case atStart => exact ⟨at_, Nat.le_refl _, hak, ca, fa, OnRow.refl _ _ _, KeepsOthers.refl _⟩
        case round =>
          obtain ⟨j, hj1, hj2, ca, fa, hon, hko⟩ := hrel
          have hn1 := numAt_eq ca
          have hbv : Below V.heap.size V wr := HBW.out.trans hon.below
          have cxb : wr.cell? ⟨xb, 0, none⟩ = some (.slice (some ⟨g, 0, none⟩) recs.length cx) := (hbv.cell (p := ⟨xb, 0, none⟩) hxl).trans hxw
          by_cases hjk : j < k
          · have hjl : j < recs.length := by omega
            have hcj := (HX.out.below hbv).cell j hjl
            have hnil : recs[j] = [] := by
              have h1 := HBE.out j hj1 hjk
              rw [hasV_at recs j hjl] at h1
              simpa using h1
            rw [hnil] at hcj
            have HON := hid hon
            have HKO := hid hko
            clear hon hko hnil hbv
            gi_wp2
            go_roundw
            case rel => exact ⟨j + 1, by omega, by omega, by rw [World.cell?_setCell_same' _ _ _ (by rw [ca]; rfl)]; rfl, by rw [World.frozen?_setCell]; exact fa, HON.out.set (Nat.le_refl _) _ _, HKO.out.trans (KeepsOthers.setCell _ _ _)⟩
            case measure =>
              rw [hn1, numAt_eq (j := j + 1) (by rw [World.cell?_setCell_same' _ _ _ (by rw [ca]; rfl)]; rfl)]
              omega
          · obtain rfl : j = k := by omega
            have hck := (HX.out.below hbv).cell j hkl
            rw [HKR.out] at hck
            have hcv : ∀ n, (convert 29 9 (.slice (some ⟨gb, 0, none⟩) lr.length cb)).run Try.prog (wr.drewN n) = .ok (.string (baOf lr)) (wr.drewN n) := fun n => run_string_b (HREC.out.bytes.block (show (wr.drewN n).heap[gb]? = W.heap[gb]? from hon.block gb hga))
            have HON := hid hon
            have HKO := hid hko
            clear hon hko hn1
            have hemp : lr.isEmpty = false := by cases lr with | nil => exact absurd rfl hne | cons _ _ => rfl
            have d1 : decide ((j : Int) ≥ (recs.length : Int)) = false := decide_eq_false (by omega)
            have d2 : decide ((recs.length : Int) ≤ (j : Int)) = false := decide_eq_false (by omega)
            have d3 : decide (recs.length ≤ j) = false := decide_eq_false (by omega)
            gi_wp2
            refine region_quiet_round (by kernel_rfl) (by kernel_rfl) (by kernel_rfl) ?_
            repeat (gi_big_quiet_step (fail))
            refine wpQuietIn_nil ?_
            intro _ hw'
            obtain ⟨nq, hw''⟩ := hw'
            subst hw''
            have HON2 := hid (HON.out.drewN nq)
            have HKO2 := hid (keeps_drewN HKO.out nq)
            have cad : (wr.drewN nq).cell? ⟨V.heap.size, 0, none⟩ = some (.int .i64 (j : Int)) := by simpa using ca
            have fad : (wr.drewN nq).frozen? ⟨V.heap.size, 0, none⟩ = false := by simpa using fa
            clear hcv hck cxb ca fa d1 d2 d3
            have HROW2 := hid (HROW.out.block (HON2.out.block gb hga))
            have cnd := (HON2.out.cell (o := 0) (show V.heap.size + 1 ≠ V.heap.size by omega)).trans cn
            have fnd := (HON2.out.frozen (o := 0) (show V.heap.size + 1 ≠ V.heap.size by omega)).trans fn
            clear HON HKO cn fn
            generalize wr.drewN nq = Wd at HON2 HKO2 cad fad HROW2 cnd fnd ⊢
            have HCA := hid cad
            have HFA := hid fad
            have HCN := hid cnd
            have HFN := hid fnd
            clear cad fad cnd fnd
            gi_wp2
            gi_loopw [103] (fun s103 W' => ∃ i : Nat, i ≤ lr.length ∧ s103 = .int .i64 i ∧ OnRow V.heap.size gb Wd W' ∧ ByteRow W' gb lr.length ∧ KeepsOthers Wd W') (fun s103 _ => lr.length - (intOf s103).toNat)
            case atStart => exact ⟨0, Nat.zero_le _, rfl, OnRow.refl _ _ _, HROW2.out, KeepsOthers.refl _⟩
            case round =>
              obtain ⟨i, hi, rfl, hon3, hrow3, hko3⟩ := hrel
              have HON3 := hid hon3
              have HROW3 := hid hrow3
              have HKO3 := hid hko3
              clear hon3 hrow3 hko3
              by_cases hil : i < lr.length
              · obtain ⟨z, hz⟩ := HROW3.out.cell i hil
                have hfz := HROW3.out.free i
                gi_wp2
                go_roundw
                case rel => exact ⟨i + 1, by omega, by go_num, HON3.out.set hgb _ _, HROW3.out.set _ _, HKO3.out.trans (KeepsOthers.setCell _ _ _)⟩
                case measure => simp [intOf]; omega
              · obtain rfl : i = lr.length := by omega
                have ca3 := (HON3.out.cell (o := 0) (Ne.symm hga)).trans HCA.out
                have fa3 := (HON3.out.frozen (o := 0) (Ne.symm hga)).trans HFA.out
                have cn3 := (HON3.out.cell (o := 0) (Ne.symm hgn)).trans HCN.out
                have fn3 := (HON3.out.frozen (o := 0) (Ne.symm hgn)).trans HFN.out
                have hws : w.heap.size < V.heap.size := by omega
                have hBV : Below V.heap.size V wr := (HBW.out.trans HON2.out.below).trans HON3.out.below
                have cst : wr.cell? ⟨w.heap.size, 0, none⟩ = some (.int .i64 stop) := by
                  have h1 := (hBV.block _ hws).trans HW.out.hs
                  simp [World.cell?, h1]
                have hpl : pre.length < recs.length := hlen
                have wj : IntKind.i64.wrap ((j : Int) + 1) = (j : Int) + 1 := IntWalk.i64_in _ (by omega)
                have wp : IntKind.i64.wrap ((pre.length : Int) + 1) = (pre.length : Int) + 1 := IntWalk.i64_in _ (by omega)
                obtain ⟨W5, hW5⟩ : ∃ W5, W5 = (wr.setCell ⟨V.heap.size, 0, none⟩ (.int .i64 ((j : Int) + 1))).setCell ⟨V.heap.size + 1, 0, none⟩ (.int .i64 ((pre.length : Int) + 1)) := ⟨_, rfl⟩
                have na : ∀ {b : Nat} {u : Value} {X : World} {q : Nat}, b ≠ q → (X.setCell ⟨q, 0, none⟩ u).cell? ⟨b, 0, none⟩ = X.cell? ⟨b, 0, none⟩ := fun h => World.cell?_setCell_other _ _ _ _ (fun e => by injection e with e; exact h e.symm)
                have ca5 : W5.cell? ⟨V.heap.size, 0, none⟩ = some (.int .i64 ((j + 1 : Nat) : Int)) := by
                  rw [hW5, na (by omega), World.cell?_setCell_same' _ _ _ (by rw [ca3]; rfl)]
                  rfl
                have fa5 : W5.frozen? ⟨V.heap.size, 0, none⟩ = false := by rw [hW5, World.frozen?_setCell, World.frozen?_setCell]; exact fa3
                have cn5 : W5.cell? ⟨V.heap.size + 1, 0, none⟩ = some (.int .i64 ((pre.length : Int) + 1)) := by rw [hW5, World.cell?_setCell_same' _ _ _ (by rw [na (by omega), cn3]; rfl)]
                have fn5 : W5.frozen? ⟨V.heap.size + 1, 0, none⟩ = false := by rw [hW5, World.frozen?_setCell, World.frozen?_setCell]; exact fn3
                have cst5 : W5.cell? ⟨w.heap.size, 0, none⟩ = some (.int .i64 stop) := by rw [hW5, na (by omega), na (by omega)]; exact cst
                have hko5 : KeepsOthers W W5 := by rw [hW5]; exact ((HKO2.out.trans HKO3.out).trans (KeepsOthers.setCell _ _ _)).trans (KeepsOthers.setCell _ _ _)
                have hbw5 : Below V.heap.size W W5 := by rw [hW5]; exact ((HON2.out.below.trans HON3.out.below).setCell (p := ⟨V.heap.size, 0, none⟩) (Nat.le_refl _) _).setCell (p := ⟨V.heap.size + 1, 0, none⟩) (Nat.le_succ _) _
                have hbv5 : Below V.heap.size V W5 := HBW.out.trans hbw5
                have hmap : (pre ++ [((j : Int), Value.slice (some ⟨gb, 0, none⟩) lr.length cb)]).map Prod.fst = (idxs recs (j + 1)).map (fun (i : Nat) => (i : Int)) := by
                  rw [idxs_succ, if_pos hhas, List.map_append, List.map_append, HPRE.out]
                  rfl
                have hlen5 : (((pre ++ [((j : Int), Value.slice (some ⟨gb, 0, none⟩) lr.length cb)]).length : Nat) : Int) = (pre.length : Int) + 1 := by simp
                obtain ⟨W6, hW6⟩ : ∃ W6, W6 = W5.drew := ⟨_, rfl⟩
                have ca5 : W6.cell? ⟨V.heap.size, 0, none⟩ = some (.int .i64 ((j + 1 : Nat) : Int)) := by rw [hW6]; exact ca5
                have fa5 : W6.frozen? ⟨V.heap.size, 0, none⟩ = false := by rw [hW6]; exact fa5
                have cn5 : W6.cell? ⟨V.heap.size + 1, 0, none⟩ = some (.int .i64 ((pre.length : Int) + 1)) := by rw [hW6]; exact cn5
                have fn5 : W6.frozen? ⟨V.heap.size + 1, 0, none⟩ = false := by rw [hW6]; exact fn5
                have cst5 : W6.cell? ⟨w.heap.size, 0, none⟩ = some (.int .i64 stop) := by rw [hW6]; exact cst5
                have hko5 : KeepsOthers W W6 := by rw [hW6]; exact hko5.trans (KeepsOthers.drew _)
                have hbw5 : Below V.heap.size W W6 := by rw [hW6]; exact hbw5.drew
                have hbv5 : Below V.heap.size V W6 := by rw [hW6]; exact hbv5.drew
                have HW6 := hid hW6
                have HMAP := hid hmap
                have HLEN5 := hid hlen5
                have HKO5 := hid hko5
                have HBW5 := hid hbw5
                have HBV5 := hid hbv5
                have HCA5 := hid ca5
                have HFA5 := hid fa5
                have HFN5 := hid fn5
                have HCN5 := hid cn5
                have HCST5 := hid cst5
                have HW5 := hid hW5
                clear hmap hlen5 hko5 hbw5 hbv5 ca5 fa5 fn5 cn5 cst5 na hBV cst hW5 hW6
                gi_wp2
                gi_region
                all_goals
                  rw [← HW5.out, ← HW6.out]
                  have cn5 := HCN5.out
                  have cst5 := HCST5.out
                  by_cases hs : (pre.length : Int) + 1 = stop
                  · have e5 : ((pre.length : Int) + 1 == stop) = true := by simpa using hs
                    gi_wp2
                    exact ⟨HKO5.out.from _, ⟨rfl, by rw [HLEN5.out]; exact hs, by rw [HLEN5.out]; exact HCN5.out, HFN5.out⟩, HBV5.out⟩
                  · have e5 : ((pre.length : Int) + 1 == stop) = false := by simpa using hs
                    gi_wp2
                    exact ⟨HKO5.out.from _, HBW5.out, ⟨j + 1, hkl, HMAP.out, HCA5.out, HFA5.out, by rw [HLEN5.out]; exact HCN5.out, HFN5.out⟩, HBV5.out⟩
      case done =>
        rintro D ys W hD hys ⟨⟨at_, hat, hpre, ca, fa, cn, fn⟩, hB⟩ hK
        have hyl : ys.length = (idxs recs recs.length).length := by have := congrArg List.length hys; simpa using this
        rw [hyl] at cn
        have HWB := hid (HW.out.below.trans (hB.mono HW.out.below.size))
        have hsV : W.heap[w.heap.size]? = some (.cells #[.int .i64 stop] 3) := (hB.block _ (by omega)).trans HW.out.hs
        have hrW : W.heap[w.heap.size + 1]? = some (.cells #[.bool false] 4) := (hB.block _ (by omega)).trans HW.out.hr
        have hpW := hpV.kept hB
        have HXW := hid (HX.out.below hB)
        have hrl := heap_lt hrW
        have hDl := heap_lt hK
        have hVW := hB.size
        have hnl : V.heap.size + 1 < W.heap.size := by have := World.block_lt_of_cell? _ _ cn; simpa using this
        have hws' : w.heap.size ≤ W.heap.size := by omega
        have lx : ∀ w', But w.heap.size (w.heap.size + 1) W w' → w'.cell? ⟨xb, 0, none⟩ = some (.slice Ax recs.length cx) := fun w' h => (World.cell?_of_block (a := ⟨xb, 0, none⟩) (h.block xb (by omega) (by omega))).trans ((hB.cell (p := ⟨xb, 0, none⟩) hxl).trans hxw)
        have ls : ∀ w', But w.heap.size (w.heap.size + 1) W w' → w'.cell? ⟨w.heap.size, 0, none⟩ = some (.int .i64 stop) := fun w' h => by
          have h1 := (h.block w.heap.size (by omega) (by omega)).trans hsV
          simp [World.cell?, h1]
        have ln : ∀ w', But w.heap.size (w.heap.size + 1) W w' → w'.cell? ⟨V.heap.size + 1, 0, none⟩ = some (.int .i64 ((idxs recs recs.length).length : Int)) := fun w' h => (World.cell?_of_block (a := ⟨V.heap.size + 1, 0, none⟩) (h.block _ hnl (by show V.heap.size + 1 ≠ _; omega))).trans cn
        clear hys hpre ca fa cn fn hyl hsV
        go_wp2_with fail
        refine wp_region_noPanic ?_
        refine wp_region_held_drew (S := fun w' => But w.heap.size (w.heap.size + 1) W w') (by kernel_rfl) (But.drew _) (fun hHeld => ?_)
        have HPd := hid (hpW.kept (show Below W.heap.size W W.drew from (Below.refl _ _).drew))
        clear hpW
        refine wpAnyH_take (i := 0) (oi := { dst := some 120, op := Op.load 3 (Operand.tmp 11), type := 3, pos := _, after := _, guard := none }) (v := ?_) rfl (by kernel_rfl) (by kernel_rfl) (by kernel_rfl) (fun _ _ _ h => h) (Or.inl ⟨by rfl, ?_⟩) (by assumption) ?_
        case refine_2 => (intro w hSw; go_simp <;> with_reducible rfl)
        simp only [Act.put, List.setIfInBounds_toArray, List.set_cons_zero, List.set_cons_succ]
        refine wpAnyH_take (i := 1) (oi := { dst := some 121, op := Op.move (Operand.tmp 5), type := 24, pos := _, after := _, guard := none }) (v := ?_) rfl (by kernel_rfl) (by kernel_rfl) (by kernel_rfl) (fun _ _ _ h => h) (Or.inl ⟨by rfl, ?_⟩) (by assumption) ?_
        case refine_2 => (intro w hSw; go_simp <;> with_reducible rfl)
        simp only [Act.put, List.setIfInBounds_toArray, List.set_cons_zero, List.set_cons_succ]
        refine wpAnyH_ready (rs := [2]) (by kernel_rfl) (by simp) ?_
        refine AllReadyH.cons (o := { dst := some 122, op := Op.call { callee := Callee.value (Operand.func 13), args := #[Operand.tmp 121], argTypes := #[24] }, type := 3, pos := _, after := _, guard := none }) rfl (fun K' hK' => ?_) AllReadyH.nil
        go_simp
        go_at_call 13
        refine (len_any (w.heap.size + 2) 200 sv recs _ HPd.out hto).mono ?_
        rintro e w5 ⟨rfl, hb5⟩
        have hs5 := hHeld.step hb5 hws'
        have HP5 := hid (HPd.out.kept hb5)
        have HB5 := hid (show Below W.heap.size W w5 from ((Below.refl _ _).drew).trans hb5)
        refine hK'.out _ _ hs5 (fun _ => ?_)
        clear hK' K' hHeld hb5
        try simp only [Act.put, List.setIfInBounds_toArray, List.set_cons_zero, List.set_cons_succ]
        refine wpAnyH_take (i := 3) (oi := { dst := some 123, op := Op.binOp BinOp.eql 3 (Operand.tmp 120) (Operand.tmp 122) 3, type := 4, pos := _, after := _, guard := none }) (v := ?_) rfl (by kernel_rfl) (by kernel_rfl) (by kernel_rfl) (fun _ _ _ h => h) (Or.inl ⟨by rfl, ?_⟩) (by assumption) ?_
        case refine_2 => (intro w hSw; go_simp <;> with_reducible rfl)
        simp only [Act.put, List.setIfInBounds_toArray, List.set_cons_zero, List.set_cons_succ]
        refine wpAnyH_take (i := 4) (oi := { dst := some 124, op := Op.move (Operand.tmp 123), type := 4, pos := _, after := _, guard := none }) (v := ?_) rfl (by kernel_rfl) (by kernel_rfl) (by kernel_rfl) (fun _ _ _ h => h) (Or.inl ⟨by rfl, ?_⟩) (by assumption) ?_
        case refine_2 => (intro w hSw; go_simp <;> with_reducible rfl)
        simp only [Act.put, List.setIfInBounds_toArray, List.set_cons_zero, List.set_cons_succ]
        refine wpAnyH_take (i := 5) (oi := { dst := some 125, op := Op.load 3 (Operand.tmp 11), type := 3, pos := _, after := _, guard := some (4, false) }) (v := undef) rfl (by kernel_rfl) (by kernel_rfl) (by kernel_rfl) (fun _ _ _ h => h) (Or.inr ⟨by rfl, rfl⟩) (by assumption) ?_
        simp only [Act.put, List.setIfInBounds_toArray, List.set_cons_zero, List.set_cons_succ]
        refine wpAnyH_take (i := 6) (oi := { dst := some 126, op := Op.load 3 (Operand.tmp 3), type := 3, pos := _, after := _, guard := some (4, false) }) (v := undef) rfl (by kernel_rfl) (by kernel_rfl) (by kernel_rfl) (fun _ _ _ h => h) (Or.inr ⟨by rfl, rfl⟩) (by assumption) ?_
        simp only [Act.put, List.setIfInBounds_toArray, List.set_cons_zero, List.set_cons_succ]
        refine wpAnyH_take (i := 7) (oi := { dst := some 127, op := Op.binOp BinOp.eql 3 (Operand.tmp 125) (Operand.tmp 126) 3, type := 4, pos := _, after := _, guard := some (4, false) }) (v := undef) rfl (by kernel_rfl) (by kernel_rfl) (by kernel_rfl) (fun _ _ _ h => h) (Or.inr ⟨by rfl, rfl⟩) (by assumption) ?_
        simp only [Act.put, List.setIfInBounds_toArray, List.set_cons_zero, List.set_cons_succ]
        refine wpAnyH_take (i := 8) (oi := { dst := some 128, op := Op.pick (Operand.tmp 124) (Operand.const (Value.bool true)) (Operand.tmp 127), type := 4, pos := _, after := _, guard := none }) (v := ?_) rfl (by kernel_rfl) (by kernel_rfl) (by kernel_rfl) (fun _ _ _ h => h) (Or.inl ⟨by rfl, ?_⟩) (by assumption) ?_
        case refine_2 => (intro w hSw; go_simp <;> with_reducible rfl)
        simp only [Act.put, List.setIfInBounds_toArray, List.set_cons_zero, List.set_cons_succ]
        refine wpAnyH_take (i := 9) (oi := { dst := some 129, op := Op.move (Operand.tmp 128), type := 4, pos := _, after := _, guard := none }) (v := ?_) rfl (by kernel_rfl) (by kernel_rfl) (by kernel_rfl) (fun _ _ _ h => h) (Or.inl ⟨by rfl, ?_⟩) (by assumption) ?_
        case refine_2 => (intro w hSw; go_simp <;> with_reducible rfl)
        simp only [Act.put, List.setIfInBounds_toArray, List.set_cons_zero, List.set_cons_succ]
        refine wpAnyH_take (i := 10) (oi := { dst := some 130, op := Op.move (Operand.tmp 5), type := 24, pos := _, after := _, guard := some (9, true) }) (v := ?_) rfl (by kernel_rfl) (by kernel_rfl) (by kernel_rfl) (fun _ _ _ h => h) (Or.inl ⟨by rfl, ?_⟩) (by assumption) ?_
        case refine_2 => (intro w hSw; go_simp <;> with_reducible rfl)
        simp only [Act.put, List.setIfInBounds_toArray, List.set_cons_zero, List.set_cons_succ]
        refine wpAnyH_take (i := 11) (oi := { dst := some 131, op := Op.load 35 (Operand.tmp 6), type := 35, pos := _, after := _, guard := some (9, true) }) (v := ?_) rfl (by kernel_rfl) (by kernel_rfl) (by kernel_rfl) (fun _ _ _ h => h) (Or.inl ⟨by rfl, ?_⟩) (by assumption) ?_
        case refine_2 => (intro w hSw; go_simp <;> with_reducible rfl)
        simp only [Act.put, List.setIfInBounds_toArray, List.set_cons_zero, List.set_cons_succ]
        refine wpAnyH_ready (rs := [12]) (by kernel_rfl) (by simp) ?_
        refine AllReadyH.cons (o := { dst := some 132, op := Op.call { callee := Callee.value (Operand.func 17), args := #[Operand.tmp 130, Operand.tmp 131, Operand.const (Value.int IntKind.i64 200)], argTypes := #[24, 35, 3] }, type := 4, pos := _, after := _, guard := some (9, true) }) rfl (fun K' hK' => ?_) AllReadyH.nil
        go_simp
        go_at_call 17
        refine (same_any (w.heap.size + 2) 200 sv recs _ _ HP5.out (HXW.out.below HB5.out) HW.out.fit.fit (by omega) (by have := HW.out.fit.len; omega)).mono ?_
        rintro e w6 ⟨rfl, hb6⟩
        have hs6 := hs5.step hb6 hws'
        have HB6 := hid (HB5.out.trans (hb6.mono HB5.out.size))
        refine hK'.out _ _ hs6 (fun _ => ?_)
        clear hK' K' hs5 hb6
        try simp only [Act.put, List.setIfInBounds_toArray, List.set_cons_zero, List.set_cons_succ]
        refine wpAnyH_take (i := 13) (oi := { dst := some 133, op := Op.pick (Operand.tmp 129) (Operand.tmp 132) (Operand.const (Value.bool false)), type := 4, pos := _, after := _, guard := none }) (v := ?_) rfl (by kernel_rfl) (by kernel_rfl) (by kernel_rfl) (fun _ _ _ h => h) (Or.inl ⟨by rfl, ?_⟩) (by assumption) ?_
        case refine_2 => (intro w hSw; go_simp <;> with_reducible rfl)
        simp only [Act.put, List.setIfInBounds_toArray, List.set_cons_zero, List.set_cons_succ]
        refine wpAnyH_take (i := 14) (oi := { dst := some 134, op := Op.move (Operand.tmp 133), type := 4, pos := _, after := _, guard := none }) (v := ?_) rfl (by kernel_rfl) (by kernel_rfl) (by kernel_rfl) (fun _ _ _ h => h) (Or.inl ⟨by rfl, ?_⟩) (by assumption) ?_
        case refine_2 => (intro w hSw; go_simp <;> with_reducible rfl)
        simp only [Act.put, List.setIfInBounds_toArray, List.set_cons_zero, List.set_cons_succ]
        refine wpAnyH_ready (rs := [15]) (by kernel_rfl) (by simp) ?_
        refine AllReadyH.cons (o := { dst := some 135, op := Op.call { callee := Callee.value (Operand.func 8), args := #[], argTypes := #[] }, type := 4, pos := _, after := _, guard := some (14, true) }) rfl (fun K' hK' => ?_) AllReadyH.nil
        go_simp
        go_at_call 8
        refine (awake_any _).mono ?_
        rintro e w7 ⟨rfl, hb7⟩
        have hs7 := hs6.step hb7 hws'
        have HB7 := hid (HB6.out.trans (hb7.mono HB6.out.size))
        refine hK'.out _ _ hs7 (fun _ => ?_)
        clear hK' K' hs6 hb7
        try simp only [Act.put, List.setIfInBounds_toArray, List.set_cons_zero, List.set_cons_succ]
        refine wpAnyH_take (i := 16) (oi := { dst := some 136, op := Op.pick (Operand.tmp 134) (Operand.tmp 135) (Operand.const (Value.bool false)), type := 4, pos := _, after := _, guard := none }) (v := ?_) rfl (by kernel_rfl) (by kernel_rfl) (by kernel_rfl) (fun _ _ _ h => h) (Or.inl ⟨by rfl, ?_⟩) (by assumption) ?_
        case refine_2 => (intro w hSw; go_simp <;> with_reducible rfl)
        simp only [Act.put, List.setIfInBounds_toArray, List.set_cons_zero, List.set_cons_succ]
        have hr7 := (HB7.out.block _ hrl).trans hrW
        have hrc7 : w7.cell? ⟨w.heap.size + 1, 0, none⟩ = some (.bool false) := by simp [World.cell?, hr7]
        have hrf7 : w7.frozen? ⟨w.heap.size + 1, 0, none⟩ = false := by simp [World.frozen?, hr7]
        refine wpAnyH_ready (rs := [17]) (by kernel_rfl) (by simp) ?_
        refine AllReadyH.cons (o := { dst := none, op := Op.store 4 (Operand.tmp 4) (Operand.tmp 136), type := 0, pos := _, after := _, guard := none }) rfl (fun K' hK' => ?_) AllReadyH.nil
        go_simp
        have hs8 := hs7.set (Nat.le_succ _) 0 (.bool true)
        have HS8 := hid hs8
        refine hK'.out _ _ hs8 (fun _ => ?_)
        clear hK' K' hs7
        try simp only [Act.put, List.setIfInBounds_toArray, List.set_cons_zero, List.set_cons_succ]
        refine wpAnyH_done (by kernel_rfl) ?_ _
        refine NoPanic.normal ?_
        have hK8 := (HS8.out.block D hDl (by omega)).trans hK
        have hc8 : (w7.setCell ⟨w.heap.size + 1, 0, none⟩ (.bool true)).cell? ⟨w.heap.size + 1, 0, none⟩ = some (.bool true) := World.cell?_setCell_same' w7 ⟨w.heap.size + 1, 0, none⟩ (.bool true) (by rw [hrc7]; rfl)
        have HB8 := hid (HWB.out.trans HS8.out.below)
        generalize w7.setCell ⟨w.heap.size + 1, 0, none⟩ (.bool true) = wz at hK8 hc8 HB8 ⊢
        clear HS8 hr7 hrc7 hrf7
        go_wp2
        refine ⟨by simp, .inl ⟨_, _, rfl, run_takeDeferred hK8, ?_⟩⟩
        have hc9 := cell_kept hc8 (grownBy_putObj' _ D (.deferred none)) (fun r e => by cases e; exact ⟨_, hK8, rfl⟩)
        refine ⟨.bool true, ?_, rfl, HB8.out.trans (belowK_b (w := w) (Nat.le_refl _) _ D _ _ (by omega) hK8 rfl rfl)⟩
        simp [results, Try.f4, go_sem, hc9]
      case stop =>
        rintro D c pre W hD hpre ⟨⟨rfl, hst, cn, fn⟩, hB⟩ hK
        have HWB := hid (HW.out.below.trans (hB.mono HW.out.below.size))
        have hsV : W.heap[w.heap.size]? = some (.cells #[.int .i64 stop] 3) := (hB.block _ (by omega)).trans HW.out.hs
        have hrW : W.heap[w.heap.size + 1]? = some (.cells #[.bool false] 4) := (hB.block _ (by omega)).trans HW.out.hr
        have hpW := hpV.kept hB
        have HXW := hid (HX.out.below hB)
        have hrl := heap_lt hrW
        have hDl := heap_lt hK
        have hVW := hB.size
        have hnl : V.heap.size + 1 < W.heap.size := by have := World.block_lt_of_cell? _ _ cn; simpa using this
        have hws' : w.heap.size ≤ W.heap.size := by omega
        have lx : ∀ w', But w.heap.size (w.heap.size + 1) W w' → w'.cell? ⟨xb, 0, none⟩ = some (.slice Ax recs.length cx) := fun w' h => (World.cell?_of_block (a := ⟨xb, 0, none⟩) (h.block xb (by omega) (by omega))).trans ((hB.cell (p := ⟨xb, 0, none⟩) hxl).trans hxw)
        have ls : ∀ w', But w.heap.size (w.heap.size + 1) W w' → w'.cell? ⟨w.heap.size, 0, none⟩ = some (.int .i64 stop) := fun w' h => by
          have h1 := (h.block w.heap.size (by omega) (by omega)).trans hsV
          simp [World.cell?, h1]
        have ln : ∀ w', But w.heap.size (w.heap.size + 1) W w' → w'.cell? ⟨V.heap.size + 1, 0, none⟩ = some (.int .i64 (pre.length : Int)) := fun w' h => (World.cell?_of_block (a := ⟨V.heap.size + 1, 0, none⟩) (h.block _ hnl (by show V.heap.size + 1 ≠ _; omega))).trans cn
        clear hpre cn fn hsV
        refine wpIn_wide.2 ?_
        by_cases hq : pre.length = (idxs recs recs.length).length
        · rw [hq] at ln
          clear hq hst
          go_wp2_with fail
          refine wp_region_noPanic ?_
          refine wp_region_held_drew (S := fun w' => But w.heap.size (w.heap.size + 1) W w') (by kernel_rfl) (But.drew _) (fun hHeld => ?_)
          have HPd := hid (hpW.kept (show Below W.heap.size W W.drew from (Below.refl _ _).drew))
          clear hpW
          refine wpAnyH_take (i := 0) (oi := { dst := some 120, op := Op.load 3 (Operand.tmp 11), type := 3, pos := _, after := _, guard := none }) (v := ?_) rfl (by kernel_rfl) (by kernel_rfl) (by kernel_rfl) (fun _ _ _ h => h) (Or.inl ⟨by rfl, ?_⟩) (by assumption) ?_
          case refine_2 => (intro w hSw; go_simp <;> with_reducible rfl)
          simp only [Act.put, List.setIfInBounds_toArray, List.set_cons_zero, List.set_cons_succ]
          refine wpAnyH_take (i := 1) (oi := { dst := some 121, op := Op.move (Operand.tmp 5), type := 24, pos := _, after := _, guard := none }) (v := ?_) rfl (by kernel_rfl) (by kernel_rfl) (by kernel_rfl) (fun _ _ _ h => h) (Or.inl ⟨by rfl, ?_⟩) (by assumption) ?_
          case refine_2 => (intro w hSw; go_simp <;> with_reducible rfl)
          simp only [Act.put, List.setIfInBounds_toArray, List.set_cons_zero, List.set_cons_succ]
          refine wpAnyH_ready (rs := [2]) (by kernel_rfl) (by simp) ?_
          refine AllReadyH.cons (o := { dst := some 122, op := Op.call { callee := Callee.value (Operand.func 13), args := #[Operand.tmp 121], argTypes := #[24] }, type := 3, pos := _, after := _, guard := none }) rfl (fun K' hK' => ?_) AllReadyH.nil
          go_simp
          go_at_call 13
          refine (len_any (w.heap.size + 2) 200 sv recs _ HPd.out hto).mono ?_
          rintro e w5 ⟨rfl, hb5⟩
          have hs5 := hHeld.step hb5 hws'
          have HP5 := hid (HPd.out.kept hb5)
          have HB5 := hid (show Below W.heap.size W w5 from ((Below.refl _ _).drew).trans hb5)
          refine hK'.out _ _ hs5 (fun _ => ?_)
          clear hK' K' hHeld hb5
          try simp only [Act.put, List.setIfInBounds_toArray, List.set_cons_zero, List.set_cons_succ]
          refine wpAnyH_take (i := 3) (oi := { dst := some 123, op := Op.binOp BinOp.eql 3 (Operand.tmp 120) (Operand.tmp 122) 3, type := 4, pos := _, after := _, guard := none }) (v := ?_) rfl (by kernel_rfl) (by kernel_rfl) (by kernel_rfl) (fun _ _ _ h => h) (Or.inl ⟨by rfl, ?_⟩) (by assumption) ?_
          case refine_2 => (intro w hSw; go_simp <;> with_reducible rfl)
          simp only [Act.put, List.setIfInBounds_toArray, List.set_cons_zero, List.set_cons_succ]
          refine wpAnyH_take (i := 4) (oi := { dst := some 124, op := Op.move (Operand.tmp 123), type := 4, pos := _, after := _, guard := none }) (v := ?_) rfl (by kernel_rfl) (by kernel_rfl) (by kernel_rfl) (fun _ _ _ h => h) (Or.inl ⟨by rfl, ?_⟩) (by assumption) ?_
          case refine_2 => (intro w hSw; go_simp <;> with_reducible rfl)
          simp only [Act.put, List.setIfInBounds_toArray, List.set_cons_zero, List.set_cons_succ]
          refine wpAnyH_take (i := 5) (oi := { dst := some 125, op := Op.load 3 (Operand.tmp 11), type := 3, pos := _, after := _, guard := some (4, false) }) (v := undef) rfl (by kernel_rfl) (by kernel_rfl) (by kernel_rfl) (fun _ _ _ h => h) (Or.inr ⟨by rfl, rfl⟩) (by assumption) ?_
          simp only [Act.put, List.setIfInBounds_toArray, List.set_cons_zero, List.set_cons_succ]
          refine wpAnyH_take (i := 6) (oi := { dst := some 126, op := Op.load 3 (Operand.tmp 3), type := 3, pos := _, after := _, guard := some (4, false) }) (v := undef) rfl (by kernel_rfl) (by kernel_rfl) (by kernel_rfl) (fun _ _ _ h => h) (Or.inr ⟨by rfl, rfl⟩) (by assumption) ?_
          simp only [Act.put, List.setIfInBounds_toArray, List.set_cons_zero, List.set_cons_succ]
          refine wpAnyH_take (i := 7) (oi := { dst := some 127, op := Op.binOp BinOp.eql 3 (Operand.tmp 125) (Operand.tmp 126) 3, type := 4, pos := _, after := _, guard := some (4, false) }) (v := undef) rfl (by kernel_rfl) (by kernel_rfl) (by kernel_rfl) (fun _ _ _ h => h) (Or.inr ⟨by rfl, rfl⟩) (by assumption) ?_
          simp only [Act.put, List.setIfInBounds_toArray, List.set_cons_zero, List.set_cons_succ]
          refine wpAnyH_take (i := 8) (oi := { dst := some 128, op := Op.pick (Operand.tmp 124) (Operand.const (Value.bool true)) (Operand.tmp 127), type := 4, pos := _, after := _, guard := none }) (v := ?_) rfl (by kernel_rfl) (by kernel_rfl) (by kernel_rfl) (fun _ _ _ h => h) (Or.inl ⟨by rfl, ?_⟩) (by assumption) ?_
          case refine_2 => (intro w hSw; go_simp <;> with_reducible rfl)
          simp only [Act.put, List.setIfInBounds_toArray, List.set_cons_zero, List.set_cons_succ]
          refine wpAnyH_take (i := 9) (oi := { dst := some 129, op := Op.move (Operand.tmp 128), type := 4, pos := _, after := _, guard := none }) (v := ?_) rfl (by kernel_rfl) (by kernel_rfl) (by kernel_rfl) (fun _ _ _ h => h) (Or.inl ⟨by rfl, ?_⟩) (by assumption) ?_
          case refine_2 => (intro w hSw; go_simp <;> with_reducible rfl)
          simp only [Act.put, List.setIfInBounds_toArray, List.set_cons_zero, List.set_cons_succ]
          refine wpAnyH_take (i := 10) (oi := { dst := some 130, op := Op.move (Operand.tmp 5), type := 24, pos := _, after := _, guard := some (9, true) }) (v := ?_) rfl (by kernel_rfl) (by kernel_rfl) (by kernel_rfl) (fun _ _ _ h => h) (Or.inl ⟨by rfl, ?_⟩) (by assumption) ?_
          case refine_2 => (intro w hSw; go_simp <;> with_reducible rfl)
          simp only [Act.put, List.setIfInBounds_toArray, List.set_cons_zero, List.set_cons_succ]
          refine wpAnyH_take (i := 11) (oi := { dst := some 131, op := Op.load 35 (Operand.tmp 6), type := 35, pos := _, after := _, guard := some (9, true) }) (v := ?_) rfl (by kernel_rfl) (by kernel_rfl) (by kernel_rfl) (fun _ _ _ h => h) (Or.inl ⟨by rfl, ?_⟩) (by assumption) ?_
          case refine_2 => (intro w hSw; go_simp <;> with_reducible rfl)
          simp only [Act.put, List.setIfInBounds_toArray, List.set_cons_zero, List.set_cons_succ]
          refine wpAnyH_ready (rs := [12]) (by kernel_rfl) (by simp) ?_
          refine AllReadyH.cons (o := { dst := some 132, op := Op.call { callee := Callee.value (Operand.func 17), args := #[Operand.tmp 130, Operand.tmp 131, Operand.const (Value.int IntKind.i64 200)], argTypes := #[24, 35, 3] }, type := 4, pos := _, after := _, guard := some (9, true) }) rfl (fun K' hK' => ?_) AllReadyH.nil
          go_simp
          go_at_call 17
          refine (same_any (w.heap.size + 2) 200 sv recs _ _ HP5.out (HXW.out.below HB5.out) HW.out.fit.fit (by omega) (by have := HW.out.fit.len; omega)).mono ?_
          rintro e w6 ⟨rfl, hb6⟩
          have hs6 := hs5.step hb6 hws'
          have HB6 := hid (HB5.out.trans (hb6.mono HB5.out.size))
          refine hK'.out _ _ hs6 (fun _ => ?_)
          clear hK' K' hs5 hb6
          try simp only [Act.put, List.setIfInBounds_toArray, List.set_cons_zero, List.set_cons_succ]
          refine wpAnyH_take (i := 13) (oi := { dst := some 133, op := Op.pick (Operand.tmp 129) (Operand.tmp 132) (Operand.const (Value.bool false)), type := 4, pos := _, after := _, guard := none }) (v := ?_) rfl (by kernel_rfl) (by kernel_rfl) (by kernel_rfl) (fun _ _ _ h => h) (Or.inl ⟨by rfl, ?_⟩) (by assumption) ?_
          case refine_2 => (intro w hSw; go_simp <;> with_reducible rfl)
          simp only [Act.put, List.setIfInBounds_toArray, List.set_cons_zero, List.set_cons_succ]
          refine wpAnyH_take (i := 14) (oi := { dst := some 134, op := Op.move (Operand.tmp 133), type := 4, pos := _, after := _, guard := none }) (v := ?_) rfl (by kernel_rfl) (by kernel_rfl) (by kernel_rfl) (fun _ _ _ h => h) (Or.inl ⟨by rfl, ?_⟩) (by assumption) ?_
          case refine_2 => (intro w hSw; go_simp <;> with_reducible rfl)
          simp only [Act.put, List.setIfInBounds_toArray, List.set_cons_zero, List.set_cons_succ]
          refine wpAnyH_ready (rs := [15]) (by kernel_rfl) (by simp) ?_
          refine AllReadyH.cons (o := { dst := some 135, op := Op.call { callee := Callee.value (Operand.func 8), args := #[], argTypes := #[] }, type := 4, pos := _, after := _, guard := some (14, true) }) rfl (fun K' hK' => ?_) AllReadyH.nil
          go_simp
          go_at_call 8
          refine (awake_any _).mono ?_
          rintro e w7 ⟨rfl, hb7⟩
          have hs7 := hs6.step hb7 hws'
          have HB7 := hid (HB6.out.trans (hb7.mono HB6.out.size))
          refine hK'.out _ _ hs7 (fun _ => ?_)
          clear hK' K' hs6 hb7
          try simp only [Act.put, List.setIfInBounds_toArray, List.set_cons_zero, List.set_cons_succ]
          refine wpAnyH_take (i := 16) (oi := { dst := some 136, op := Op.pick (Operand.tmp 134) (Operand.tmp 135) (Operand.const (Value.bool false)), type := 4, pos := _, after := _, guard := none }) (v := ?_) rfl (by kernel_rfl) (by kernel_rfl) (by kernel_rfl) (fun _ _ _ h => h) (Or.inl ⟨by rfl, ?_⟩) (by assumption) ?_
          case refine_2 => (intro w hSw; go_simp <;> with_reducible rfl)
          simp only [Act.put, List.setIfInBounds_toArray, List.set_cons_zero, List.set_cons_succ]
          have hr7 := (HB7.out.block _ hrl).trans hrW
          have hrc7 : w7.cell? ⟨w.heap.size + 1, 0, none⟩ = some (.bool false) := by simp [World.cell?, hr7]
          have hrf7 : w7.frozen? ⟨w.heap.size + 1, 0, none⟩ = false := by simp [World.frozen?, hr7]
          refine wpAnyH_ready (rs := [17]) (by kernel_rfl) (by simp) ?_
          refine AllReadyH.cons (o := { dst := none, op := Op.store 4 (Operand.tmp 4) (Operand.tmp 136), type := 0, pos := _, after := _, guard := none }) rfl (fun K' hK' => ?_) AllReadyH.nil
          go_simp
          have hs8 := hs7.set (Nat.le_succ _) 0 (.bool true)
          have HS8 := hid hs8
          refine hK'.out _ _ hs8 (fun _ => ?_)
          clear hK' K' hs7
          try simp only [Act.put, List.setIfInBounds_toArray, List.set_cons_zero, List.set_cons_succ]
          refine wpAnyH_done (by kernel_rfl) ?_ _
          refine NoPanic.normal ?_
          have hK8 := (HS8.out.block D hDl (by omega)).trans hK
          have hc8 : (w7.setCell ⟨w.heap.size + 1, 0, none⟩ (.bool true)).cell? ⟨w.heap.size + 1, 0, none⟩ = some (.bool true) := World.cell?_setCell_same' w7 ⟨w.heap.size + 1, 0, none⟩ (.bool true) (by rw [hrc7]; rfl)
          have HB8 := hid (HWB.out.trans HS8.out.below)
          generalize w7.setCell ⟨w.heap.size + 1, 0, none⟩ (.bool true) = wz at hK8 hc8 HB8 ⊢
          clear HS8 hr7 hrc7 hrf7
          go_wp2
          refine ⟨by simp, .inl ⟨_, _, rfl, run_takeDeferred hK8, ?_⟩⟩
          have hc9 := cell_kept hc8 (grownBy_putObj' _ D (.deferred none)) (fun r e => by cases e; exact ⟨_, hK8, rfl⟩)
          refine ⟨.bool true, ?_, rfl, HB8.out.trans (belowK_b (w := w) (Nat.le_refl _) _ D _ _ (by omega) hK8 rfl rfl)⟩
          simp [results, Try.f4, go_sem, hc9]
        · have q1 : ((pre.length : Int) == ((idxs recs recs.length).length : Int)) = false := by
            rw [beq_eq_false_iff_ne]
            omega
          have q2 : ((pre.length : Int) == stop) = true := by simpa using hst
          clear hq hst
          go_wp2_with fail
          refine wp_region_noPanic ?_
          refine wp_region_held_drew (S := fun w' => But w.heap.size (w.heap.size + 1) W w') (by kernel_rfl) (But.drew _) (fun hHeld => ?_)
          have HPd := hid (hpW.kept (show Below W.heap.size W W.drew from (Below.refl _ _).drew))
          clear hpW
          refine wpAnyH_take (i := 0) (oi := { dst := some 120, op := Op.load 3 (Operand.tmp 11), type := 3, pos := _, after := _, guard := none }) (v := ?_) rfl (by kernel_rfl) (by kernel_rfl) (by kernel_rfl) (fun _ _ _ h => h) (Or.inl ⟨by rfl, ?_⟩) (by assumption) ?_
          case refine_2 => (intro w hSw; go_simp <;> with_reducible rfl)
          simp only [Act.put, List.setIfInBounds_toArray, List.set_cons_zero, List.set_cons_succ]
          refine wpAnyH_take (i := 1) (oi := { dst := some 121, op := Op.move (Operand.tmp 5), type := 24, pos := _, after := _, guard := none }) (v := ?_) rfl (by kernel_rfl) (by kernel_rfl) (by kernel_rfl) (fun _ _ _ h => h) (Or.inl ⟨by rfl, ?_⟩) (by assumption) ?_
          case refine_2 => (intro w hSw; go_simp <;> with_reducible rfl)
          simp only [Act.put, List.setIfInBounds_toArray, List.set_cons_zero, List.set_cons_succ]
          refine wpAnyH_ready (rs := [2]) (by kernel_rfl) (by simp) ?_
          refine AllReadyH.cons (o := { dst := some 122, op := Op.call { callee := Callee.value (Operand.func 13), args := #[Operand.tmp 121], argTypes := #[24] }, type := 3, pos := _, after := _, guard := none }) rfl (fun K' hK' => ?_) AllReadyH.nil
          go_simp
          go_at_call 13
          refine (len_any (w.heap.size + 2) 200 sv recs _ HPd.out hto).mono ?_
          rintro e w5 ⟨rfl, hb5⟩
          have hs5 := hHeld.step hb5 hws'
          have HP5 := hid (HPd.out.kept hb5)
          have HB5 := hid (show Below W.heap.size W w5 from ((Below.refl _ _).drew).trans hb5)
          refine hK'.out _ _ hs5 (fun _ => ?_)
          clear hK' K' hHeld hb5
          try simp only [Act.put, List.setIfInBounds_toArray, List.set_cons_zero, List.set_cons_succ]
          refine wpAnyH_take (i := 3) (oi := { dst := some 123, op := Op.binOp BinOp.eql 3 (Operand.tmp 120) (Operand.tmp 122) 3, type := 4, pos := _, after := _, guard := none }) (v := ?_) rfl (by kernel_rfl) (by kernel_rfl) (by kernel_rfl) (fun _ _ _ h => h) (Or.inl ⟨by rfl, ?_⟩) (by assumption) ?_
          case refine_2 => (intro w hSw; go_simp <;> with_reducible rfl)
          simp only [Act.put, List.setIfInBounds_toArray, List.set_cons_zero, List.set_cons_succ]
          refine wpAnyH_take (i := 4) (oi := { dst := some 124, op := Op.move (Operand.tmp 123), type := 4, pos := _, after := _, guard := none }) (v := ?_) rfl (by kernel_rfl) (by kernel_rfl) (by kernel_rfl) (fun _ _ _ h => h) (Or.inl ⟨by rfl, ?_⟩) (by assumption) ?_
          case refine_2 => (intro w hSw; go_simp <;> with_reducible rfl)
          simp only [Act.put, List.setIfInBounds_toArray, List.set_cons_zero, List.set_cons_succ]
          refine wpAnyH_take (i := 5) (oi := { dst := some 125, op := Op.load 3 (Operand.tmp 11), type := 3, pos := _, after := _, guard := some (4, false) }) (v := ?_) rfl (by kernel_rfl) (by kernel_rfl) (by kernel_rfl) (fun _ _ _ h => h) (Or.inl ⟨by rfl, ?_⟩) (by assumption) ?_
          case refine_2 => (intro w hSw; go_simp <;> with_reducible rfl)
          simp only [Act.put, List.setIfInBounds_toArray, List.set_cons_zero, List.set_cons_succ]
          refine wpAnyH_take (i := 6) (oi := { dst := some 126, op := Op.load 3 (Operand.tmp 3), type := 3, pos := _, after := _, guard := some (4, false) }) (v := ?_) rfl (by kernel_rfl) (by kernel_rfl) (by kernel_rfl) (fun _ _ _ h => h) (Or.inl ⟨by rfl, ?_⟩) (by assumption) ?_
          case refine_2 => (intro w hSw; go_simp <;> with_reducible rfl)
          simp only [Act.put, List.setIfInBounds_toArray, List.set_cons_zero, List.set_cons_succ]
          refine wpAnyH_take (i := 7) (oi := { dst := some 127, op := Op.binOp BinOp.eql 3 (Operand.tmp 125) (Operand.tmp 126) 3, type := 4, pos := _, after := _, guard := some (4, false) }) (v := ?_) rfl (by kernel_rfl) (by kernel_rfl) (by kernel_rfl) (fun _ _ _ h => h) (Or.inl ⟨by rfl, ?_⟩) (by assumption) ?_
          case refine_2 => (intro w hSw; go_simp <;> with_reducible rfl)
          simp only [Act.put, List.setIfInBounds_toArray, List.set_cons_zero, List.set_cons_succ]
          refine wpAnyH_take (i := 8) (oi := { dst := some 128, op := Op.pick (Operand.tmp 124) (Operand.const (Value.bool true)) (Operand.tmp 127), type := 4, pos := _, after := _, guard := none }) (v := ?_) rfl (by kernel_rfl) (by kernel_rfl) (by kernel_rfl) (fun _ _ _ h => h) (Or.inl ⟨by rfl, ?_⟩) (by assumption) ?_
          case refine_2 => (intro w hSw; go_simp <;> with_reducible rfl)
          simp only [Act.put, List.setIfInBounds_toArray, List.set_cons_zero, List.set_cons_succ]
          refine wpAnyH_take (i := 9) (oi := { dst := some 129, op := Op.move (Operand.tmp 128), type := 4, pos := _, after := _, guard := none }) (v := ?_) rfl (by kernel_rfl) (by kernel_rfl) (by kernel_rfl) (fun _ _ _ h => h) (Or.inl ⟨by rfl, ?_⟩) (by assumption) ?_
          case refine_2 => (intro w hSw; go_simp <;> with_reducible rfl)
          simp only [Act.put, List.setIfInBounds_toArray, List.set_cons_zero, List.set_cons_succ]
          refine wpAnyH_take (i := 10) (oi := { dst := some 130, op := Op.move (Operand.tmp 5), type := 24, pos := _, after := _, guard := some (9, true) }) (v := ?_) rfl (by kernel_rfl) (by kernel_rfl) (by kernel_rfl) (fun _ _ _ h => h) (Or.inl ⟨by rfl, ?_⟩) (by assumption) ?_
          case refine_2 => (intro w hSw; go_simp <;> with_reducible rfl)
          simp only [Act.put, List.setIfInBounds_toArray, List.set_cons_zero, List.set_cons_succ]
          refine wpAnyH_take (i := 11) (oi := { dst := some 131, op := Op.load 35 (Operand.tmp 6), type := 35, pos := _, after := _, guard := some (9, true) }) (v := ?_) rfl (by kernel_rfl) (by kernel_rfl) (by kernel_rfl) (fun _ _ _ h => h) (Or.inl ⟨by rfl, ?_⟩) (by assumption) ?_
          case refine_2 => (intro w hSw; go_simp <;> with_reducible rfl)
          simp only [Act.put, List.setIfInBounds_toArray, List.set_cons_zero, List.set_cons_succ]
          refine wpAnyH_ready (rs := [12]) (by kernel_rfl) (by simp) ?_
          refine AllReadyH.cons (o := { dst := some 132, op := Op.call { callee := Callee.value (Operand.func 17), args := #[Operand.tmp 130, Operand.tmp 131, Operand.const (Value.int IntKind.i64 200)], argTypes := #[24, 35, 3] }, type := 4, pos := _, after := _, guard := some (9, true) }) rfl (fun K' hK' => ?_) AllReadyH.nil
          go_simp
          go_at_call 17
          refine (same_any (w.heap.size + 2) 200 sv recs _ _ HP5.out (HXW.out.below HB5.out) HW.out.fit.fit (by omega) (by have := HW.out.fit.len; omega)).mono ?_
          rintro e w6 ⟨rfl, hb6⟩
          have hs6 := hs5.step hb6 hws'
          have HB6 := hid (HB5.out.trans (hb6.mono HB5.out.size))
          refine hK'.out _ _ hs6 (fun _ => ?_)
          clear hK' K' hs5 hb6
          try simp only [Act.put, List.setIfInBounds_toArray, List.set_cons_zero, List.set_cons_succ]
          refine wpAnyH_take (i := 13) (oi := { dst := some 133, op := Op.pick (Operand.tmp 129) (Operand.tmp 132) (Operand.const (Value.bool false)), type := 4, pos := _, after := _, guard := none }) (v := ?_) rfl (by kernel_rfl) (by kernel_rfl) (by kernel_rfl) (fun _ _ _ h => h) (Or.inl ⟨by rfl, ?_⟩) (by assumption) ?_
          case refine_2 => (intro w hSw; go_simp <;> with_reducible rfl)
          simp only [Act.put, List.setIfInBounds_toArray, List.set_cons_zero, List.set_cons_succ]
          refine wpAnyH_take (i := 14) (oi := { dst := some 134, op := Op.move (Operand.tmp 133), type := 4, pos := _, after := _, guard := none }) (v := ?_) rfl (by kernel_rfl) (by kernel_rfl) (by kernel_rfl) (fun _ _ _ h => h) (Or.inl ⟨by rfl, ?_⟩) (by assumption) ?_
          case refine_2 => (intro w hSw; go_simp <;> with_reducible rfl)
          simp only [Act.put, List.setIfInBounds_toArray, List.set_cons_zero, List.set_cons_succ]
          refine wpAnyH_ready (rs := [15]) (by kernel_rfl) (by simp) ?_
          refine AllReadyH.cons (o := { dst := some 135, op := Op.call { callee := Callee.value (Operand.func 8), args := #[], argTypes := #[] }, type := 4, pos := _, after := _, guard := some (14, true) }) rfl (fun K' hK' => ?_) AllReadyH.nil
          go_simp
          go_at_call 8
          refine (awake_any _).mono ?_
          rintro e w7 ⟨rfl, hb7⟩
          have hs7 := hs6.step hb7 hws'
          have HB7 := hid (HB6.out.trans (hb7.mono HB6.out.size))
          refine hK'.out _ _ hs7 (fun _ => ?_)
          clear hK' K' hs6 hb7
          try simp only [Act.put, List.setIfInBounds_toArray, List.set_cons_zero, List.set_cons_succ]
          refine wpAnyH_take (i := 16) (oi := { dst := some 136, op := Op.pick (Operand.tmp 134) (Operand.tmp 135) (Operand.const (Value.bool false)), type := 4, pos := _, after := _, guard := none }) (v := ?_) rfl (by kernel_rfl) (by kernel_rfl) (by kernel_rfl) (fun _ _ _ h => h) (Or.inl ⟨by rfl, ?_⟩) (by assumption) ?_
          case refine_2 => (intro w hSw; go_simp <;> with_reducible rfl)
          simp only [Act.put, List.setIfInBounds_toArray, List.set_cons_zero, List.set_cons_succ]
          have hr7 := (HB7.out.block _ hrl).trans hrW
          have hrc7 : w7.cell? ⟨w.heap.size + 1, 0, none⟩ = some (.bool false) := by simp [World.cell?, hr7]
          have hrf7 : w7.frozen? ⟨w.heap.size + 1, 0, none⟩ = false := by simp [World.frozen?, hr7]
          refine wpAnyH_ready (rs := [17]) (by kernel_rfl) (by simp) ?_
          refine AllReadyH.cons (o := { dst := none, op := Op.store 4 (Operand.tmp 4) (Operand.tmp 136), type := 0, pos := _, after := _, guard := none }) rfl (fun K' hK' => ?_) AllReadyH.nil
          go_simp
          have hs8 := hs7.set (Nat.le_succ _) 0 (.bool true)
          have HS8 := hid hs8
          refine hK'.out _ _ hs8 (fun _ => ?_)
          clear hK' K' hs7
          try simp only [Act.put, List.setIfInBounds_toArray, List.set_cons_zero, List.set_cons_succ]
          refine wpAnyH_done (by kernel_rfl) ?_ _
          refine NoPanic.normal ?_
          have hK8 := (HS8.out.block D hDl (by omega)).trans hK
          have hc8 : (w7.setCell ⟨w.heap.size + 1, 0, none⟩ (.bool true)).cell? ⟨w.heap.size + 1, 0, none⟩ = some (.bool true) := World.cell?_setCell_same' w7 ⟨w.heap.size + 1, 0, none⟩ (.bool true) (by rw [hrc7]; rfl)
          have HB8 := hid (HWB.out.trans HS8.out.below)
          generalize w7.setCell ⟨w.heap.size + 1, 0, none⟩ (.bool true) = wz at hK8 hc8 HB8 ⊢
          clear HS8 hr7 hrc7 hrf7
          go_wp2
          refine ⟨by simp, .inl ⟨_, _, rfl, run_takeDeferred hK8, ?_⟩⟩
          have hc9 := cell_kept hc8 (grownBy_putObj' _ D (.deferred none)) (fun r e => by cases e; exact ⟨_, hK8, rfl⟩)
          refine ⟨.bool true, ?_, rfl, HB8.out.trans (belowK_b (w := w) (Nat.le_refl _) _ D _ _ (by omega) hK8 rfl rfl)⟩
          simp [results, Try.f4, go_sem, hc9]

theorem lawAll (A : Option Addr) (cap : Nat) (ops : List Op3) (stop : Int) (w : World) (hl : ops.length ≤ maxLen) (ho : OpsAt w.heap.size w A ops) :
    Calls Try.prog 4 #[.slice A ops.length cap, .int .i64 stop] w fun e w' => e = .returned (.bool true) ∧ Below w.heap.size w w' := by
  cases hok : (shortB ops && decide ((ops.length : Int) ≤ 60)) with
  | false => exact lawAll_no A cap ops stop w hl ho hok
  | true => exact lawAll_yes A cap ops stop w hl ho hok
end Go.Proofs.Ytgkohbjbfjnllaa
