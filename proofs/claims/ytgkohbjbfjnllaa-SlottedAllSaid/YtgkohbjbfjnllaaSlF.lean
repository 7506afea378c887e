/-
  Package slotted: Put at a new slot: for every page and every record.
-/
import Derived.Test.YtgkohbjbfjnllaaSlE
namespace Go.Proofs.Ytgkohbjbfjnllaa
open Go.RowKit

theorem put_new [fb : Forbid] {B : Nat} (bp : Nat) (size : Int) (sv : Value) (recs : List (List UInt8)) (v : Value) (l : List UInt8) (w : World) (hB : B ≤ w.heap.size) (hp : PageAt w B bp size sv recs) (hb : tot recs ≤ 1048576) (hs : 0 ≤ size ∧ size ≤ 1048576) (hv : StaysAt B bp w v l) (hl : l.length ≤ 16384) (h0 : 0 < l.length) (hr : (l.length : Int) ≤ roomV size recs) (he : emptyAt recs = recs.length) :
    Calls Try.prog 10 #[.pointer (some ⟨bp, 0, none⟩), v] w fun e w' => e = .returned (.tuple #[.int .i64 (emptyAt recs : Int), .int .i64 0]) ∧ (∃ sv', PageAt w' B bp size sv' (recs ++ [l])) ∧ Touch B bp w w' := by
  obtain ⟨A, c, rfl⟩ := hv.form
  have hroom := room_any bp size sv recs w hp hb hs
  generalize roomV size recs = r at hroom hr
  have hlen := len_le_sumL recs
  have hlen2 : recs.length ≤ 1048576 := by unfold tot at hb; omega
  have HP := hid hp
  have HV := hid hv
  obtain ⟨i0, hi, hz0, hz1, hz2⟩ := info_parts infoS
  clear hp hb hs hv hlen
  go_enter Try.func10, Try.ntmps10
  go_wp2_with fail
  refine (check_any _ _ _ _ hl).mono ?_
  rintro e w1 ⟨rfl, rfl⟩
  rw [decide_eq_true h0]
  go_wp2_with fail
  refine hroom.mono ?_
  rintro e w1 ⟨rfl, hb1, hh1⟩
  have HP1 := hid (HP.out.same hh1)
  have HV1 := hid (HV.out.later (Touch.of_below hb1 hB))
  clear hh1
  go_wp2_with fail
  refine (empty_any bp size _ recs _ HP1.out hlen2).mono ?_
  rintro e w2 ⟨rfl, rfl⟩
  obtain ⟨A', cap, hsv⟩ := HP1.out.sv_form
  have hc := HP1.out.slots_cell
  have hbs : bp < w1.heap.size := heap_lt HP1.out.1
  have hs1 := hb1.size
  rw [he]
  subst hsv
  obtain ⟨_, _, vs, hown, hvs⟩ := HP1.out
  have HO := hid hown
  have HVS := hid hvs
  have hvl : vs.length = recs.length := by simpa using hown.1
  clear hown hvs
  go_wp2_with (first
    | (at_builtin; go_loud (refine wpList_append_own _ rfl (.tmp 30) (.tmp 31) 51 rfl B 29 i0 (.slice none 0 0) 1 24 Try.underlying51 hi hz0 hz1 hz2 rfl (by decide) _ recs.length vs rfl (HO.out.alloc _) ⟨w1.heap.size, 0, none⟩ 1 1 [.slice none 0 0] rfl (by simp) ?c1 (by simp [Value.oneCell']) (by unfold maxLen; omega) (by omega) (by simp; omega) ?_)))
  case c1 =>
    intro j u hu
    have hj : j = 0 := by
      have := (List.getElem?_eq_some_iff.1 hu).1
      simpa using this
    subst hj
    simp at hu
    subst hu
    have hnw := heap_alloc_new w1 (.cells #[.slice none 0 0] 29)
    show World.cell? _ ⟨w1.heap.size, 0, none⟩ = _
    simp only [World.cell?, hnw]
    rfl
  intro v' w2 hown' hgrow hnil
  obtain ⟨hP3, ht3, hbp⟩ := HP1.out.append (Nat.le_trans hB hs1) HO.out HVS.out hown' hgrow
  obtain ⟨g, cap', hsv⟩ : ∃ g cap', v' = .slice (some ⟨g, 0, none⟩) (recs.length + 1) cap' := by
    obtain ⟨_, ⟨_, h00⟩ | ⟨g, cap', cur, hx, _⟩⟩ := hown'
    · omega
    · exact ⟨g, cap', hx⟩
  subst hsv
  have hpc : w2.cell? ⟨bp, 1, none⟩ = some (.slice A' recs.length cap) := by simp [World.cell?, hbp]
  have hpf : w2.frozen? ⟨bp, 1, none⟩ = false := by simp [World.frozen?, hbp]
  clear hown' hgrow hnil hbp
  go_upto_region 8 with fail
  generalize w2.setCell ⟨bp, 1, none⟩ (.slice (some ⟨g, 0, none⟩) (recs.length + 1) cap') = w3 at hP3 ht3 ⊢
  have hP3 : PageAt w3 B bp size (.slice (some ⟨g, 0, none⟩) (recs ++ [[]]).length cap') (recs ++ [[]]) := by simpa using hP3
  have hc3 : w3.cell? ⟨bp, 1, none⟩ = some (.slice (some ⟨g, 0, none⟩) (recs.length + 1) cap') := by simpa using hP3.slots_cell
  have hlt : recs.length < (recs ++ [[]]).length := by simp
  have HP3 := hid hP3
  have HV3 := hid (HV1.out.later (ht3.trans (Touch.of_below (Below.drew (Below.refl w3.heap.size w3)) (Nat.le_trans (Nat.le_trans hB hs1) ht3.below.size))))
  have HT3 := hid ht3
  have HLT := hid hlt
  clear hc hpc hpf hP3 hbs hvl ht3 hlt
  go_region_with (first
    | (go_at_call 26
       refine (clone_b _ l _ (HV3.out _ (Touch.refl _ _ _)) (by omega)).mono ?_
       rintro e w4 ⟨vc, rfl, hrc, hfr, hb4⟩
       obtain ⟨A2, c2, hvc⟩ := hrc.form
       have HR4 := hid hrc
       have HF4 := hid (far_fresh hfr HP3.out.2.1.2)
       clear hrc hfr
       subst hvc
       have HP4 := hid ((HP3.out.same (w' := w3.drew) rfl).kept hb4)
       have hc4 : w4.cell? ⟨bp, 1, none⟩ = some (.slice (some ⟨g, 0, none⟩) (recs.length + 1) cap') := by simpa using HP4.out.slots_cell
       have hf4 := (HP4.out.row_cell recs.length HLT.out).2
       obtain ⟨u, hu⟩ := (HP4.out.row_cell recs.length HLT.out).1))
  all_goals go_wp2
  all_goals go_ret2
  all_goals
    have hput := HP4.out.put HR4.out HF4.out recs.length
    have hset : (recs ++ [([] : List UInt8)]).set recs.length l = recs ++ [l] := by simp
    rw [hset] at hput
    refine ⟨by rw [he]; rfl, ⟨_, hput.1⟩, ?_⟩
    exact (Touch.of_below hb1 hB).trans (HT3.out.trans ((Touch.of_below (Go.Proofs.Ytgkohbjbfjnllaa.Below.drewl hb4) (Nat.le_trans (Nat.le_trans hB hs1) HT3.out.below.size)).trans hput.2))
end Go.Proofs.Ytgkohbjbfjnllaa
