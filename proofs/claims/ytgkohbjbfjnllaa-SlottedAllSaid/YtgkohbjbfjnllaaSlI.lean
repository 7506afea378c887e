/-
  Package slotted: Size, Slots, Get, Set: for every page.
-/
import Derived.Test.YtgkohbjbfjnllaaSlG
namespace Go.Proofs.Ytgkohbjbfjnllaa
open Go.RowKit

theorem size_any [fb : Forbid] {B : Nat} (bp : Nat) (size : Int) (sv : Value) (recs : List (List UInt8)) (w : World) (hp : PageAt w B bp size sv recs) :
    Calls Try.prog 21 #[.pointer (some ⟨bp, 0, none⟩)] w fun e w' => e = .returned (.int .i64 size) ∧ w = w' := by
  have hc := hp.size_cell
  clear hp
  go_enter Try.func21, Try.ntmps21
  go_wp2
  go_ret
  exact ⟨rfl, rfl⟩

theorem slots_any [fb : Forbid] {B : Nat} (bp : Nat) (size : Int) (sv : Value) (recs : List (List UInt8)) (w : World) (hp : PageAt w B bp size sv recs) :
    Calls Try.prog 22 #[.pointer (some ⟨bp, 0, none⟩)] w fun e w' => e = .returned (.int .i64 (recs.length : Int)) ∧ w = w' := by
  have hc := hp.slots_cell
  obtain ⟨A, cap, hsv⟩ := hp.sv_form
  subst hsv
  clear hp
  go_enter Try.func22, Try.ntmps22
  go_wp2
  go_ret
  exact ⟨rfl, rfl⟩

theorem get_none [fb : Forbid] {B : Nat} (bp : Nat) (size : Int) (sv : Value) (recs : List (List UInt8)) (i : Int) (w : World) (hp : PageAt w B bp size sv recs) (hh : hasV recs i = false) :
    Calls Try.prog 33 #[.pointer (some ⟨bp, 0, none⟩), .int .i64 i] w fun e w' => e = .returned (.tuple #[.slice none 0 0, .int .i64 14]) ∧ w = w' := by
  have hcon := has_any bp size sv recs i w hp
  rw [hh] at hcon
  clear hp hh
  go_enter Try.func33, Try.ntmps33
  go_wp2_with fail
  refine hcon.mono ?_
  rintro e w1 ⟨rfl, rfl⟩
  go_wp2
  go_ret2
  exact ⟨rfl, rfl⟩

theorem PageAt.row_rec [fb : Forbid] {w : World} {B bp : Nat} {size : Int} {g n cap : Nat} {recs : List (List UInt8)} (hp : PageAt w B bp size (.slice (some ⟨g, 0, none⟩) n cap) recs) (i : Nat) (hi : i < recs.length) : ∃ A c, w.cell? ⟨g, i, none⟩ = some (.slice A recs[i].length c) ∧ RecAt w (.slice A recs[i].length c) recs[i] := by
  rcases hp.rows with ⟨hx, _⟩ | ⟨g', cap', hx, _, _, hrow⟩
  · cases hx
  · injection hx with hx
    injection hx with hx
    injection hx with hx
    subst hx
    exact hrow i _ (List.getElem?_eq_getElem hi)

theorem PageAt.sv_row [fb : Forbid] {w : World} {B bp : Nat} {size : Int} {sv : Value} {recs : List (List UInt8)} (hp : PageAt w B bp size sv recs) (hk : 0 < recs.length) : ∃ g cap, sv = .slice (some ⟨g, 0, none⟩) recs.length cap := by
  rcases hp.rows with ⟨_, h00⟩ | ⟨g, cap, h, _⟩
  · subst h00; simp at hk
  · exact ⟨g, cap, h⟩

theorem get_some [fb : Forbid] {B : Nat} (bp : Nat) (size : Int) (sv : Value) (recs : List (List UInt8)) (k : Nat) (w : World) (hp : PageAt w B bp size sv recs) (hh : hasV recs (k : Int) = true) (hk : k < recs.length) (hl : recs[k].length ≤ 1048576) :
    Calls Try.prog 33 #[.pointer (some ⟨bp, 0, none⟩), .int .i64 (k : Int)] w fun e w' => ∃ v, e = .returned (.tuple #[v, .int .i64 0]) ∧ w'.ownsRow w.heap.size 5 1 v recs[k].length (recs[k].map fun b => Value.int .u8 (b.toNat : Int)) ∧ Below w.heap.size w w' := by
  have hcon := has_any bp size sv recs k w hp
  rw [hh] at hcon
  have hc := hp.slots_cell
  obtain ⟨g, cap, hsv⟩ := hp.sv_row (by omega)
  subst hsv
  obtain ⟨A, c, hcell, hrec⟩ := hp.row_rec k hk
  have HR := hid hrec
  clear hp hh hrec
  go_enter Try.func33, Try.ntmps33
  go_wp2_with fail
  refine hcon.mono ?_
  rintro e w1 ⟨rfl, rfl⟩
  go_wp2_with fail
  refine (clone_own _ _ _ HR.out.bytes hl).mono ?_
  rintro e w2 ⟨v, rfl, ho, hb⟩
  have HO := hid ho
  clear ho
  go_wp2
  go_ret2
  exact ⟨v, rfl, HO.out, hb⟩

theorem set_range (bp : Nat) (i : Int) (v : Value) (w : World) (hv : BytesAt w v []) :
    Calls Try.prog 29 #[.pointer (some ⟨bp, 0, none⟩), .int .i64 i, v] w fun e w' => e = .returned (.int .i64 11) ∧ w = w' := by
  obtain ⟨A, c, rfl⟩ := hv.form
  clear hv
  go_enter Try.func29, Try.ntmps29
  go_wp2_with fail
  refine (check_any _ _ _ _ (by simp)).mono ?_
  rintro e w1 ⟨rfl, rfl⟩
  go_wp2
  go_ret
  exact ⟨rfl, rfl⟩

theorem set_none [fb : Forbid] {B : Nat} (bp : Nat) (size : Int) (sv : Value) (recs : List (List UInt8)) (i : Int) (v : Value) (l : List UInt8) (w : World) (hp : PageAt w B bp size sv recs) (hv : StaysAt B bp w v l) (hl : l.length ≤ 16384) (h0 : 0 < l.length) (hh : hasV recs i = false) :
    Calls Try.prog 29 #[.pointer (some ⟨bp, 0, none⟩), .int .i64 i, v] w fun e w' => e = .returned (.int .i64 14) ∧ w = w' := by
  obtain ⟨A, c, rfl⟩ := hv.form
  have hcon := has_any bp size sv recs i w hp
  rw [hh] at hcon
  clear hp hh hv
  go_enter Try.func29, Try.ntmps29
  go_wp2_with fail
  refine (check_any _ _ _ _ hl).mono ?_
  rintro e w1 ⟨rfl, rfl⟩
  rw [decide_eq_true h0]
  go_wp2_with fail
  refine hcon.mono ?_
  rintro e w1 ⟨rfl, rfl⟩
  go_wp2
  go_ret
  exact ⟨rfl, rfl⟩

theorem set_full [fb : Forbid] {B : Nat} (bp : Nat) (size : Int) (sv : Value) (recs : List (List UInt8)) (k : Nat) (v : Value) (l : List UInt8) (w : World) (hp : PageAt w B bp size sv recs) (hb : tot recs ≤ 1048576) (hs : 0 ≤ size ∧ size ≤ 1048576) (hv : StaysAt B bp w v l) (hl : l.length ≤ 16384) (h0 : 0 < l.length) (hh : hasV recs (k : Int) = true) (hk : k < recs.length) (hr : size - (tot recs : Int) < (l.length : Int) - (recs[k].length : Int)) (hrk : recs[k].length ≤ 1048576) :
    Calls Try.prog 29 #[.pointer (some ⟨bp, 0, none⟩), .int .i64 (k : Int), v] w fun e w' => e = .returned (.int .i64 21) ∧ Below w.heap.size w w' ∧ w'.heap = w.heap := by
  obtain ⟨A, c, rfl⟩ := hv.form
  have hcon := has_any bp size sv recs k w hp
  rw [hh] at hcon
  have hc := hp.slots_cell
  have hz := hp.size_cell
  obtain ⟨g, cap, hsv⟩ := hp.sv_row (by omega)
  subst hsv
  obtain ⟨A2, c2, hcell, hrec⟩ := hp.row_rec k hk
  have HP := hid hp
  have HB := hid hb
  generalize recs[k].length = rk at hcell hrk hr
  clear hp hh hrec hv
  go_enter Try.func29, Try.ntmps29
  go_wp2_with fail
  refine (check_any _ _ _ _ hl).mono ?_
  rintro e w1 ⟨rfl, rfl⟩
  rw [decide_eq_true h0]
  go_wp2_with fail
  refine hcon.mono ?_
  rintro e w1 ⟨rfl, rfl⟩
  go_wp2
  go_quiet ((go_at_call 27; exact (length_any bp size _ recs _ (HP.out.drewN _) HB.out).mono (fun _ _ hx => ⟨hx.1, _, hx.2.symm⟩)))
  go_wp2
  go_ret
  exact ⟨rfl, below_drewN (Below.refl _ _) _, by simp⟩

theorem set_some [fb : Forbid] {B : Nat} (bp : Nat) (size : Int) (sv : Value) (recs : List (List UInt8)) (k : Nat) (v : Value) (l : List UInt8) (w : World) (hp : PageAt w B bp size sv recs) (hb : tot recs ≤ 1048576) (hs : 0 ≤ size ∧ size ≤ 1048576) (hv : StaysAt B bp w v l) (hl : l.length ≤ 16384) (h0 : 0 < l.length) (hh : hasV recs (k : Int) = true) (hk : k < recs.length) (hr : (l.length : Int) - (recs[k].length : Int) ≤ size - (tot recs : Int)) (hB : B ≤ w.heap.size) (hrk : recs[k].length ≤ 1048576) :
    Calls Try.prog 29 #[.pointer (some ⟨bp, 0, none⟩), .int .i64 (k : Int), v] w fun e w' => e = .returned (.int .i64 0) ∧ PageAt w' B bp size sv (recs.set k l) ∧ Touch B bp w w' := by
  obtain ⟨A, c, rfl⟩ := hv.form
  have hcon := has_any bp size sv recs k w hp
  rw [hh] at hcon
  have hc := hp.slots_cell
  have hz := hp.size_cell
  obtain ⟨g, cap, hsv⟩ := hp.sv_row (by omega)
  subst hsv
  obtain ⟨A2, c2, hcell, hrec⟩ := hp.row_rec k hk
  have HP := hid hp
  have HB := hid hb
  have HV := hid hv
  generalize recs[k].length = rk at hcell hrk hr
  clear hp hh hrec hv
  go_enter Try.func29, Try.ntmps29
  go_wp2_with fail
  refine (check_any _ _ _ _ hl).mono ?_
  rintro e w1 ⟨rfl, rfl⟩
  rw [decide_eq_true h0]
  go_wp2_with fail
  refine hcon.mono ?_
  rintro e w1 ⟨rfl, rfl⟩
  go_wp2
  go_quiet ((go_at_call 27; exact (length_any bp size _ recs _ (HP.out.drewN _) HB.out).mono (fun _ _ hx => ⟨hx.1, _, hx.2.symm⟩)))
  go_wp2
  have HP1 := hid (HP.out.drewN nq)
  have HT1 := hid (Touch.drewN B bp w nq)
  have hs1 : B ≤ (w.drewN nq).heap.size := by simpa using hB
  have HV1 := hid (HV.out.later ((Touch.drewN B bp w nq).trans (Touch.of_below (Below.drew (Below.refl (w.drewN nq).heap.size (w.drewN nq))) hs1)))
  have hc1 := HP1.out.slots_cell
  clear hc hz hcell hcon
  generalize w.drewN nq = w1 at *
  go_region_with (first
    | (go_at_call 26
       refine (clone_b _ l _ (HV1.out _ (Touch.refl _ _ _)) (by omega)).mono ?_
       rintro e w2 ⟨vc, rfl, hrc, hfr, hb2⟩
       obtain ⟨A3, c3, hvc⟩ := hrc.form
       have HR2 := hid hrc
       have HF2 := hid (far_fresh hfr HP1.out.2.1.2)
       clear hrc hfr
       subst hvc
       have HP2 := hid ((HP1.out.same (w' := w1.drew) rfl).kept hb2)
       have hc2 := HP2.out.slots_cell
       have hf2 := (HP2.out.row_cell k hk).2
       obtain ⟨u, hu⟩ := (HP2.out.row_cell k hk).1))
  all_goals go_wp2
  all_goals go_ret
  all_goals
    have hput := HP2.out.put HR2.out HF2.out k
    refine ⟨rfl, hput.1, ?_⟩
    exact HT1.out.trans ((Touch.of_below (Go.Proofs.Ytgkohbjbfjnllaa.Below.drewl hb2) hs1).trans hput.2)
end Go.Proofs.Ytgkohbjbfjnllaa
