/-
  Layer 9's statements: one call of both (step): a kind that does nothing.
-/
import Derived.Test.YtgkohbjbfjnllaaSlX
namespace Go.Proofs.Ytgkohbjbfjnllaa
open Go.RowKit

set_option maxRecDepth 100000 in
set_option maxHeartbeats 2000000 in
theorem step_other [fb : Forbid] {B : Nat} (bp size : Nat) (sv xv dv : Value) (recs : List (List UInt8)) (kind slot : Int) (data : List UInt8) (w : World) (hB : B ≤ w.heap.size) (hp : PageAt w B bp (size : Int) sv recs) (hx : StrsAt w B xv recs) (hd : StaysAt B bp w dv data) (hf : Fits size recs) (_hs : size ≤ 400) (_hdl : data.length ≤ 400) (hk1' : ¬ kind = 1) (hk2' : ¬ kind = 2) (hk3' : ¬ kind = 3) :
    Calls Try.prog 15 #[.pointer (some ⟨bp, 0, none⟩), xv, .int .i64 (size : Int), .agg #[.int .i64 kind, .int .i64 slot, dv]] w fun e w' => ∃ xv', e = .returned (.tuple #[xv', .bool true]) ∧ (∃ sv', PageAt w' B bp (size : Int) sv' (stepV size recs kind slot data)) ∧ StrsAt w' B xv' (stepV size recs kind slot data) ∧ Touch B bp w w' := by
  have hlen := hf.len
  have hfit := hf.fit
  obtain ⟨A, c, hv⟩ := hx.form
  subst hv
  obtain ⟨A1, c1, hv⟩ := hd.form
  subst hv
  have HP := hid hp
  have HX := hid hx
  have HD := hid hd
  have HF := hid hf
  have hbs := baOf_size
  have hbt := baOf_toList
  clear hp hx hd hf
  go_enter Try.func15, Try.ntmps15
  go_upto_region 1 with fail
  have hb0 : Below w.heap.size w (w.alloc (.cells #[.int .i64 kind, .int .i64 slot, .slice A1 data.length c1] 37)) := balloc (Below.refl _ _) _
  have ho0 : (w.alloc (.cells #[.int .i64 kind, .int .i64 slot, .slice A1 data.length c1] 37)).heap[w.heap.size]? = some (.cells #[.int .i64 kind, .int .i64 slot, .slice A1 data.length c1] 37) := heap_alloc_new w _
  have HB0 := hid hb0
  have HO0 := hid ho0
  clear hb0 ho0
  generalize w.alloc (.cells #[.int .i64 kind, .int .i64 slot, .slice A1 data.length c1] 37) = w0 at HB0 HO0 ⊢
  have hk0 : w0.cell? ⟨w.heap.size, 0, none⟩ = some (.int .i64 kind) := by simp [World.cell?, HO0.out]
  have hk1 : w0.cell? ⟨w.heap.size, 1, none⟩ = some (.int .i64 slot) := by simp [World.cell?, HO0.out]
  have hk2 : w0.cell? ⟨w.heap.size, 2, none⟩ = some (.slice A1 data.length c1) := by simp [World.cell?, HO0.out]
  go_cut [10] (fun s10 wx => s10 = .bool (hasV recs slot) ∧ wx = w0)
  case first =>
    have hh := hasV_cases recs slot
    rcases hh with ⟨h0, hv⟩ | ⟨k, rfl, hkl, hv⟩ | ⟨k, rfl, hkl, hv⟩
    · have hf0 : decide (slot ≥ 0) = false := decide_eq_false (by omega)
      have HV := hid hv
      clear hv
      go_wp2_with fail
      go_meet
      exact ⟨by rw [HV.out], rfl⟩
    · have hf0 : decide ((k : Int) < (recs.length : Int)) = false := decide_eq_false (by omega)
      have HV := hid hv
      clear hv
      go_wp2_with fail
      go_meet
      exact ⟨by rw [HV.out], rfl⟩
    · obtain ⟨g, c', hv2⟩ := HX.out.row (by omega)
      injection hv2 with hA _ hc
      subst hA hc
      have hcell := (HX.out.below HB0.out).cell k hkl
      have HV := hid hv
      clear hv
      generalize recs[k] = r at hcell HV
      cases r with
      | nil =>
        go_wp2_with fail
        go_meet
        exact ⟨by rw [HV.out]; rfl, rfl⟩
      | cons b t =>
        go_wp2_with fail
        go_meet
        exact ⟨by rw [HV.out]; rfl, rfl⟩
  case rest =>
    obtain ⟨rfl, hwc⟩ := hcut
    subst hwc
    have hsz0 := HB0.out.size
    have hlt0 : w.heap.size < wc.heap.size := heap_lt HO0.out
    go_wp2_with (first
      | (at_builtin; go_loud (refine wpList_append_strs rfl (.tmp 35) (.tmp 36) rfl wc.heap.size _ rfl ?co _ B recs rfl (HX.out.below (HB0.out.trans ?cb)) (by omega) ?cz ?_)))
    case co => exact ⟨rfl, .inr ⟨wc.heap.size, 0, #[], rfl, Nat.le_refl _, heap_alloc_new wc _, Nat.le_refl _, by unfold maxLen; omega, rfl, rfl⟩⟩
    case cb => exact (Below.refl _ _).alloc hsz0 _
    case cz => simp
    intro lv w2 hl hg
    have HL := hid hl
    have HB2 : Hid (Below wc.heap.size wc w2) := hid (((Below.refl _ _).alloc (Nat.le_refl _) _).grown hg (by simp) (fun k hk => by simp [Value.ownBlock] at hk; omega))
    clear hl hg
    have hm0 := (HB2.out.cell (p := ⟨w.heap.size, 0, none⟩) hlt0).trans hk0
    have hm1 := (HB2.out.cell (p := ⟨w.heap.size, 1, none⟩) hlt0).trans hk1
    have hm2 := (HB2.out.cell (p := ⟨w.heap.size, 2, none⟩) hlt0).trans hk2
    have HBW : Hid (Below w.heap.size w w2) := hid (bthrough HB0.out HB2.out hsz0)
    have HT2 : Hid (Touch B bp w w2) := hid (Touch.of_below HBW.out hB)
    have HP2 := hid (HP.out.kept HBW.out)
    have HX2 := hid (HX.out.below HBW.out)
    have HD2 := hid (HD.out.later HT2.out)
    have hB2 : B ≤ w2.heap.size := Nat.le_trans hB HBW.out.size
    obtain ⟨Al, cl, hlv⟩ := HL.out.form
    subst hlv
    clear hk0 hk1 hk2 hsz0
    have HSV := hid (show stepV size recs kind slot data = recs by simp [stepV, hk1', hk2', hk3'])
    have e1 : (kind == 1) = false := by simpa using hk1'
    have e2 : (kind == 2) = false := by simpa using hk2'
    have e3 : (kind == 3) = false := by simpa using hk3'
    go_wp2
    go_ret2
    exact ⟨_, rfl, ⟨_, by rw [HSV.out]; exact HP2.out⟩, by rw [HSV.out]; exact HX2.out, HT2.out⟩
end Go.Proofs.Ytgkohbjbfjnllaa
