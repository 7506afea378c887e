/-
  Package slotted: Put: for every page and every record.
-/
import Derived.Test.YtgkohbjbfjnllaaSlD
import Derived.OneCell
namespace Go.Proofs.Ytgkohbjbfjnllaa
open Go.RowKit

theorem infoS : (Try.prog.info? 29).map (fun i => (i.zero, i.size, i.bytes)) = some (some (.slice none 0 0), 1, 24) := by kernel_rfl

theorem PageAt.sv_form [fb : Forbid] {w : World} {B bp : Nat} {size : Int} {sv : Value} {recs : List (List UInt8)} (hp : PageAt w B bp size sv recs) : ∃ A cap, sv = .slice A recs.length cap := by
  rcases hp.rows with ⟨rfl, rfl⟩ | ⟨g, cap, rfl, _⟩
  · exact ⟨_, _, rfl⟩
  · exact ⟨_, _, rfl⟩
theorem RecAt.same {w w' : World} {v : Value} {l : List UInt8} (h : RecAt w v l) (hh : w'.heap = w.heap) : RecAt w' v l := h.kept fun k _ _ _ => by rw [hh]

theorem PageAt.frozen_bp [fb : Forbid] {w : World} {B bp : Nat} {size : Int} {sv : Value} {recs : List (List UInt8)} (hp : PageAt w B bp size sv recs) (o : Nat) : w.frozen? ⟨bp, o, none⟩ = false := by
  have h0 := hp.1
  simp [World.frozen?, h0]
theorem PageAt.row_cell [fb : Forbid] {w : World} {B bp : Nat} {size : Int} {g n cap : Nat} {recs : List (List UInt8)} (hp : PageAt w B bp size (.slice (some ⟨g, 0, none⟩) n cap) recs) (i : Nat) (hi : i < recs.length) : (∃ u, w.cell? ⟨g, i, none⟩ = some u) ∧ w.frozen? ⟨g, i, none⟩ = false := by
  obtain ⟨_, _, vs, ⟨_, ⟨hx, h00⟩ | ⟨g, cap', cur, hx, _, hh, hn, _, hs, _⟩⟩, _⟩ := hp
  · cases hx
  · injection hx with hx
    injection hx with hx
    injection hx with hx
    subst hx
    exact ⟨⟨cur[i]'(by omega), by simp [World.cell?, hh]⟩, by simp [World.frozen?, hh]⟩

theorem put_range (bp : Nat) (v : Value) (w : World) (hv : BytesAt w v []) :
    Calls Try.prog 10 #[.pointer (some ⟨bp, 0, none⟩), v] w fun e w' => e = .returned (.tuple #[.int .i64 0, .int .i64 11]) ∧ w = w' := by
  obtain ⟨A, c, rfl⟩ := hv.form
  clear hv
  go_enter Try.func10, Try.ntmps10
  go_wp2_with fail
  refine (check_any _ _ _ _ (by simp)).mono ?_
  rintro e w1 ⟨rfl, rfl⟩
  go_wp2
  go_ret2
  exact ⟨rfl, rfl⟩

theorem put_full [fb : Forbid] {B : Nat} (bp : Nat) (size : Int) (sv : Value) (recs : List (List UInt8)) (v : Value) (l : List UInt8) (w : World) (hp : PageAt w B bp size sv recs) (hb : tot recs ≤ 1048576) (hs : 0 ≤ size ∧ size ≤ 1048576) (hv : StaysAt B bp w v l) (hl : l.length ≤ 16384) (h0 : 0 < l.length) (hr : roomV size recs < (l.length : Int)) :
    Calls Try.prog 10 #[.pointer (some ⟨bp, 0, none⟩), v] w fun e w' => e = .returned (.tuple #[.int .i64 0, .int .i64 21]) ∧ Below w.heap.size w w' ∧ w'.heap = w.heap := by
  obtain ⟨A, c, rfl⟩ := hv.form
  have hroom := room_any bp size sv recs w hp hb hs
  generalize roomV size recs = r at hroom hr
  clear hp hb hs hv
  go_enter Try.func10, Try.ntmps10
  go_wp2_with fail
  refine (check_any _ _ _ _ hl).mono ?_
  rintro e w1 ⟨rfl, rfl⟩
  rw [decide_eq_true h0]
  go_wp2_with fail
  refine hroom.mono ?_
  rintro e w1 ⟨rfl, hb1, hh1⟩
  go_wp2
  go_ret2
  exact ⟨rfl, hb1, hh1⟩

/-- Put at a free slot that is there -/
theorem put_old [fb : Forbid] {B : Nat} (bp : Nat) (size : Int) (sv : Value) (recs : List (List UInt8)) (v : Value) (l : List UInt8) (w : World) (hB : B ≤ w.heap.size) (hp : PageAt w B bp size sv recs) (hb : tot recs ≤ 1048576) (hs : 0 ≤ size ∧ size ≤ 1048576) (hv : StaysAt B bp w v l) (hl : l.length ≤ 16384) (h0 : 0 < l.length) (hr : (l.length : Int) ≤ roomV size recs) (he : emptyAt recs < recs.length) :
    Calls Try.prog 10 #[.pointer (some ⟨bp, 0, none⟩), v] w fun e w' => e = .returned (.tuple #[.int .i64 (emptyAt recs : Int), .int .i64 0]) ∧ PageAt w' B bp size sv (recs.set (emptyAt recs) l) ∧ Touch B bp w w' := by
  obtain ⟨A, c, rfl⟩ := hv.form
  have hroom := room_any bp size sv recs w hp hb hs
  generalize roomV size recs = r at hroom hr
  have hlen := len_le_sumL recs
  have hlen2 : recs.length ≤ 1048576 := by unfold tot at hb; omega
  have HP := hid hp
  have HV := hid hv
  clear hp hb hs hv hlen
  go_enter Try.func10, Try.ntmps10
  go_wp2_with fail
  refine (check_any _ _ _ _ hl).mono ?_
  rintro e w1 ⟨rfl, rfl⟩
  rw [decide_eq_true h0]
  go_wp2_with fail
  refine hroom.mono ?_
  rintro e w1 ⟨rfl, hb1, hh1⟩
  have HP1 := hid (HP.out.same hh1)
  have HV1 := hid (HV.out.later ((Touch.of_below hb1 hB).trans (Touch.of_below (Below.drew (Below.refl w1.heap.size w1)) (Nat.le_trans hB hb1.size))))
  go_wp2_with fail
  refine (empty_any bp size _ recs _ HP1.out hlen2).mono ?_
  rintro e w2 ⟨rfl, rfl⟩
  obtain ⟨A', cap, hsv⟩ := HP1.out.sv_form
  have hc := HP1.out.slots_cell
  have hne : ((emptyAt recs : Int) == (recs.length : Int)) = false := by simp; omega
  subst hsv
  go_wp2
  obtain ⟨g, hsv, hlt⟩ : ∃ g, A' = some ⟨g, 0, none⟩ ∧ g < w1.heap.size := by
    obtain ⟨_, _, vs, ⟨_, ⟨hx, h00⟩ | ⟨g, cap', cur, hx, _, hh, _⟩⟩, _⟩ := HP1.out
    · omega
    · injection hx with hx
      exact ⟨g, hx, heap_lt hh⟩
  subst hsv
  go_region_with (first
    | (go_at_call 26
       refine (clone_b _ l _ (HV1.out _ (Touch.refl _ _ _)) (by omega)).mono ?_
       rintro e w2 ⟨vc, rfl, hrc, hfr, hb2⟩
       obtain ⟨A2, c2, hvc⟩ := hrc.form
       have HR2 := hid hrc
       have HF2 := hid (far_fresh hfr HP1.out.2.1.2)
       clear hrc hfr
       subst hvc
       have HP2 := hid ((HP1.out.same (w' := w1.drew) rfl).kept hb2)
       have hc2 := HP2.out.slots_cell
       have hf2 := (HP2.out.row_cell (emptyAt recs) he).2
       obtain ⟨u, hu⟩ := (HP2.out.row_cell (emptyAt recs) he).1))
  all_goals go_wp2
  all_goals go_ret2
  all_goals
    have hput := HP2.out.put HR2.out HF2.out (emptyAt recs)
    refine ⟨rfl, hput.1, ?_⟩
    exact (Touch.of_below hb1 hB).trans ((Touch.of_below (Go.Proofs.Ytgkohbjbfjnllaa.Below.drewl hb2) (Nat.le_trans hB hb1.size)).trans hput.2)

/-- the page behind its row's growth by a slot with nothing -/
theorem PageAt.append [fb : Forbid] {w w2 : World} {o : Obj} {B bp : Nat} {size : Int} {sv v' : Value} {recs : List (List UInt8)} {vs : List Value} (h : PageAt w B bp size sv recs) (hB : B ≤ w.heap.size) (hown : w.ownsRow B 29 1 sv recs.length vs) (hvs : ∀ (i : Nat) (l : List UInt8), recs[i]? = some l → ∃ v, vs[i]? = some v ∧ RecAt w v l ∧ Far v)
    (h2 : w2.ownsRow B 29 1 v' (recs.length + 1) (vs ++ [.slice none 0 0])) (hg : (w.alloc o).grownBy w2 sv.ownBlock) : PageAt (w2.setCell ⟨bp, 1, none⟩ v') B bp size v' (recs ++ [[]]) ∧ Touch B bp w (w2.setCell ⟨bp, 1, none⟩ v') ∧ w2.heap[bp]? = some (.cells #[.int .i64 size, sv] 53 (0, 0)) := by
  have t1 : Touch B bp w (w.alloc o) := Touch.of_below ((Below.refl _ _).alloc (Nat.le_refl _) _) hB
  have t2 : Touch B bp (w.alloc o) w2 := Touch.grown (hown.alloc o) hg (by simp; omega)
  have t3 : Touch B bp w2 (w2.setCell ⟨bp, 1, none⟩ v') := Touch.set_bp w2 1 v' h.2.1.1
  have t12 := t1.trans t2
  have hbne : some bp ≠ sv.ownBlock := by
    obtain ⟨_, ⟨rfl, _⟩ | ⟨g, cap, cur, rfl, _, hh, _⟩⟩ := hown
    · simp [Value.ownBlock]
    · intro hx
      simp [Value.ownBlock] at hx
      subst hx
      have h1 := h.1
      rw [hh] at h1
      injection h1 with h1
      injection h1 with _ h1 _
      exact absurd h1 (by decide)
  have hbp : w2.heap[bp]? = some (.cells #[.int .i64 size, sv] 53 (0, 0)) := by
    rw [hg.block bp (by have := heap_lt h.1; simp; omega) hbne, Below.heap_alloc _ _ _ (heap_lt h.1)]
    exact h.1
  have hvne : v'.ownBlock ≠ some bp := by
    obtain ⟨_, ⟨rfl, _⟩ | ⟨g, cap, cur, rfl, _, hh, _⟩⟩ := h2
    · simp [Value.ownBlock]
    · intro hx
      simp [Value.ownBlock] at hx
      subst hx
      rw [hh] at hbp
      injection hbp with hbp
      injection hbp with _ hbp _
      exact absurd hbp (by decide)
  have t := t12.trans t3
  refine ⟨⟨?_, ⟨h.2.1.1, fun b hb2 => Nat.lt_of_lt_of_le (h.2.1.2 b hb2) t.below.size⟩, vs ++ [.slice none 0 0], ?_, fun i l hi => ?_⟩, t, hbp⟩
  · rw [heap_set_self v' hbp]
    rfl
  · rw [List.length_append]
    exact ownsRow_setCell_other h2 hvne v'
  · by_cases hlt : i < recs.length
    · rw [List.getElem?_append_left hlt] at hi
      obtain ⟨v0, hv0, hr0⟩ := hvs i l hi
      exact ⟨v0, by rw [List.getElem?_append_left (List.getElem?_eq_some_iff.1 hv0).1]; exact hv0, hr0.1.touch t h.1, hr0.2⟩
    · rw [List.getElem?_append_right (by omega)] at hi
      have hvl : vs.length = recs.length := by simpa using hown.1
      have : i - recs.length = 0 := by
        have := (List.getElem?_eq_some_iff.1 hi).1
        simp at this
        omega
      rw [this] at hi
      simp at hi
      subst hi
      exact ⟨.slice none 0 0, by rw [List.getElem?_append_right (by omega), hvl, this]; rfl, .inl ⟨rfl, rfl⟩, far_nil⟩
end Go.Proofs.Ytgkohbjbfjnllaa
