/-
  Package slotted: Len: for every page.
-/
import Derived.Test.YtgkohbjbfjnllaaSlH
import Derived.Test.YtgkohbjbfjnllaaSlI
namespace Go.Proofs.Ytgkohbjbfjnllaa
open Go.RowKit Go.Shelf

attribute [local go_sem] Oper.semAt_some

theorem idxs_le (recs : List (List UInt8)) : (idxs recs recs.length).length ≤ recs.length := idxs_length recs recs.length

theorem below_putObj {B : Nat} {W : World} {l : Nat} (h : B ≤ l) (o : Obj) : Below B W (W.putObj l o) :=
  ⟨rfl, rfl, rfl, by simp [World.putObj], fun k hk => World.putObj_heap_other (by omega)⟩

theorem handG_own (B0 B : Nat) {recs : List (List UInt8)} (pre : List (Int × Value)) : OwnFrom B (handG B0 recs pre) := fun p W W' row ⟨k, l, h1, h2, h3, h4, h5⟩ hg hr =>
  ⟨k, l, h1, h2, h3, h4, h5.kept hg (by
    rcases h5.2 with ⟨hn, _⟩ | ⟨g, cap, cur, hv, _, hh, _⟩
    · rw [hn]; exact .inl rfl
    · right
      rw [hv]
      intro hrow
      simp only [Value.ownBlock] at hrow
      obtain ⟨_, o, ho, hc⟩ := hr g hrow.symm
      rw [hh] at ho
      injection ho with ho
      subst ho
      cases hc)⟩

set_option maxRecDepth 100000 in
set_option maxHeartbeats 1000000 in
theorem len_any {B : Nat} (bp : Nat) (size : Int) (sv : Value) (recs : List (List UInt8)) (w : World) (hp : PageAt w B bp size sv recs) (hb : tot recs ≤ 1048576) :
    Calls Try.prog 13 #[.pointer (some ⟨bp, 0, none⟩)] w fun e w' => e = .returned (.int .i64 ((idxs recs recs.length).length : Int)) ∧ Below w.heap.size w w' := by
  have HP := hid hp
  clear hp
  refine (callsIn_wide (n := 9)).1 ?_
  refine callsIn_of_wp_marks Try.func13 rfl trivial ?_ rfl
  simp only [Try.ntmps13, List.size_toArray, List.length_cons, List.length_nil, Nat.reduceAdd, Nat.reduceSub, Array.replicate_succ, Array.replicate_zero, List.push_toArray, List.append_toArray, List.nil_append, List.cons_append]
  gi_wp2_with (refine ⟨trivial, ?_⟩; gi_at_call 16; refine (callsIn_wide.2 (all_any _ _)).mono ?_; rintro e w1 ⟨rfl, rfl⟩)
  have hB0 : Below w.heap.size w ((w.alloc (.cells #[.int .i64 0] 3)).alloc (.cells #[.pointer (some ⟨bp, 0, none⟩)] 24)) := balloc (balloc (Below.refl _ _) _) _
  refine wpIn_rangeFunc_given rfl (by omega) (gf := 32) (lb := #[.pointer (some ⟨w.heap.size + 1, 0, none⟩)]) rfl trivial (enters_of Try.func32 (by kernel_rfl) rfl)
    (all_hands 8 (by omega) (w.heap.size + 1) B bp size sv recs w _ hB0 HP.out hb (by simp [go_sem])) (fun h k => h.trans k) (fun W l o o' hl _ _ _ => below_putObj (by simp at hl; omega) o') (Below.refl _ _) (fun _ => rfl)
    (fun pre W => (W.cell? ⟨w.heap.size, 0, none⟩ = some (.int .i64 (pre.length : Int)) ∧ W.frozen? ⟨w.heap.size, 0, none⟩ = false) ∧ Below w.heap.size w W)
    (fun _ _ _ => False)
    (OwnFrom.and (Own.from (fun s A B row hs hg hr => ⟨cell_kept hs.1 hg hr, (frozen_kept hs.1 hg hr).trans hs.2⟩) _) (ownFrom_below (Nat.le_refl _) (by simp; omega)))
    (fun _ _ _ _ _ hs _ _ => hs)
    (handG_own _ _)
    ⟨⟨by simp [go_sem], by simp [go_sem]⟩, hB0⟩
    (fun p => { tmps := #[.pointer (some ⟨bp, 0, none⟩), undef, .int .i64 0, .pointer (some ⟨w.heap.size, 0, none⟩), .pointer (some ⟨bp, 0, none⟩), .func (.func 32) #[] #[.pointer (some ⟨w.heap.size + 1, 0, none⟩)], .int .i64 p.1, p.2, undef, undef, undef], defers := [] }) ?assign ?body ?done ?stop
  case assign =>
    intro l p W K hK
    gi_wp2
    simpa [encA] using hK
  case body =>
    rintro l pre p W ⟨⟨c0, f0⟩, hB⟩ hlen _
    have hlen2 : recs.length ≤ 1048576 := by have := len_le_sumL recs; unfold tot at hb; omega
    have hwr : IntKind.i64.wrap ((pre.length : Int) + 1) = ((pre.length + 1 : Nat) : Int) := by rw [IntWalk.i64_in _ (by omega)]; omega
    gi_wp2
    have hB3 : Below w.heap.size W (W.setCell ⟨w.heap.size, 0, none⟩ (.int .i64 ((pre.length : Int) + 1))) := (Below.refl w.heap.size W).setCell (p := ⟨w.heap.size, 0, none⟩) (Nat.le_refl _) _
    refine ⟨(KeepsOthers.setCell _ _ _).from _, hB3, ⟨?_, ?_⟩, hB.trans hB3⟩
    · rw [World.cell?_setCell_same' _ _ _ (by rw [c0]; rfl)]
      simp
    · rw [World.frozen?_setCell]
      exact f0
  case done =>
    rintro D ys W hD hys ⟨⟨hc, _⟩, hB⟩ hK
    have hl := congrArg List.length hys
    simp only [List.length_map] at hl
    rw [hl] at hc
    gi_wp2
    refine ⟨by simp, .inl ⟨_, _, rfl, run_takeDeferred hK, ?_⟩⟩
    exact ⟨_, results_tmp rfl _ _ _, rfl, hB.trans (belowK_b (w := w) (Nat.le_refl _) W D _ _ (by simp at hD; omega) hK rfl rfl)⟩
  case stop =>
    rintro D c pre W _ _ h _
    exact h.elim
end Go.Proofs.Ytgkohbjbfjnllaa
