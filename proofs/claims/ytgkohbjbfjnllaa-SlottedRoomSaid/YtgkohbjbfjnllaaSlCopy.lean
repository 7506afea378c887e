/-
  Package slotted: Copy: another page with the same records, in memory of its own: for every page.
-/
import Derived.Test.YtgkohbjbfjnllaaSlS
import Derived.Test.YtgkohbjbfjnllaaSlW
namespace Go.Proofs.Ytgkohbjbfjnllaa
open Go.RowKit

attribute [local go_sem ↓] Go.wp_at_zero Go.wp_at_succ

set_option maxHeartbeats 1000000 in
theorem clone_slots {B : Nat} (bp : Nat) (size : Int) (sv : Value) (recs : List (List UInt8)) (w : World) (hp : PageAt w B bp size sv recs) (hn : recs.length ≤ 1048576) :
    Calls Try.prog 35 #[sv] w fun e w' => ∃ v' vs, e = .returned v' ∧ w'.ownsRow w.heap.size 29 1 v' recs.length vs ∧ (∀ (i : Nat) (l : List UInt8), recs[i]? = some l → ∃ v, vs[i]? = some v ∧ RecAt w' v l) ∧ Below w.heap.size w w' := by
  obtain ⟨_, _, vs, ⟨hvl, hv⟩, hr⟩ := hp
  have hvl : vs.length = recs.length := by simpa using hvl
  rcases hv with ⟨rfl, h0⟩ | ⟨g, cap, cur, rfl, hg, hh, hnc, hm, hs, ht⟩
  · have he : ∀ w : World, (binOp .eql 51 (.slice none 0 0) (.slice none 0 0)).run Try.prog w = .ok (.bool true) w := fun _ => rfl
    have HR := hid hr
    have hnil : recs = [] := List.length_eq_zero_iff.1 h0
    subst hnil
    clear hr h0
    go_enter Try.func35, Try.ntmps35
    go_wp2
    go_ret
    exact ⟨_, [], rfl, ⟨rfl, .inl ⟨rfl, rfl⟩⟩, fun i l hi => by simp at hi, Below.refl _ _⟩
  · obtain ⟨i0, hi, hz0, hz1, hz2⟩ := info_parts infoS
    have hone : ∀ u ∈ vs, u.oneCell' = true := fun u hu => by
      obtain ⟨i, hi2⟩ := List.getElem?_of_mem hu
      have hlt : i < recs.length := by have := (List.getElem?_eq_some_iff.1 hi2).1; omega
      obtain ⟨v, hv, hrec⟩ := hr i _ (List.getElem?_eq_getElem hlt)
      rw [hi2] at hv
      injection hv with hv
      subst hv
      obtain ⟨A1, c1, rfl⟩ := hrec.form
      rfl
    have hgs := heap_lt hh
    have hcells : ∀ j u, vs[j]? = some u → (w.alloc (.cells #[] 29)).cell? ((⟨g, 0, none⟩ : Addr).add j) = some u := fun j u hj => by
      have hjl : j < recs.length := by have := (List.getElem?_eq_some_iff.1 hj).1; omega
      rw [((Below.refl w.heap.size w).alloc (Nat.le_refl _) _).cell (by rw [block_add]; exact hgs)]
      rw [← ht, List.getElem?_take_of_lt (by omega)] at hj
      by_cases hj0 : j = 0
      · subst hj0; simpa [World.cell?, Addr.add, hh] using hj
      · simpa [World.cell?, Addr.add, hh, hj0] using hj
    have hown0 : (w.alloc (.cells #[] 29)).ownsRow w.heap.size 29 1 (.slice (some ⟨w.heap.size, 0, none⟩) 0 0) 0 [] :=
      ⟨rfl, .inr ⟨w.heap.size, 0, #[], rfl, Nat.le_refl _, by show (w.heap.push _)[w.heap.size]? = _; simp, Nat.le_refl _, by unfold maxLen; omega, rfl, rfl⟩⟩
    have he : ∀ w : World, (binOp .eql 51 (.slice (some ⟨g, 0, none⟩) recs.length cap) (.slice none 0 0)).run Try.prog w = .ok (.bool false) w := fun _ => rfl
    have HR := hid hr
    clear hr ht hs hm hnc hh
    go_enter Try.func35, Try.ntmps35
    go_wp2_with (first
      | (at_builtin; go_loud (refine wpList_append_own _ rfl (.tmp 5) (.tmp 6) 51 rfl w.heap.size 29 i0 (.slice none 0 0) 1 24 Try.underlying51 hi hz0 hz1 hz2 rfl (by decide) _ _ _ rfl hown0 ⟨g, 0, none⟩ recs.length cap vs rfl (by omega) hcells hone (by unfold maxLen; omega) (by omega) (by simp) ?_)))
    intro v' w1 hown' hgrow hnil
    go_wp2
    go_ret
    have hbel : Below w.heap.size w w1 := ((Below.refl _ _).alloc (Nat.le_refl _) _).grown hgrow (by simp) (fun k hk => by simp [Value.ownBlock] at hk; omega)
    exact ⟨v', vs, rfl, by simpa using hown', fun i l hil => by
      obtain ⟨v, hv, hrec⟩ := HR.out i l hil
      exact ⟨v, hv, hrec.kept fun k _ _ hk => hbel.block k (heap_lt hk)⟩, hbel⟩

theorem PageAt.copied {w : World} {B : Nat} {size : Int} {v1 : Value} {recs : List (List UInt8)} {vs : List Value} (h : w.ownsRow B 29 1 v1 recs.length vs) (hr : ∀ (i : Nat) (l : List UInt8), recs[i]? = some l → ∃ v, vs[i]? = some v ∧ RecAt w v l) (hB : B ≤ w.heap.size) : PageAt (w.alloc (.cells #[.int .i64 size, v1] 53)) B w.heap.size size v1 recs :=
  ⟨heap_alloc_new w _, hB, vs, h.alloc _, fun i l hi => by
    obtain ⟨v, hv, hrec⟩ := hr i l hi
    exact ⟨v, hv, hrec.kept fun k _ _ hk => (balloc (Below.refl w.heap.size w) (.cells #[.int .i64 size, v1] 53)).block k (heap_lt hk)⟩⟩

set_option maxHeartbeats 1000000 in
theorem copy_any {B : Nat} (bp : Nat) (size : Int) (sv : Value) (recs : List (List UInt8)) (w : World) (hp : PageAt w B bp size sv recs) (hn : recs.length ≤ 1048576) :
    Calls Try.prog 19 #[.pointer (some ⟨bp, 0, none⟩)] w fun e w' => ∃ (bc : Nat) (sv' : Value), e = .returned (.pointer (some ⟨bc, 0, none⟩)) ∧ PageAt w' w.heap.size bc size sv' recs ∧ w.heap.size ≤ bc ∧ Below w.heap.size w w' := by
  have hbp := heap_lt hp.1
  have hc0 : ∀ w', Below w.heap.size w w' → w'.cell? ⟨bp, 0, none⟩ = some (.int .i64 size) := fun w' hw' => (hw'.cell (p := ⟨bp, 0, none⟩) hbp).trans hp.size_cell
  have hc1 : ∀ w', Below w.heap.size w w' → w'.cell? ⟨bp, 1, none⟩ = some sv := fun w' hw' => (hw'.cell (p := ⟨bp, 1, none⟩) hbp).trans hp.slots_cell
  have HP := hid hp
  clear hp
  go_enter Try.func19, Try.ntmps19
  go_upto_region 1 with fail
  refine wp_region_held_drew (S := fun w' => Below w.heap.size w w') (by kernel_rfl) (Below.drew (Below.refl _ _)) (fun hHeld => ?_)
  refine wpAnyH_take (i := 0) (oi := { dst := some 3, op := Op.move (Operand.tmp 0), type := 24, pos := _, after := _, guard := none }) (v := ?_) rfl (by kernel_rfl) (by kernel_rfl) (by kernel_rfl) (fun _ _ _ h => h) (Or.inl ⟨by rfl, ?_⟩) (by assumption) ?_
  case refine_2 => (intro w hSw; go_simp <;> with_reducible rfl)
  simp only [Act.put, List.setIfInBounds_toArray, List.set_cons_zero, List.set_cons_succ]
  refine wpAnyH_take (i := 1) (oi := { dst := some 4, op := Op.nilCheck (Operand.tmp 3), type := 0, pos := _, after := _, guard := none }) (v := ?_) rfl (by kernel_rfl) (by kernel_rfl) (by kernel_rfl) (fun _ _ _ h => h) (Or.inl ⟨by rfl, ?_⟩) (by assumption) ?_
  case refine_2 => (intro w hSw; go_simp <;> with_reducible rfl)
  simp only [Act.put, List.setIfInBounds_toArray, List.set_cons_zero, List.set_cons_succ]
  refine wpAnyH_take (i := 2) (oi := { dst := some 5, op := Op.fieldAddr 53 (Operand.tmp 4) 0, type := 0, pos := _, after := _, guard := none }) (v := ?_) rfl (by kernel_rfl) (by kernel_rfl) (by kernel_rfl) (fun _ _ _ h => h) (Or.inl ⟨by rfl, ?_⟩) (by assumption) ?_
  case refine_2 => (intro w hSw; go_simp <;> with_reducible rfl)
  simp only [Act.put, List.setIfInBounds_toArray, List.set_cons_zero, List.set_cons_succ]
  refine wpAnyH_take (i := 3) (oi := { dst := some 6, op := Op.load 3 (Operand.tmp 5), type := 3, pos := _, after := _, guard := none }) (v := ?_) rfl (by kernel_rfl) (by kernel_rfl) (by kernel_rfl) (fun _ _ _ h => h) (Or.inl ⟨by rfl, ?_⟩) (by assumption) ?_
  case refine_2 => (intro w hSw; go_simp <;> with_reducible rfl)
  simp only [Act.put, List.setIfInBounds_toArray, List.set_cons_zero, List.set_cons_succ]
  refine wpAnyH_take (i := 4) (oi := { dst := some 7, op := Op.move (Operand.tmp 0), type := 24, pos := _, after := _, guard := none }) (v := ?_) rfl (by kernel_rfl) (by kernel_rfl) (by kernel_rfl) (fun _ _ _ h => h) (Or.inl ⟨by rfl, ?_⟩) (by assumption) ?_
  case refine_2 => (intro w hSw; go_simp <;> with_reducible rfl)
  simp only [Act.put, List.setIfInBounds_toArray, List.set_cons_zero, List.set_cons_succ]
  refine wpAnyH_take (i := 5) (oi := { dst := some 8, op := Op.nilCheck (Operand.tmp 7), type := 0, pos := _, after := _, guard := none }) (v := ?_) rfl (by kernel_rfl) (by kernel_rfl) (by kernel_rfl) (fun _ _ _ h => h) (Or.inl ⟨by rfl, ?_⟩) (by assumption) ?_
  case refine_2 => (intro w hSw; go_simp <;> with_reducible rfl)
  simp only [Act.put, List.setIfInBounds_toArray, List.set_cons_zero, List.set_cons_succ]
  refine wpAnyH_take (i := 6) (oi := { dst := some 9, op := Op.fieldAddr 53 (Operand.tmp 8) 1, type := 0, pos := _, after := _, guard := none }) (v := ?_) rfl (by kernel_rfl) (by kernel_rfl) (by kernel_rfl) (fun _ _ _ h => h) (Or.inl ⟨by rfl, ?_⟩) (by assumption) ?_
  case refine_2 => (intro w hSw; go_simp <;> with_reducible rfl)
  simp only [Act.put, List.setIfInBounds_toArray, List.set_cons_zero, List.set_cons_succ]
  refine wpAnyH_take (i := 7) (oi := { dst := some 10, op := Op.load 51 (Operand.tmp 9), type := 51, pos := _, after := _, guard := none }) (v := ?_) rfl (by kernel_rfl) (by kernel_rfl) (by kernel_rfl) (fun _ _ _ h => h) (Or.inl ⟨by rfl, ?_⟩) (by assumption) ?_
  case refine_2 => (intro w hSw; go_simp <;> with_reducible rfl)
  simp only [Act.put, List.setIfInBounds_toArray, List.set_cons_zero, List.set_cons_succ]
  refine wpAnyH_ready (rs := [8]) (by kernel_rfl) (by simp) ?_
  refine AllReadyH.cons (o := { dst := some 11, op := Op.call { callee := Callee.value (Operand.func 35), args := #[Operand.tmp 10], argTypes := #[51] }, type := 51, pos := _, after := _, guard := none }) rfl (fun K hK => ?_) AllReadyH.nil
  go_simp
  go_at_call 35
  refine (clone_slots bp size _ recs _ (HP.out.kept hHeld) hn).mono ?_
  rintro e w1 ⟨v1, vs, rfl, ho1, hr1, hb1⟩
  obtain ⟨A1, c1, hv1⟩ := own_form ho1
  subst hv1
  have HO1 := hid ho1
  have HR1 := hid hr1
  have hbb := more1 hb1 hHeld
  have HB1 := hid hbb
  refine hK.out _ _ hbb (fun _ => ?_)
  clear hK K hHeld hb1 ho1 hr1
  try simp only [Act.put, List.setIfInBounds_toArray, List.set_cons_zero, List.set_cons_succ]
  refine wpAnyH_take (i := 9) (oi := { dst := some 12, op := Op.build 53 #[(0, Operand.tmp 6), (1, Operand.tmp 11)], type := 53, pos := _, after := _, guard := none }) (v := ?_) rfl (by kernel_rfl) (by kernel_rfl) (by kernel_rfl) (fun _ _ _ h => h) (Or.inl ⟨by rfl, ?_⟩) (by assumption) ?_
  case refine_2 => (intro w hSw; go_simp <;> with_reducible rfl)
  simp only [Act.put, List.setIfInBounds_toArray, List.set_cons_zero, List.set_cons_succ]
  refine wpAnyH_ready (rs := [10]) (by kernel_rfl) (by simp) ?_
  refine AllReadyH.cons (o := { dst := some 13, op := Op.box 53 (Operand.tmp 12), type := 24, pos := _, after := _, guard := none }) rfl (fun K hK => ?_) AllReadyH.nil
  go_simp
  have hb2 := balloc HB1.out (.cells #[.int .i64 size, .slice A1 recs.length c1] 53)
  refine hK.out _ _ hb2 (fun _ => ?_)
  clear hK K hbb
  try simp only [Act.put, List.setIfInBounds_toArray, List.set_cons_zero, List.set_cons_succ]
  refine wpAnyH_take (i := 11) (oi := { dst := some 2, op := Op.assign (Operand.tmp 13), type := 24, pos := _, after := _, guard := none }) (v := ?_) rfl (by kernel_rfl) (by kernel_rfl) (by kernel_rfl) (fun _ _ _ h => h) (Or.inl ⟨by rfl, ?_⟩) (by assumption) ?_
  case refine_2 => (intro w hSw; go_simp <;> with_reducible rfl)
  simp only [Act.put, List.setIfInBounds_toArray, List.set_cons_zero, List.set_cons_succ]
  refine wpAnyH_done (by kernel_rfl) ?_ _
  go_wp2
  go_ret
  exact ⟨w1.heap.size, _, rfl, PageAt.copied HO1.out HR1.out HB1.out.size, HB1.out.size, balloc HB1.out _⟩
end Go.Proofs.Ytgkohbjbfjnllaa
