/-
  Package quad: Set: for every quad, rectangle and value.
-/
import Derived.Test.YtdpdkjpkehgdnaaQuL
import Derived.Test.YtdpdkjpkehgdnaaQuG
namespace Go.Proofs.Ytdpdkjpkehgdnaa
open Go.RowKit

theorem joinU_fits {U : Nat → Sq} {k : Nat} (h : ∀ i, i < 4 → (U i).fits k) : (joinU U).fits (k + 1) := by
  unfold joinU
  split
  · rename_i hone
    obtain ⟨u, hu⟩ := oneB_zero hone
    rw [Sq.tag_some hu]
    trivial
  · exact ⟨k, rfl, h 0 (by decide), h 1 (by decide), h 2 (by decide), h 3 (by decide)⟩
theorem quart_fits {t : Sq} {k : Nat} (h : t.fits (k + 1)) (i : Nat) (hi : i < 4) : (quart t i).fits k := by
  cases t with
  | leaf v => trivial
  | node a b c d =>
    obtain ⟨k', e, h0, h1, h2, h3⟩ := h
    cases Nat.succ.inj e
    match i, hi with
    | 0, _ => exact h0
    | 1, _ => exact h1
    | 2, _ => exact h2
    | 3, _ => exact h3
theorem setT_fits : ∀ (k : Nat) (x y rx ry rw rh v : Int) (t : Sq), t.fits k → (setT k x y rx ry rw rh v t).fits k
  | 0, x, y, rx, ry, rw, rh, v, t, h => by
    unfold setT
    repeat' split
    all_goals first | exact h | trivial
  | k + 1, x, y, rx, ry, rw, rh, v, t, h => by
    unfold setT
    repeat' split
    all_goals first | exact h | trivial | skip
    exact joinU_fits fun i hi => setT_fits k _ _ _ _ _ _ _ _ (quart_fits h i hi)

theorem quad_set_at {W W' : World} {N g : Nat} {side : Int} {t t' : Sq} {F : Nat → Prop} (hq : QuadAt W N g side t) (hb : ¬ F g) (hF : ∀ c, F c → N ≤ c ∧ c < W.heap.size) (h : SqAt W' t' g 1 (grow F W W')) (k : Kept g 1 F W W') : QuadAt W' N g side t' ∧ Below N W W' := by
  have hs := k.size
  have h1 := hq.lt
  have h2 := hq.low
  refine ⟨⟨h2, by omega, (k.cell 0 (by decide) (by decide)).trans hq.side, _, h, ?_, ?_⟩, k.to_below h2 (fun c hc => (hF c hc).1) (by omega)⟩
  · rintro (hc | hc)
    · exact hb hc
    · omega
  · rintro c (hc | hc)
    · have := hF c hc
      omega
    · omega

/-- may the tiles of a rectangle be set to a value? -/
def okSet (side rx ry rw rh v : Int) : Bool := inB rx ry rw rh 0 0 side side && decide (0 ≤ v) && decide (v ≤ 255)

theorem keepS {A g : Nat} {a b c d side : Int} {W w1 : World} (hA : A < W.heap.size) (hg : g < W.heap.size) (h : Below W.heap.size W w1)
    (hW : W.cell? ⟨A, 0, none⟩ = some (.int .i64 a) ∧ W.cell? ⟨A, 1, none⟩ = some (.int .i64 b) ∧ W.cell? ⟨A, 2, none⟩ = some (.int .i64 c) ∧ W.cell? ⟨A, 3, none⟩ = some (.int .i64 d) ∧ W.cell? ⟨g, 0, none⟩ = some (.int .i64 side)) :
    w1.cell? ⟨A, 0, none⟩ = some (.int .i64 a) ∧ w1.cell? ⟨A, 1, none⟩ = some (.int .i64 b) ∧ w1.cell? ⟨A, 2, none⟩ = some (.int .i64 c) ∧ w1.cell? ⟨A, 3, none⟩ = some (.int .i64 d) ∧ w1.cell? ⟨g, 0, none⟩ = some (.int .i64 side) ∧ W.heap.size ≤ w1.heap.size ∧ Below W.heap.size W w1 := by
  have e : ∀ b o, b < W.heap.size → w1.cell? ⟨b, o, none⟩ = W.cell? ⟨b, o, none⟩ := fun b o hb => h.cell (p := ⟨b, o, none⟩) hb
  simp only [e A _ hA, e g _ hg]
  obtain ⟨g0, g1, g2, g3, g4⟩ := hW
  exact ⟨g0, g1, g2, g3, g4, h.size, h⟩
theorem moreS {A g : Nat} {a b c d side : Int} {W wX w1 : World} (k : Below wX.heap.size wX w1)
    (h : wX.cell? ⟨A, 0, none⟩ = some (.int .i64 a) ∧ wX.cell? ⟨A, 1, none⟩ = some (.int .i64 b) ∧ wX.cell? ⟨A, 2, none⟩ = some (.int .i64 c) ∧ wX.cell? ⟨A, 3, none⟩ = some (.int .i64 d) ∧ wX.cell? ⟨g, 0, none⟩ = some (.int .i64 side) ∧ W.heap.size ≤ wX.heap.size ∧ Below W.heap.size W wX) : Below W.heap.size W w1 :=
  h.2.2.2.2.2.2.trans (k.mono h.2.2.2.2.2.1)
theorem ltS {A g : Nat} {a b c d side : Int} {W wX : World} (hg : g < W.heap.size)
    (h : wX.cell? ⟨A, 0, none⟩ = some (.int .i64 a) ∧ wX.cell? ⟨A, 1, none⟩ = some (.int .i64 b) ∧ wX.cell? ⟨A, 2, none⟩ = some (.int .i64 c) ∧ wX.cell? ⟨A, 3, none⟩ = some (.int .i64 d) ∧ wX.cell? ⟨g, 0, none⟩ = some (.int .i64 side) ∧ W.heap.size ≤ wX.heap.size ∧ Below W.heap.size W wX) : g < wX.heap.size :=
  Nat.lt_of_lt_of_le hg h.2.2.2.2.2.1
theorem sideS {A g : Nat} {a b c d side : Int} {W wX : World}
    (h : wX.cell? ⟨A, 0, none⟩ = some (.int .i64 a) ∧ wX.cell? ⟨A, 1, none⟩ = some (.int .i64 b) ∧ wX.cell? ⟨A, 2, none⟩ = some (.int .i64 c) ∧ wX.cell? ⟨A, 3, none⟩ = some (.int .i64 d) ∧ wX.cell? ⟨g, 0, none⟩ = some (.int .i64 side) ∧ W.heap.size ≤ wX.heap.size ∧ Below W.heap.size W wX) : wX.cell? ⟨g, 0, none⟩ = some (.int .i64 side) := h.2.2.2.2.1
theorem lastS {A g : Nat} {a b c d side : Int} {W wX : World}
    (h : wX.cell? ⟨A, 0, none⟩ = some (.int .i64 a) ∧ wX.cell? ⟨A, 1, none⟩ = some (.int .i64 b) ∧ wX.cell? ⟨A, 2, none⟩ = some (.int .i64 c) ∧ wX.cell? ⟨A, 3, none⟩ = some (.int .i64 d) ∧ wX.cell? ⟨g, 0, none⟩ = some (.int .i64 side) ∧ W.heap.size ≤ wX.heap.size ∧ Below W.heap.size W wX) : Below W.heap.size W wX := h.2.2.2.2.2.2

set_option maxHeartbeats 1000000 in
theorem qset_no (N g : Nat) (side : Int) (t : Sq) (rx ry rw rh v : Int) (w : World) (hq : QuadAt w N g side t) (h : okSet side rx ry rw rh v = false) :
    Calls Try.prog 28 #[.pointer (some ⟨g, 0, none⟩), .agg #[.int .i64 rx, .int .i64 ry, .int .i64 rw, .int .i64 rh], .int .i64 v] w fun e w' => e = .returned (.int .i64 11) ∧ Below w.heap.size w w' := by
  have hcs : (inB rx ry rw rh 0 0 side side = false) ∨ (inB rx ry rw rh 0 0 side side = true ∧ v < 0) ∨ (inB rx ry rw rh 0 0 side side = true ∧ ¬ v < 0 ∧ 255 < v) := by
    cases hi : inB rx ry rw rh 0 0 side side with
    | false => exact .inl rfl
    | true =>
      right
      simp only [okSet, hi, Bool.true_and, Bool.and_eq_false_iff, decide_eq_false_iff_not] at h
      by_cases hv : v < 0
      · exact .inl ⟨rfl, hv⟩
      · exact .inr ⟨rfl, hv, by omega⟩
  have hg := hq.lt
  have hside := hq.side
  go_enter Try.func28, Try.ntmps28
  go_wp2_with fail
  have hS0 : (w.alloc (.cells #[.int .i64 rx, .int .i64 ry, .int .i64 rw, .int .i64 rh] 24)).cell? ⟨w.heap.size, 0, none⟩ = some (.int .i64 rx) ∧ (w.alloc (.cells #[.int .i64 rx, .int .i64 ry, .int .i64 rw, .int .i64 rh] 24)).cell? ⟨w.heap.size, 1, none⟩ = some (.int .i64 ry) ∧ (w.alloc (.cells #[.int .i64 rx, .int .i64 ry, .int .i64 rw, .int .i64 rh] 24)).cell? ⟨w.heap.size, 2, none⟩ = some (.int .i64 rw) ∧ (w.alloc (.cells #[.int .i64 rx, .int .i64 ry, .int .i64 rw, .int .i64 rh] 24)).cell? ⟨w.heap.size, 3, none⟩ = some (.int .i64 rh) ∧ (w.alloc (.cells #[.int .i64 rx, .int .i64 ry, .int .i64 rw, .int .i64 rh] 24)).cell? ⟨g, 0, none⟩ = some (.int .i64 side) := by
    simp [go_sem, hg, hside]
  have hS := hS0
  have hB2 : Below w.heap.size w (w.alloc (.cells #[.int .i64 rx, .int .i64 ry, .int .i64 rw, .int .i64 rh] 24)) := balloc (Below.refl _ _) _
  have lA : w.heap.size < (w.alloc (.cells #[.int .i64 rx, .int .i64 ry, .int .i64 rw, .int .i64 rh] 24)).heap.size := by simp
  clear hS0
  generalize w.alloc (.cells #[.int .i64 rx, .int .i64 ry, .int .i64 rw, .int .i64 rh] 24) = W2 at hS hB2 lA ⊢
  have lg : g < W2.heap.size := by omega
  rcases hcs with hi | ⟨hi, hv⟩ | ⟨hi, hv, hv2⟩
  · refine wp_region_noPanic ?_
    refine wp_region_held_drew (S := (fun w' => w'.cell? ⟨w.heap.size, 0, none⟩ = some (.int .i64 rx) ∧ w'.cell? ⟨w.heap.size, 1, none⟩ = some (.int .i64 ry) ∧ w'.cell? ⟨w.heap.size, 2, none⟩ = some (.int .i64 rw) ∧ w'.cell? ⟨w.heap.size, 3, none⟩ = some (.int .i64 rh) ∧ w'.cell? ⟨g, 0, none⟩ = some (.int .i64 side) ∧ W2.heap.size ≤ w'.heap.size ∧ Below W2.heap.size W2 w')) (by kernel_rfl) (keepS lA lg (Below.refl _ _).drew hS) (fun hHeld => ?_)
    refine wpAnyH_take (i := 0) (oi := { dst := some 7, op := Op.load 24 (Operand.tmp 4), type := 24, pos := _, after := _, guard := none }) (v := ?_) rfl (by kernel_rfl) (by kernel_rfl) (by kernel_rfl) (fun _ _ _ h => h) (Or.inl ⟨by kernel_rfl, ?_⟩) (by assumption) ?_
    case refine_2 => (intro w hSw; go_simp <;> with_reducible rfl)
    simp only [Act.put, List.setIfInBounds_toArray, List.set_cons_zero, List.set_cons_succ]
    refine wpAnyH_take (i := 1) (oi := { dst := some 8, op := Op.move (Operand.tmp 0), type := 29, pos := _, after := _, guard := none }) (v := ?_) rfl (by kernel_rfl) (by kernel_rfl) (by kernel_rfl) (fun _ _ _ h => h) (Or.inl ⟨by kernel_rfl, ?_⟩) (by assumption) ?_
    case refine_2 => (intro w hSw; go_simp <;> with_reducible rfl)
    simp only [Act.put, List.setIfInBounds_toArray, List.set_cons_zero, List.set_cons_succ]
    refine wpAnyH_ready (rs := [2]) (by kernel_rfl) (by simp) ?_
    refine AllReadyH.cons (o := { dst := some 9, op := Op.call { callee := Callee.value (Operand.func 36), args := #[Operand.tmp 8], argTypes := #[29] }, type := 24, pos := _, after := _, guard := none }) rfl (fun K hK => ?_) AllReadyH.nil
    go_simp
    go_at_call 36
    refine (all_get g side _ (ltS lg hHeld) (sideS hHeld)).mono ?_
    rintro e wq ⟨rfl, hbq⟩
    have hHeld2 := keepS lA lg (moreS hbq hHeld) hS
    refine hK.out _ _ hHeld2 (fun _ => ?_)
    clear hK K
    try simp only [Act.put, List.setIfInBounds_toArray, List.set_cons_zero, List.set_cons_succ]
    refine wpAnyH_ready (rs := [3]) (by kernel_rfl) (by simp) ?_
    refine AllReadyH.cons (o := { dst := some 10, op := Op.call { callee := Callee.value (Operand.func 41), args := #[Operand.tmp 7, Operand.tmp 9], argTypes := #[24, 24] }, type := 4, pos := _, after := _, guard := none }) rfl (fun K hK => ?_) AllReadyH.nil
    go_simp
    go_at_call 41
    refine (in_any _ _ _ _ _ _ _ _ _).mono ?_
    rintro e wi ⟨rfl, hbi⟩
    rw [hi]
    have hHeld3 := keepS lA lg (moreS hbi hHeld2) hS
    refine hK.out _ _ hHeld3 (fun _ => ?_)
    clear hK K
    try simp only [Act.put, List.setIfInBounds_toArray, List.set_cons_zero, List.set_cons_succ]
    refine wpAnyH_take (i := 4) (oi := { dst := some 11, op := Op.unOp UnOp.not 4 (Operand.tmp 10), type := 4, pos := _, after := _, guard := none }) (v := ?_) rfl (by kernel_rfl) (by kernel_rfl) (by kernel_rfl) (fun _ _ _ h => h) (Or.inl ⟨by kernel_rfl, ?_⟩) (by assumption) ?_
    case refine_2 => (intro w hSw; go_simp <;> with_reducible rfl)
    simp only [Act.put, List.setIfInBounds_toArray, List.set_cons_zero, List.set_cons_succ]
    refine wpAnyH_take (i := 5) (oi := { dst := some 12, op := Op.move (Operand.tmp 11), type := 4, pos := _, after := _, guard := none }) (v := ?_) rfl (by kernel_rfl) (by kernel_rfl) (by kernel_rfl) (fun _ _ _ h => h) (Or.inl ⟨by kernel_rfl, ?_⟩) (by assumption) ?_
    case refine_2 => (intro w hSw; go_simp <;> with_reducible rfl)
    simp only [Act.put, List.setIfInBounds_toArray, List.set_cons_zero, List.set_cons_succ]
    refine wpAnyH_take (i := 6) (oi := { dst := some 13, op := Op.move (Operand.tmp 2), type := 3, pos := _, after := _, guard := some (5, false) }) (v := undef) rfl (by kernel_rfl) (by kernel_rfl) (by kernel_rfl) (fun _ _ _ h => h) (Or.inr ⟨by kernel_rfl, rfl⟩) (by assumption) ?_
    simp only [Act.put, List.setIfInBounds_toArray, List.set_cons_zero, List.set_cons_succ]
    refine wpAnyH_take (i := 7) (oi := { dst := some 14, op := Op.binOp BinOp.lss 3 (Operand.tmp 13) (Operand.const (Value.int IntKind.i64 0)) 3, type := 4, pos := _, after := _, guard := some (5, false) }) (v := undef) rfl (by kernel_rfl) (by kernel_rfl) (by kernel_rfl) (fun _ _ _ h => h) (Or.inr ⟨by kernel_rfl, rfl⟩) (by assumption) ?_
    simp only [Act.put, List.setIfInBounds_toArray, List.set_cons_zero, List.set_cons_succ]
    refine wpAnyH_take (i := 8) (oi := { dst := some 15, op := Op.pick (Operand.tmp 12) (Operand.const (Value.bool true)) (Operand.tmp 14), type := 4, pos := _, after := _, guard := none }) (v := ?_) rfl (by kernel_rfl) (by kernel_rfl) (by kernel_rfl) (fun _ _ _ h => h) (Or.inl ⟨by kernel_rfl, ?_⟩) (by assumption) ?_
    case refine_2 => (intro w hSw; go_simp <;> with_reducible rfl)
    simp only [Act.put, List.setIfInBounds_toArray, List.set_cons_zero, List.set_cons_succ]
    refine wpAnyH_take (i := 9) (oi := { dst := some 16, op := Op.move (Operand.tmp 15), type := 4, pos := _, after := _, guard := none }) (v := ?_) rfl (by kernel_rfl) (by kernel_rfl) (by kernel_rfl) (fun _ _ _ h => h) (Or.inl ⟨by kernel_rfl, ?_⟩) (by assumption) ?_
    case refine_2 => (intro w hSw; go_simp <;> with_reducible rfl)
    simp only [Act.put, List.setIfInBounds_toArray, List.set_cons_zero, List.set_cons_succ]
    refine wpAnyH_take (i := 10) (oi := { dst := some 17, op := Op.move (Operand.tmp 2), type := 3, pos := _, after := _, guard := some (9, false) }) (v := undef) rfl (by kernel_rfl) (by kernel_rfl) (by kernel_rfl) (fun _ _ _ h => h) (Or.inr ⟨by kernel_rfl, rfl⟩) (by assumption) ?_
    simp only [Act.put, List.setIfInBounds_toArray, List.set_cons_zero, List.set_cons_succ]
    refine wpAnyH_take (i := 11) (oi := { dst := some 18, op := Op.binOp BinOp.gtr 3 (Operand.tmp 17) (Operand.const (Value.int IntKind.i64 255)) 3, type := 4, pos := _, after := _, guard := some (9, false) }) (v := undef) rfl (by kernel_rfl) (by kernel_rfl) (by kernel_rfl) (fun _ _ _ h => h) (Or.inr ⟨by kernel_rfl, rfl⟩) (by assumption) ?_
    simp only [Act.put, List.setIfInBounds_toArray, List.set_cons_zero, List.set_cons_succ]
    refine wpAnyH_take (i := 12) (oi := { dst := some 19, op := Op.pick (Operand.tmp 16) (Operand.const (Value.bool true)) (Operand.tmp 18), type := 4, pos := _, after := _, guard := none }) (v := ?_) rfl (by kernel_rfl) (by kernel_rfl) (by kernel_rfl) (fun _ _ _ h => h) (Or.inl ⟨by kernel_rfl, ?_⟩) (by assumption) ?_
    case refine_2 => (intro w hSw; go_simp <;> with_reducible rfl)
    simp only [Act.put, List.setIfInBounds_toArray, List.set_cons_zero, List.set_cons_succ]
    refine wpAnyH_done (by kernel_rfl) ?_ _
    refine NoPanic.normal ?_
    all_goals go_wp2
    all_goals go_ret
    all_goals exact ⟨rfl, bstep hB2 (lastS hHeld3)⟩
  · refine wp_region_noPanic ?_
    refine wp_region_held_drew (S := (fun w' => w'.cell? ⟨w.heap.size, 0, none⟩ = some (.int .i64 rx) ∧ w'.cell? ⟨w.heap.size, 1, none⟩ = some (.int .i64 ry) ∧ w'.cell? ⟨w.heap.size, 2, none⟩ = some (.int .i64 rw) ∧ w'.cell? ⟨w.heap.size, 3, none⟩ = some (.int .i64 rh) ∧ w'.cell? ⟨g, 0, none⟩ = some (.int .i64 side) ∧ W2.heap.size ≤ w'.heap.size ∧ Below W2.heap.size W2 w')) (by kernel_rfl) (keepS lA lg (Below.refl _ _).drew hS) (fun hHeld => ?_)
    refine wpAnyH_take (i := 0) (oi := { dst := some 7, op := Op.load 24 (Operand.tmp 4), type := 24, pos := _, after := _, guard := none }) (v := ?_) rfl (by kernel_rfl) (by kernel_rfl) (by kernel_rfl) (fun _ _ _ h => h) (Or.inl ⟨by kernel_rfl, ?_⟩) (by assumption) ?_
    case refine_2 => (intro w hSw; go_simp <;> with_reducible rfl)
    simp only [Act.put, List.setIfInBounds_toArray, List.set_cons_zero, List.set_cons_succ]
    refine wpAnyH_take (i := 1) (oi := { dst := some 8, op := Op.move (Operand.tmp 0), type := 29, pos := _, after := _, guard := none }) (v := ?_) rfl (by kernel_rfl) (by kernel_rfl) (by kernel_rfl) (fun _ _ _ h => h) (Or.inl ⟨by kernel_rfl, ?_⟩) (by assumption) ?_
    case refine_2 => (intro w hSw; go_simp <;> with_reducible rfl)
    simp only [Act.put, List.setIfInBounds_toArray, List.set_cons_zero, List.set_cons_succ]
    refine wpAnyH_ready (rs := [2]) (by kernel_rfl) (by simp) ?_
    refine AllReadyH.cons (o := { dst := some 9, op := Op.call { callee := Callee.value (Operand.func 36), args := #[Operand.tmp 8], argTypes := #[29] }, type := 24, pos := _, after := _, guard := none }) rfl (fun K hK => ?_) AllReadyH.nil
    go_simp
    go_at_call 36
    refine (all_get g side _ (ltS lg hHeld) (sideS hHeld)).mono ?_
    rintro e wq ⟨rfl, hbq⟩
    have hHeld2 := keepS lA lg (moreS hbq hHeld) hS
    refine hK.out _ _ hHeld2 (fun _ => ?_)
    clear hK K
    try simp only [Act.put, List.setIfInBounds_toArray, List.set_cons_zero, List.set_cons_succ]
    refine wpAnyH_ready (rs := [3]) (by kernel_rfl) (by simp) ?_
    refine AllReadyH.cons (o := { dst := some 10, op := Op.call { callee := Callee.value (Operand.func 41), args := #[Operand.tmp 7, Operand.tmp 9], argTypes := #[24, 24] }, type := 4, pos := _, after := _, guard := none }) rfl (fun K hK => ?_) AllReadyH.nil
    go_simp
    go_at_call 41
    refine (in_any _ _ _ _ _ _ _ _ _).mono ?_
    rintro e wi ⟨rfl, hbi⟩
    rw [hi]
    have hHeld3 := keepS lA lg (moreS hbi hHeld2) hS
    refine hK.out _ _ hHeld3 (fun _ => ?_)
    clear hK K
    try simp only [Act.put, List.setIfInBounds_toArray, List.set_cons_zero, List.set_cons_succ]
    refine wpAnyH_take (i := 4) (oi := { dst := some 11, op := Op.unOp UnOp.not 4 (Operand.tmp 10), type := 4, pos := _, after := _, guard := none }) (v := ?_) rfl (by kernel_rfl) (by kernel_rfl) (by kernel_rfl) (fun _ _ _ h => h) (Or.inl ⟨by kernel_rfl, ?_⟩) (by assumption) ?_
    case refine_2 => (intro w hSw; go_simp <;> with_reducible rfl)
    simp only [Act.put, List.setIfInBounds_toArray, List.set_cons_zero, List.set_cons_succ]
    refine wpAnyH_take (i := 5) (oi := { dst := some 12, op := Op.move (Operand.tmp 11), type := 4, pos := _, after := _, guard := none }) (v := ?_) rfl (by kernel_rfl) (by kernel_rfl) (by kernel_rfl) (fun _ _ _ h => h) (Or.inl ⟨by kernel_rfl, ?_⟩) (by assumption) ?_
    case refine_2 => (intro w hSw; go_simp <;> with_reducible rfl)
    simp only [Act.put, List.setIfInBounds_toArray, List.set_cons_zero, List.set_cons_succ]
    refine wpAnyH_take (i := 6) (oi := { dst := some 13, op := Op.move (Operand.tmp 2), type := 3, pos := _, after := _, guard := some (5, false) }) (v := ?_) rfl (by kernel_rfl) (by kernel_rfl) (by kernel_rfl) (fun _ _ _ h => h) (Or.inl ⟨by kernel_rfl, ?_⟩) (by assumption) ?_
    case refine_2 => (intro w hSw; go_simp <;> with_reducible rfl)
    simp only [Act.put, List.setIfInBounds_toArray, List.set_cons_zero, List.set_cons_succ]
    refine wpAnyH_take (i := 7) (oi := { dst := some 14, op := Op.binOp BinOp.lss 3 (Operand.tmp 13) (Operand.const (Value.int IntKind.i64 0)) 3, type := 4, pos := _, after := _, guard := some (5, false) }) (v := ?_) rfl (by kernel_rfl) (by kernel_rfl) (by kernel_rfl) (fun _ _ _ h => h) (Or.inl ⟨by kernel_rfl, ?_⟩) (by assumption) ?_
    case refine_2 => (intro w hSw; go_simp <;> with_reducible rfl)
    simp only [Act.put, List.setIfInBounds_toArray, List.set_cons_zero, List.set_cons_succ]
    refine wpAnyH_take (i := 8) (oi := { dst := some 15, op := Op.pick (Operand.tmp 12) (Operand.const (Value.bool true)) (Operand.tmp 14), type := 4, pos := _, after := _, guard := none }) (v := ?_) rfl (by kernel_rfl) (by kernel_rfl) (by kernel_rfl) (fun _ _ _ h => h) (Or.inl ⟨by kernel_rfl, ?_⟩) (by assumption) ?_
    case refine_2 => (intro w hSw; go_simp <;> with_reducible rfl)
    simp only [Act.put, List.setIfInBounds_toArray, List.set_cons_zero, List.set_cons_succ]
    refine wpAnyH_take (i := 9) (oi := { dst := some 16, op := Op.move (Operand.tmp 15), type := 4, pos := _, after := _, guard := none }) (v := ?_) rfl (by kernel_rfl) (by kernel_rfl) (by kernel_rfl) (fun _ _ _ h => h) (Or.inl ⟨by kernel_rfl, ?_⟩) (by assumption) ?_
    case refine_2 => (intro w hSw; go_simp <;> with_reducible rfl)
    simp only [Act.put, List.setIfInBounds_toArray, List.set_cons_zero, List.set_cons_succ]
    refine wpAnyH_take (i := 10) (oi := { dst := some 17, op := Op.move (Operand.tmp 2), type := 3, pos := _, after := _, guard := some (9, false) }) (v := undef) rfl (by kernel_rfl) (by kernel_rfl) (by kernel_rfl) (fun _ _ _ h => h) (Or.inr ⟨by kernel_rfl, rfl⟩) (by assumption) ?_
    simp only [Act.put, List.setIfInBounds_toArray, List.set_cons_zero, List.set_cons_succ]
    refine wpAnyH_take (i := 11) (oi := { dst := some 18, op := Op.binOp BinOp.gtr 3 (Operand.tmp 17) (Operand.const (Value.int IntKind.i64 255)) 3, type := 4, pos := _, after := _, guard := some (9, false) }) (v := undef) rfl (by kernel_rfl) (by kernel_rfl) (by kernel_rfl) (fun _ _ _ h => h) (Or.inr ⟨by kernel_rfl, rfl⟩) (by assumption) ?_
    simp only [Act.put, List.setIfInBounds_toArray, List.set_cons_zero, List.set_cons_succ]
    refine wpAnyH_take (i := 12) (oi := { dst := some 19, op := Op.pick (Operand.tmp 16) (Operand.const (Value.bool true)) (Operand.tmp 18), type := 4, pos := _, after := _, guard := none }) (v := ?_) rfl (by kernel_rfl) (by kernel_rfl) (by kernel_rfl) (fun _ _ _ h => h) (Or.inl ⟨by kernel_rfl, ?_⟩) (by assumption) ?_
    case refine_2 => (intro w hSw; go_simp <;> with_reducible rfl)
    simp only [Act.put, List.setIfInBounds_toArray, List.set_cons_zero, List.set_cons_succ]
    refine wpAnyH_done (by kernel_rfl) ?_ _
    refine NoPanic.normal ?_
    all_goals go_wp2
    all_goals go_ret
    all_goals exact ⟨rfl, bstep hB2 (lastS hHeld3)⟩
  · have hv3 : decide (v < 0) = false := by simpa using hv
    refine wp_region_noPanic ?_
    refine wp_region_held_drew (S := (fun w' => w'.cell? ⟨w.heap.size, 0, none⟩ = some (.int .i64 rx) ∧ w'.cell? ⟨w.heap.size, 1, none⟩ = some (.int .i64 ry) ∧ w'.cell? ⟨w.heap.size, 2, none⟩ = some (.int .i64 rw) ∧ w'.cell? ⟨w.heap.size, 3, none⟩ = some (.int .i64 rh) ∧ w'.cell? ⟨g, 0, none⟩ = some (.int .i64 side) ∧ W2.heap.size ≤ w'.heap.size ∧ Below W2.heap.size W2 w')) (by kernel_rfl) (keepS lA lg (Below.refl _ _).drew hS) (fun hHeld => ?_)
    refine wpAnyH_take (i := 0) (oi := { dst := some 7, op := Op.load 24 (Operand.tmp 4), type := 24, pos := _, after := _, guard := none }) (v := ?_) rfl (by kernel_rfl) (by kernel_rfl) (by kernel_rfl) (fun _ _ _ h => h) (Or.inl ⟨by kernel_rfl, ?_⟩) (by assumption) ?_
    case refine_2 => (intro w hSw; go_simp <;> with_reducible rfl)
    simp only [Act.put, List.setIfInBounds_toArray, List.set_cons_zero, List.set_cons_succ]
    refine wpAnyH_take (i := 1) (oi := { dst := some 8, op := Op.move (Operand.tmp 0), type := 29, pos := _, after := _, guard := none }) (v := ?_) rfl (by kernel_rfl) (by kernel_rfl) (by kernel_rfl) (fun _ _ _ h => h) (Or.inl ⟨by kernel_rfl, ?_⟩) (by assumption) ?_
    case refine_2 => (intro w hSw; go_simp <;> with_reducible rfl)
    simp only [Act.put, List.setIfInBounds_toArray, List.set_cons_zero, List.set_cons_succ]
    refine wpAnyH_ready (rs := [2]) (by kernel_rfl) (by simp) ?_
    refine AllReadyH.cons (o := { dst := some 9, op := Op.call { callee := Callee.value (Operand.func 36), args := #[Operand.tmp 8], argTypes := #[29] }, type := 24, pos := _, after := _, guard := none }) rfl (fun K hK => ?_) AllReadyH.nil
    go_simp
    go_at_call 36
    refine (all_get g side _ (ltS lg hHeld) (sideS hHeld)).mono ?_
    rintro e wq ⟨rfl, hbq⟩
    have hHeld2 := keepS lA lg (moreS hbq hHeld) hS
    refine hK.out _ _ hHeld2 (fun _ => ?_)
    clear hK K
    try simp only [Act.put, List.setIfInBounds_toArray, List.set_cons_zero, List.set_cons_succ]
    refine wpAnyH_ready (rs := [3]) (by kernel_rfl) (by simp) ?_
    refine AllReadyH.cons (o := { dst := some 10, op := Op.call { callee := Callee.value (Operand.func 41), args := #[Operand.tmp 7, Operand.tmp 9], argTypes := #[24, 24] }, type := 4, pos := _, after := _, guard := none }) rfl (fun K hK => ?_) AllReadyH.nil
    go_simp
    go_at_call 41
    refine (in_any _ _ _ _ _ _ _ _ _).mono ?_
    rintro e wi ⟨rfl, hbi⟩
    rw [hi]
    have hHeld3 := keepS lA lg (moreS hbi hHeld2) hS
    refine hK.out _ _ hHeld3 (fun _ => ?_)
    clear hK K
    try simp only [Act.put, List.setIfInBounds_toArray, List.set_cons_zero, List.set_cons_succ]
    refine wpAnyH_take (i := 4) (oi := { dst := some 11, op := Op.unOp UnOp.not 4 (Operand.tmp 10), type := 4, pos := _, after := _, guard := none }) (v := ?_) rfl (by kernel_rfl) (by kernel_rfl) (by kernel_rfl) (fun _ _ _ h => h) (Or.inl ⟨by kernel_rfl, ?_⟩) (by assumption) ?_
    case refine_2 => (intro w hSw; go_simp <;> with_reducible rfl)
    simp only [Act.put, List.setIfInBounds_toArray, List.set_cons_zero, List.set_cons_succ]
    refine wpAnyH_take (i := 5) (oi := { dst := some 12, op := Op.move (Operand.tmp 11), type := 4, pos := _, after := _, guard := none }) (v := ?_) rfl (by kernel_rfl) (by kernel_rfl) (by kernel_rfl) (fun _ _ _ h => h) (Or.inl ⟨by kernel_rfl, ?_⟩) (by assumption) ?_
    case refine_2 => (intro w hSw; go_simp <;> with_reducible rfl)
    simp only [Act.put, List.setIfInBounds_toArray, List.set_cons_zero, List.set_cons_succ]
    refine wpAnyH_take (i := 6) (oi := { dst := some 13, op := Op.move (Operand.tmp 2), type := 3, pos := _, after := _, guard := some (5, false) }) (v := ?_) rfl (by kernel_rfl) (by kernel_rfl) (by kernel_rfl) (fun _ _ _ h => h) (Or.inl ⟨by kernel_rfl, ?_⟩) (by assumption) ?_
    case refine_2 => (intro w hSw; go_simp <;> with_reducible rfl)
    simp only [Act.put, List.setIfInBounds_toArray, List.set_cons_zero, List.set_cons_succ]
    refine wpAnyH_take (i := 7) (oi := { dst := some 14, op := Op.binOp BinOp.lss 3 (Operand.tmp 13) (Operand.const (Value.int IntKind.i64 0)) 3, type := 4, pos := _, after := _, guard := some (5, false) }) (v := ?_) rfl (by kernel_rfl) (by kernel_rfl) (by kernel_rfl) (fun _ _ _ h => h) (Or.inl ⟨by kernel_rfl, ?_⟩) (by assumption) ?_
    case refine_2 => (intro w hSw; go_simp <;> with_reducible rfl)
    simp only [Act.put, List.setIfInBounds_toArray, List.set_cons_zero, List.set_cons_succ]
    refine wpAnyH_take (i := 8) (oi := { dst := some 15, op := Op.pick (Operand.tmp 12) (Operand.const (Value.bool true)) (Operand.tmp 14), type := 4, pos := _, after := _, guard := none }) (v := ?_) rfl (by kernel_rfl) (by kernel_rfl) (by kernel_rfl) (fun _ _ _ h => h) (Or.inl ⟨by kernel_rfl, ?_⟩) (by assumption) ?_
    case refine_2 => (intro w hSw; go_simp <;> with_reducible rfl)
    simp only [Act.put, List.setIfInBounds_toArray, List.set_cons_zero, List.set_cons_succ]
    refine wpAnyH_take (i := 9) (oi := { dst := some 16, op := Op.move (Operand.tmp 15), type := 4, pos := _, after := _, guard := none }) (v := ?_) rfl (by kernel_rfl) (by kernel_rfl) (by kernel_rfl) (fun _ _ _ h => h) (Or.inl ⟨by kernel_rfl, ?_⟩) (by assumption) ?_
    case refine_2 => (intro w hSw; go_simp <;> with_reducible rfl)
    simp only [Act.put, List.setIfInBounds_toArray, List.set_cons_zero, List.set_cons_succ]
    refine wpAnyH_take (i := 10) (oi := { dst := some 17, op := Op.move (Operand.tmp 2), type := 3, pos := _, after := _, guard := some (9, false) }) (v := ?_) rfl (by kernel_rfl) (by kernel_rfl) (by kernel_rfl) (fun _ _ _ h => h) (Or.inl ⟨by kernel_rfl, ?_⟩) (by assumption) ?_
    case refine_2 => (intro w hSw; go_simp <;> with_reducible rfl)
    simp only [Act.put, List.setIfInBounds_toArray, List.set_cons_zero, List.set_cons_succ]
    refine wpAnyH_take (i := 11) (oi := { dst := some 18, op := Op.binOp BinOp.gtr 3 (Operand.tmp 17) (Operand.const (Value.int IntKind.i64 255)) 3, type := 4, pos := _, after := _, guard := some (9, false) }) (v := ?_) rfl (by kernel_rfl) (by kernel_rfl) (by kernel_rfl) (fun _ _ _ h => h) (Or.inl ⟨by kernel_rfl, ?_⟩) (by assumption) ?_
    case refine_2 => (intro w hSw; go_simp <;> with_reducible rfl)
    simp only [Act.put, List.setIfInBounds_toArray, List.set_cons_zero, List.set_cons_succ]
    refine wpAnyH_take (i := 12) (oi := { dst := some 19, op := Op.pick (Operand.tmp 16) (Operand.const (Value.bool true)) (Operand.tmp 18), type := 4, pos := _, after := _, guard := none }) (v := ?_) rfl (by kernel_rfl) (by kernel_rfl) (by kernel_rfl) (fun _ _ _ h => h) (Or.inl ⟨by kernel_rfl, ?_⟩) (by assumption) ?_
    case refine_2 => (intro w hSw; go_simp <;> with_reducible rfl)
    simp only [Act.put, List.setIfInBounds_toArray, List.set_cons_zero, List.set_cons_succ]
    refine wpAnyH_done (by kernel_rfl) ?_ _
    refine NoPanic.normal ?_
    all_goals go_wp2
    all_goals go_ret
    all_goals exact ⟨rfl, bstep hB2 (lastS hHeld3)⟩

/-- the quad of a side lies at block g, all of it above N, what is below its root in the blocks of F -/
structure QuadF (W : World) (N g : Nat) (side : Int) (t : Sq) (F : Nat → Prop) : Prop where
  low : N ≤ g
  lt : g < W.heap.size
  side : W.cell? ⟨g, 0, none⟩ = some (.int .i64 side)
  sq : SqAt W t g 1 F
  out : ¬ F g
  bd : ∀ c, F c → N ≤ c ∧ c < W.heap.size
theorem QuadF.quad {W : World} {N g : Nat} {side : Int} {t : Sq} {F : Nat → Prop} (h : QuadF W N g side t F) : QuadAt W N g side t := ⟨h.low, h.lt, h.side, F, h.sq, h.out, h.bd⟩
theorem QuadAt.open {W : World} {N g : Nat} {side : Int} {t : Sq} (h : QuadAt W N g side t) : ∃ F, QuadF W N g side t F := by
  obtain ⟨F, h1, h2, h3⟩ := h.root
  exact ⟨F, h.low, h.lt, h.side, h1, h2, h3⟩
theorem QuadF.below {W W' : World} {N g : Nat} {side : Int} {t : Sq} {F : Nat → Prop} (h : QuadF W N g side t F) (k : Below W.heap.size W W') : QuadF W' N g side t F :=
  ⟨h.low, Nat.lt_of_lt_of_le h.lt k.size, ((bcell k).1 _ _ h.lt).trans h.side, h.sq.below k h.lt fun c hc => (h.bd c hc).2, h.out, fun c hc => ⟨(h.bd c hc).1, Nat.lt_of_lt_of_le (h.bd c hc).2 k.size⟩⟩
theorem QuadF.set {W W' : World} {N g : Nat} {side : Int} {t t' : Sq} {F F' : Nat → Prop} (hq : QuadF W N g side t F) (h : SqAt W' t' g 1 F') (k : Kept g 1 F W W') (hF : ∀ c, F' c → grow F W W' c) : QuadF W' N g side t' (grow F W W') := by
  have hs := k.size
  have h1 := hq.lt
  have h2 := hq.low
  refine ⟨h2, by omega, (k.cell 0 (by decide) (by decide)).trans hq.side, h.mono hF, ?_, ?_⟩
  · rintro (hc | hc)
    · exact hq.out hc
    · omega
  · rintro c (hc | hc)
    · have := hq.bd c hc
      omega
    · omega
theorem QuadF.keeps {W W' : World} {N g : Nat} {side : Int} {t : Sq} {F : Nat → Prop} (hq : QuadF W N g side t F) (k : Kept g 1 F W W') : Below N W W' := by
  have h1 := hq.lt
  have h2 := hq.low
  exact k.to_below h2 (fun c hc => (hq.bd c hc).1) (by omega)

set_option maxHeartbeats 1000000 in
theorem qset_yesF (N g : Nat) (k : Nat) (t : Sq) (F : Nat → Prop) (rx ry rw rh v : Int) (w : World) (hq0 : QuadF w N g (sd k) t F) (hfit : t.fits k) (h : okSet (sd k) rx ry rw rh v = true) :
    Calls Try.prog 28 #[.pointer (some ⟨g, 0, none⟩), .agg #[.int .i64 rx, .int .i64 ry, .int .i64 rw, .int .i64 rh], .int .i64 v] w fun e w' => e = .returned (.int .i64 0) ∧ QuadF w' N g (sd k) (setT k 0 0 rx ry rw rh v t) (grow F w w') ∧ Kept g 1 F w w' := by
  have hq := hq0.quad
  have hF1 := hq0.sq
  have hF2 := hq0.out
  have hF3 := hq0.bd
  simp only [okSet, Bool.and_eq_true, decide_eq_true_eq] at h
  obtain ⟨⟨hi, hv0⟩, hv1⟩ := h
  have hR : rightB rx ry rw rh = true := by
    simp only [inB, Bool.and_eq_true] at hi
    exact hi.1.1.1.1.1
  have hr : rightB 0 0 (sd k) (sd k) = true := by
    simp only [inB, Bool.and_eq_true] at hi
    exact hi.1.1.1.1.2
  have hset := set_all k rx ry rw rh v hR ⟨hv0, hv1⟩
  have hwv : IntKind.u8.wrap v = v := by
    exact wraps_u8 v hv0 (by omega)
  have hv3 : decide (v < 0) = false := by simp; omega
  have hv4 : decide (255 < v) = false := by simp; omega
  have hg := hq.lt
  have hside := hq.side
  go_enter Try.func28, Try.ntmps28
  go_wp2_with fail
  have hS0 : (w.alloc (.cells #[.int .i64 rx, .int .i64 ry, .int .i64 rw, .int .i64 rh] 24)).cell? ⟨w.heap.size, 0, none⟩ = some (.int .i64 rx) ∧ (w.alloc (.cells #[.int .i64 rx, .int .i64 ry, .int .i64 rw, .int .i64 rh] 24)).cell? ⟨w.heap.size, 1, none⟩ = some (.int .i64 ry) ∧ (w.alloc (.cells #[.int .i64 rx, .int .i64 ry, .int .i64 rw, .int .i64 rh] 24)).cell? ⟨w.heap.size, 2, none⟩ = some (.int .i64 rw) ∧ (w.alloc (.cells #[.int .i64 rx, .int .i64 ry, .int .i64 rw, .int .i64 rh] 24)).cell? ⟨w.heap.size, 3, none⟩ = some (.int .i64 rh) ∧ (w.alloc (.cells #[.int .i64 rx, .int .i64 ry, .int .i64 rw, .int .i64 rh] 24)).cell? ⟨g, 0, none⟩ = some (.int .i64 (sd k)) := by
    simp [go_sem, hg, hside]
  have hS := hS0
  have hB2 : Below w.heap.size w (w.alloc (.cells #[.int .i64 rx, .int .i64 ry, .int .i64 rw, .int .i64 rh] 24)) := balloc (Below.refl _ _) _
  have lA : w.heap.size < (w.alloc (.cells #[.int .i64 rx, .int .i64 ry, .int .i64 rw, .int .i64 rh] 24)).heap.size := by simp
  clear hS0
  generalize w.alloc (.cells #[.int .i64 rx, .int .i64 ry, .int .i64 rw, .int .i64 rh] 24) = W2 at hS hB2 lA ⊢
  have lg : g < W2.heap.size := by omega
  refine wp_region_noPanic ?_
  refine wp_region_held_drew (S := (fun w' => w'.cell? ⟨w.heap.size, 0, none⟩ = some (.int .i64 rx) ∧ w'.cell? ⟨w.heap.size, 1, none⟩ = some (.int .i64 ry) ∧ w'.cell? ⟨w.heap.size, 2, none⟩ = some (.int .i64 rw) ∧ w'.cell? ⟨w.heap.size, 3, none⟩ = some (.int .i64 rh) ∧ w'.cell? ⟨g, 0, none⟩ = some (.int .i64 (sd k)) ∧ W2.heap.size ≤ w'.heap.size ∧ Below W2.heap.size W2 w')) (by kernel_rfl) (keepS lA lg (Below.refl _ _).drew hS) (fun hHeld => ?_)
  refine wpAnyH_take (i := 0) (oi := { dst := some 7, op := Op.load 24 (Operand.tmp 4), type := 24, pos := _, after := _, guard := none }) (v := ?_) rfl (by kernel_rfl) (by kernel_rfl) (by kernel_rfl) (fun _ _ _ h => h) (Or.inl ⟨by kernel_rfl, ?_⟩) (by assumption) ?_
  case refine_2 => (intro w hSw; go_simp <;> with_reducible rfl)
  simp only [Act.put, List.setIfInBounds_toArray, List.set_cons_zero, List.set_cons_succ]
  refine wpAnyH_take (i := 1) (oi := { dst := some 8, op := Op.move (Operand.tmp 0), type := 29, pos := _, after := _, guard := none }) (v := ?_) rfl (by kernel_rfl) (by kernel_rfl) (by kernel_rfl) (fun _ _ _ h => h) (Or.inl ⟨by kernel_rfl, ?_⟩) (by assumption) ?_
  case refine_2 => (intro w hSw; go_simp <;> with_reducible rfl)
  simp only [Act.put, List.setIfInBounds_toArray, List.set_cons_zero, List.set_cons_succ]
  refine wpAnyH_ready (rs := [2]) (by kernel_rfl) (by simp) ?_
  refine AllReadyH.cons (o := { dst := some 9, op := Op.call { callee := Callee.value (Operand.func 36), args := #[Operand.tmp 8], argTypes := #[29] }, type := 24, pos := _, after := _, guard := none }) rfl (fun K hK => ?_) AllReadyH.nil
  go_simp
  go_at_call 36
  refine (all_get g (sd k) _ (ltS lg hHeld) (sideS hHeld)).mono ?_
  rintro e wq ⟨rfl, hbq⟩
  have hHeld2 := keepS lA lg (moreS hbq hHeld) hS
  refine hK.out _ _ hHeld2 (fun _ => ?_)
  clear hK K
  try simp only [Act.put, List.setIfInBounds_toArray, List.set_cons_zero, List.set_cons_succ]
  refine wpAnyH_ready (rs := [3]) (by kernel_rfl) (by simp) ?_
  refine AllReadyH.cons (o := { dst := some 10, op := Op.call { callee := Callee.value (Operand.func 41), args := #[Operand.tmp 7, Operand.tmp 9], argTypes := #[24, 24] }, type := 4, pos := _, after := _, guard := none }) rfl (fun K hK => ?_) AllReadyH.nil
  go_simp
  go_at_call 41
  refine (in_any _ _ _ _ _ _ _ _ _).mono ?_
  rintro e wi ⟨rfl, hbi⟩
  rw [hi]
  have hHeld3 := keepS lA lg (moreS hbi hHeld2) hS
  refine hK.out _ _ hHeld3 (fun _ => ?_)
  clear hK K
  try simp only [Act.put, List.setIfInBounds_toArray, List.set_cons_zero, List.set_cons_succ]
  refine wpAnyH_take (i := 4) (oi := { dst := some 11, op := Op.unOp UnOp.not 4 (Operand.tmp 10), type := 4, pos := _, after := _, guard := none }) (v := ?_) rfl (by kernel_rfl) (by kernel_rfl) (by kernel_rfl) (fun _ _ _ h => h) (Or.inl ⟨by kernel_rfl, ?_⟩) (by assumption) ?_
  case refine_2 => (intro w hSw; go_simp <;> with_reducible rfl)
  simp only [Act.put, List.setIfInBounds_toArray, List.set_cons_zero, List.set_cons_succ]
  refine wpAnyH_take (i := 5) (oi := { dst := some 12, op := Op.move (Operand.tmp 11), type := 4, pos := _, after := _, guard := none }) (v := ?_) rfl (by kernel_rfl) (by kernel_rfl) (by kernel_rfl) (fun _ _ _ h => h) (Or.inl ⟨by kernel_rfl, ?_⟩) (by assumption) ?_
  case refine_2 => (intro w hSw; go_simp <;> with_reducible rfl)
  simp only [Act.put, List.setIfInBounds_toArray, List.set_cons_zero, List.set_cons_succ]
  refine wpAnyH_take (i := 6) (oi := { dst := some 13, op := Op.move (Operand.tmp 2), type := 3, pos := _, after := _, guard := some (5, false) }) (v := ?_) rfl (by kernel_rfl) (by kernel_rfl) (by kernel_rfl) (fun _ _ _ h => h) (Or.inl ⟨by kernel_rfl, ?_⟩) (by assumption) ?_
  case refine_2 => (intro w hSw; go_simp <;> with_reducible rfl)
  simp only [Act.put, List.setIfInBounds_toArray, List.set_cons_zero, List.set_cons_succ]
  refine wpAnyH_take (i := 7) (oi := { dst := some 14, op := Op.binOp BinOp.lss 3 (Operand.tmp 13) (Operand.const (Value.int IntKind.i64 0)) 3, type := 4, pos := _, after := _, guard := some (5, false) }) (v := ?_) rfl (by kernel_rfl) (by kernel_rfl) (by kernel_rfl) (fun _ _ _ h => h) (Or.inl ⟨by kernel_rfl, ?_⟩) (by assumption) ?_
  case refine_2 => (intro w hSw; go_simp <;> with_reducible rfl)
  simp only [Act.put, List.setIfInBounds_toArray, List.set_cons_zero, List.set_cons_succ]
  refine wpAnyH_take (i := 8) (oi := { dst := some 15, op := Op.pick (Operand.tmp 12) (Operand.const (Value.bool true)) (Operand.tmp 14), type := 4, pos := _, after := _, guard := none }) (v := ?_) rfl (by kernel_rfl) (by kernel_rfl) (by kernel_rfl) (fun _ _ _ h => h) (Or.inl ⟨by kernel_rfl, ?_⟩) (by assumption) ?_
  case refine_2 => (intro w hSw; go_simp <;> with_reducible rfl)
  simp only [Act.put, List.setIfInBounds_toArray, List.set_cons_zero, List.set_cons_succ]
  refine wpAnyH_take (i := 9) (oi := { dst := some 16, op := Op.move (Operand.tmp 15), type := 4, pos := _, after := _, guard := none }) (v := ?_) rfl (by kernel_rfl) (by kernel_rfl) (by kernel_rfl) (fun _ _ _ h => h) (Or.inl ⟨by kernel_rfl, ?_⟩) (by assumption) ?_
  case refine_2 => (intro w hSw; go_simp <;> with_reducible rfl)
  simp only [Act.put, List.setIfInBounds_toArray, List.set_cons_zero, List.set_cons_succ]
  refine wpAnyH_take (i := 10) (oi := { dst := some 17, op := Op.move (Operand.tmp 2), type := 3, pos := _, after := _, guard := some (9, false) }) (v := ?_) rfl (by kernel_rfl) (by kernel_rfl) (by kernel_rfl) (fun _ _ _ h => h) (Or.inl ⟨by kernel_rfl, ?_⟩) (by assumption) ?_
  case refine_2 => (intro w hSw; go_simp <;> with_reducible rfl)
  simp only [Act.put, List.setIfInBounds_toArray, List.set_cons_zero, List.set_cons_succ]
  refine wpAnyH_take (i := 11) (oi := { dst := some 18, op := Op.binOp BinOp.gtr 3 (Operand.tmp 17) (Operand.const (Value.int IntKind.i64 255)) 3, type := 4, pos := _, after := _, guard := some (9, false) }) (v := ?_) rfl (by kernel_rfl) (by kernel_rfl) (by kernel_rfl) (fun _ _ _ h => h) (Or.inl ⟨by kernel_rfl, ?_⟩) (by assumption) ?_
  case refine_2 => (intro w hSw; go_simp <;> with_reducible rfl)
  simp only [Act.put, List.setIfInBounds_toArray, List.set_cons_zero, List.set_cons_succ]
  refine wpAnyH_take (i := 12) (oi := { dst := some 19, op := Op.pick (Operand.tmp 16) (Operand.const (Value.bool true)) (Operand.tmp 18), type := 4, pos := _, after := _, guard := none }) (v := ?_) rfl (by kernel_rfl) (by kernel_rfl) (by kernel_rfl) (fun _ _ _ h => h) (Or.inl ⟨by kernel_rfl, ?_⟩) (by assumption) ?_
  case refine_2 => (intro w hSw; go_simp <;> with_reducible rfl)
  simp only [Act.put, List.setIfInBounds_toArray, List.set_cons_zero, List.set_cons_succ]
  refine wpAnyH_done (by kernel_rfl) ?_ _
  refine NoPanic.normal ?_
  go_wp2_with fail
  have hB3 := lastS hHeld3
  have hs3 := hB3.size
  have hd3 := keepS lA lg hB3.drew hS
  clear hHeld hHeld2 hbq hbi
  refine wp_region_noPanic ?_
  refine wp_region_held_drew (S := fun w' => w'.cell? ⟨w.heap.size, 0, none⟩ = some (.int .i64 rx) ∧ w'.cell? ⟨w.heap.size, 1, none⟩ = some (.int .i64 ry) ∧ w'.cell? ⟨w.heap.size, 2, none⟩ = some (.int .i64 rw) ∧ w'.cell? ⟨w.heap.size, 3, none⟩ = some (.int .i64 rh)) (by kernel_rfl) ⟨hd3.1, hd3.2.1, hd3.2.2.1, hd3.2.2.2.1⟩ (fun hHeld => ?_)
  refine wpAnyH_take (i := 0) (oi := { dst := some 20, op := Op.move (Operand.tmp 0), type := 29, pos := _, after := _, guard := none }) (v := ?_) rfl (by kernel_rfl) (by kernel_rfl) (by kernel_rfl) (fun _ _ _ h => h) (Or.inl ⟨by kernel_rfl, ?_⟩) (by assumption) ?_
  case refine_2 => (intro w hSw; go_simp <;> with_reducible rfl)
  simp only [Act.put, List.setIfInBounds_toArray, List.set_cons_zero, List.set_cons_succ]
  refine wpAnyH_take (i := 1) (oi := { dst := some 21, op := Op.nilCheck (Operand.tmp 20), type := 0, pos := _, after := _, guard := none }) (v := ?_) rfl (by kernel_rfl) (by kernel_rfl) (by kernel_rfl) (fun _ _ _ h => h) (Or.inl ⟨by kernel_rfl, ?_⟩) (by assumption) ?_
  case refine_2 => (intro w hSw; go_simp <;> with_reducible rfl)
  simp only [Act.put, List.setIfInBounds_toArray, List.set_cons_zero, List.set_cons_succ]
  refine wpAnyH_take (i := 2) (oi := { dst := some 22, op := Op.fieldAddr 74 (Operand.tmp 21) 1, type := 0, pos := _, after := _, guard := none }) (v := ?_) rfl (by kernel_rfl) (by kernel_rfl) (by kernel_rfl) (fun _ _ _ h => h) (Or.inl ⟨by kernel_rfl, ?_⟩) (by assumption) ?_
  case refine_2 => (intro w hSw; go_simp <;> with_reducible rfl)
  simp only [Act.put, List.setIfInBounds_toArray, List.set_cons_zero, List.set_cons_succ]
  refine wpAnyH_take (i := 3) (oi := { dst := some 23, op := Op.move (Operand.tmp 0), type := 29, pos := _, after := _, guard := none }) (v := ?_) rfl (by kernel_rfl) (by kernel_rfl) (by kernel_rfl) (fun _ _ _ h => h) (Or.inl ⟨by kernel_rfl, ?_⟩) (by assumption) ?_
  case refine_2 => (intro w hSw; go_simp <;> with_reducible rfl)
  simp only [Act.put, List.setIfInBounds_toArray, List.set_cons_zero, List.set_cons_succ]
  refine wpAnyH_take (i := 5) (oi := { dst := some 25, op := Op.load 24 (Operand.tmp 4), type := 24, pos := _, after := _, guard := none }) (v := ?_) rfl (by kernel_rfl) (by kernel_rfl) (by kernel_rfl) (fun _ _ _ h => h) (Or.inl ⟨by kernel_rfl, ?_⟩) (by assumption) ?_
  case refine_2 => (intro w hSw; go_simp <;> with_reducible rfl)
  simp only [Act.put, List.setIfInBounds_toArray, List.set_cons_zero, List.set_cons_succ]
  refine wpAnyH_take (i := 6) (oi := { dst := some 26, op := Op.move (Operand.tmp 2), type := 3, pos := _, after := _, guard := none }) (v := ?_) rfl (by kernel_rfl) (by kernel_rfl) (by kernel_rfl) (fun _ _ _ h => h) (Or.inl ⟨by kernel_rfl, ?_⟩) (by assumption) ?_
  case refine_2 => (intro w hSw; go_simp <;> with_reducible rfl)
  simp only [Act.put, List.setIfInBounds_toArray, List.set_cons_zero, List.set_cons_succ]
  refine wpAnyH_take (i := 7) (oi := { dst := some 27, op := Op.convert 3 5 (Operand.tmp 26), type := 5, pos := _, after := _, guard := none }) (v := ?_) rfl (by kernel_rfl) (by kernel_rfl) (by kernel_rfl) (fun _ _ _ h => h) (Or.inl ⟨by kernel_rfl, ?_⟩) (by assumption) ?_
  case refine_2 => (intro w hSw; go_simp <;> with_reducible rfl)
  simp only [Act.put, List.setIfInBounds_toArray, List.set_cons_zero, List.set_cons_succ]
  refine wpAnyH_ready (rs := [4]) (by kernel_rfl) (by simp) ?_
  refine AllReadyH.cons (o := { dst := some 24, op := Op.call { callee := Callee.value (Operand.func 36), args := #[Operand.tmp 23], argTypes := #[29] }, type := 24, pos := _, after := _, guard := none }) rfl (fun K hK => ?_) AllReadyH.nil
  go_simp
  go_at_call 36
  refine (all_get g (sd k) _ (ltS lg hd3) (sideS hd3)).mono ?_
  rintro e wq4 ⟨rfl, hbq4⟩
  have hd4 := keepS lA lg (moreS hbq4 hd3) hS
  refine hK.out _ _ ⟨hd4.1, hd4.2.1, hd4.2.2.1, hd4.2.2.2.1⟩ (fun hHeld4 => ?_)
  clear hK K
  try simp only [Act.put, List.setIfInBounds_toArray, List.set_cons_zero, List.set_cons_succ]
  refine wpAnyH_ready (rs := [8]) (by kernel_rfl) (by simp) ?_
  refine AllReadyH.cons (o := { dst := some 28, op := Op.call { callee := Callee.value (Operand.func 42), args := #[Operand.tmp 22, Operand.tmp 24, Operand.tmp 25, Operand.tmp 27], argTypes := #[72, 24, 24, 5] }, type := 0, pos := _, after := _, guard := none }) rfl (fun K hK => ?_) AllReadyH.nil
  go_simp
  go_at_call 42
  have hBw : Below w.heap.size w wq4 := bstep hB2 (lastS hd4)
  have hsw := hBw.size
  refine (hset t 0 0 g 1 F wq4 (hF1.below hBw hg (fun c hc => (hF3 c hc).2)) (ltS lg hd4) hF2 (fun c hc => Nat.lt_of_lt_of_le (hF3 c hc).2 hsw) hfit hr).mono ?_
  rintro e w5 ⟨⟨rv, rfl⟩, hsq, hkp⟩
  have hlow := hq.low
  have hbox := hkp.block w.heap.size (by have := (lastS hd4).size; omega) (fun hf => absurd (hF3 _ hf).2 (Nat.lt_irrefl _)) (by omega)
  refine hK.out _ _ ⟨(cell_of_block hbox 0).trans hd4.1, (cell_of_block hbox 1).trans hd4.2.1, (cell_of_block hbox 2).trans hd4.2.2.1, (cell_of_block hbox 3).trans hd4.2.2.2.1⟩ (fun _ => ?_)
  have hfin : Kept g 1 F w w5 := (Kept.of_below hBw hg).trans hkp
  have hqa := hq0.set hsq hfin (fun c hc => hc.imp id fun h => ⟨by omega, h.2⟩)
  clear hK K
  try simp only [Act.put, List.setIfInBounds_toArray, List.set_cons_zero, List.set_cons_succ]
  refine wpAnyH_done (by kernel_rfl) ?_ _
  refine NoPanic.normal ?_
  go_wp2
  go_ret
  exact ⟨rfl, hqa, hfin⟩

theorem qset_yes (N g : Nat) (k : Nat) (t : Sq) (rx ry rw rh v : Int) (w : World) (hq : QuadAt w N g (sd k) t) (hfit : t.fits k) (_ : k ≤ 8) (h : okSet (sd k) rx ry rw rh v = true) :
    Calls Try.prog 28 #[.pointer (some ⟨g, 0, none⟩), .agg #[.int .i64 rx, .int .i64 ry, .int .i64 rw, .int .i64 rh], .int .i64 v] w fun e w' => e = .returned (.int .i64 0) ∧ QuadAt w' N g (sd k) (setT k 0 0 rx ry rw rh v t) ∧ Below N w w' := by
  obtain ⟨F, hF⟩ := hq.open
  exact (qset_yesF N g k t F rx ry rw rh v w hF hfit h).mono fun e w' ⟨h1, h2, h3⟩ => ⟨h1, h2.quad, hF.keeps h3⟩
end Go.Proofs.Ytdpdkjpkehgdnaa
