/-
  Layer 9's statements: same: a page has just the records of a list: true, for every page and its list.
-/
import Derived.Test.YtgkohbjbfjnllaaSlR
namespace Go.Proofs.Ytgkohbjbfjnllaa
open Go.RowKit

attribute [local go_sem ↓] Go.wp_at_zero Go.wp_at_succ

theorem cntV_succ (recs : List (List UInt8)) (k : Nat) (hk : k < recs.length) : cntV (recs.take (k + 1)) = cntV (recs.take k) + (if recs[k].isEmpty then 0 else 1) := by
  unfold cntV
  rw [List.take_add_one, List.getElem?_eq_getElem hk, List.countP_append]
  cases h : recs[k].isEmpty <;> simp [h]
theorem hasV_at (recs : List (List UInt8)) (k : Nat) (hk : k < recs.length) : hasV recs (k : Int) = !recs[k].isEmpty := by
  simp [hasV, List.getElem?_eq_getElem hk]
theorem hasV_end (recs : List (List UInt8)) : hasV recs (recs.length : Int) = false := by simp [hasV]
theorem hasV_neg (recs : List (List UInt8)) : hasV recs (-1) = false := by simp [hasV]
theorem cv_own {w : World} {b : Nat} {v : Value} {l : List UInt8} (h : w.ownsRow b 5 1 v l.length (l.map fun b => Value.int .u8 (b.toNat : Int))) : (convert 29 9 v).run Try.prog w = .ok (.string (baOf l)) w := run_string (RecAt.of_own h).1

theorem rec_bytes {w : World} {b size : Nat} {v : Value} {recs : List (List UInt8)} (hb : tot recs ≤ size) (h : w.ownsRow b 5 1 v size (cellsB (bytesV size recs))) : RecAt w v (bytesV size recs) := (RecAt.of_own (by rw [bytesV_length size recs hb]; exact h)).1
theorem run_bytes {w : World} {v : Value} {l : List UInt8} (h : RecAt w v l) : (convert 29 9 v).run Try.prog w = .ok (.string (baOf l)) w := run_string h
theorem cv_bytes {w : World} {b size : Nat} {v : Value} {recs : List (List UInt8)} (hb : tot recs ≤ size) (h : w.ownsRow b 5 1 v size (cellsB (bytesV size recs))) : (convert 29 9 v).run Try.prog w = .ok (.string (baOf (bytesV size recs))) w := run_bytes (rec_bytes hb h)

section
variable {P : Program} {md : Region.Mode} {ops : Array Oper} {Q : Exit → Act → World → Prop} {S S' : World → Prop}
/-- what holds in each world may be taken narrower on the way -/
theorem wpAnyH_mono (hSS : ∀ w, S' w → S w) : ∀ (fuel : Nat) (listed : Array Bool) (a : Act) (w : World), wpAnyH P md ops Q S' fuel listed a w → wpAnyH P md ops Q S fuel listed a w
  | 0, _, _, _, h => h
  | fuel + 1, _, _, _, h => ⟨h.1, fun i hi => wpOp_mono (fun a' w' h' => ⟨hSS _ h'.1, wpAnyH_mono hSS fuel _ a' w' h'.2⟩) (h.2 i hi)⟩
end

theorem more1 {W wX w1 : World} (k : Below wX.heap.size wX w1) (h : Below W.heap.size W wX) : Below W.heap.size W w1 := bstep h k
theorem len_cnt {B : Nat} (bp : Nat) (size : Int) (sv : Value) (recs : List (List UInt8)) (w : World) (hp : PageAt w B bp size sv recs) (hb : tot recs ≤ 1048576) :
    Calls Try.prog 13 #[.pointer (some ⟨bp, 0, none⟩)] w fun e w' => e = .returned (.int .i64 (cntV recs : Int)) ∧ Below w.heap.size w w' := by
  have := len_any bp size sv recs w hp hb
  rwa [idxs_cnt] at this

/-- Bytes and the reference's bytes under one name -/
theorem bytes_as {B bp size : Nat} {sv : Value} {recs : List (List UInt8)} {w : World} {X : List UInt8} (hX : Hid (X = bytesV size recs)) (hp : PageAt w B bp (size : Int) sv recs) (hb : tot recs ≤ size) (hs : size ≤ 65535) (h63 : recs.length ≤ 255) :
    Calls Try.prog 23 #[.pointer (some ⟨bp, 0, none⟩)] w fun e w' => ∃ v, e = .returned v ∧ RecAt w' v X ∧ Below w.heap.size w w' := by
  rw [hX.out]
  exact (bytes_any bp size sv recs w hp hb hs h63).mono fun e w' ⟨v, he, ho, hbl⟩ => ⟨v, he, rec_bytes hb ho, hbl⟩
theorem refBytes_as {B size : Nat} {v : Value} {recs : List (List UInt8)} {w : World} {X : List UInt8} (hX : Hid (X = bytesV size recs)) (hx : StrsAt w B v recs) (hb : tot recs ≤ size) (hs : size ≤ 65535) (h63 : recs.length ≤ 255) :
    Calls Try.prog 34 #[v, .int .i64 (size : Int)] w fun e w' => e = .returned (.string (baOf X)) ∧ Below w.heap.size w w' := by
  rw [hX.out]
  exact refBytes_any size v recs w hx hb hs h63

set_option maxHeartbeats 1000000 in
theorem same_any {B B' : Nat} (bp size : Nat) (sv : Value) (recs : List (List UInt8)) (v : Value) (w : World) (hp : PageAt w B bp (size : Int) sv recs) (hx : StrsAt w B' v recs) (hb : tot recs ≤ size) (hs : size ≤ 65535) (h63 : recs.length ≤ 255) :
    Calls Try.prog 17 #[.pointer (some ⟨bp, 0, none⟩), v, .int .i64 (size : Int)] w fun e w' => e = .returned (.bool true) ∧ Below w.heap.size w w' := by
  obtain ⟨A, c, hv⟩ := hx.form
  subst hv
  have HX := hid hx
  have HP := hid hp
  have hbt := baOf_toList
  have hbig : tot recs ≤ 1048576 := by omega
  clear hx hp
  go_enter Try.func17, Try.ntmps17
  go_wp2
  go_loopw [7, 18] (fun s7 s18 wr => ∃ k : Nat, k ≤ recs.length ∧ s18 = .int .i64 k ∧ s7 = .int .i64 (cntV (recs.take k) : Int) ∧ Below w.heap.size w wr) (fun _ s18 _ => recs.length - (intOf s18).toNat)
  case atStart => exact ⟨0, Nat.zero_le _, rfl, rfl, Below.refl _ _⟩
  case round =>
    obtain ⟨k, hk, rfl, rfl, hbw⟩ := hrel
    have HB := hid hbw
    clear hbw
    have hcl : cntV (recs.take k) ≤ recs.length := Nat.le_trans (cntV_le _) (by rw [List.length_take]; omega)
    by_cases hlt : k < recs.length
    · obtain ⟨g, c', hv⟩ := HX.out.row (by omega)
      injection hv with hA _ hc
      subst hA hc
      have hcell := (HX.out.below HB.out).cell k hlt
      have HS := hid (cntV_succ recs k hlt)
      have hh := hasV_at recs k hlt
      have hll : recs[k].length ≤ 1048576 := by
        have h1 := sumL_take_succ recs k recs[k] (List.getElem?_eq_getElem hlt)
        have h2 := sumL_take_le recs (k + 1)
        unfold tot at hb
        omega
      have hgn := get_none bp size sv recs k wr (HP.out.kept HB.out)
      have hgs := fun hh => get_some bp size sv recs k wr (HP.out.kept HB.out) hh hlt hll
      generalize hr : recs[k] = r at hcell HS hh hgs
      cases r with
      | nil =>
        have hg := hgn (by rw [hh]; rfl)
        clear hgn hgs hr hh
        go_wp2_with fail
        refine hg.mono ?_
        rintro e w2 ⟨rfl, rfl⟩
        clear hg
        go_wp2
        go_roundw
        case rel => exact ⟨k + 1, by omega, by go_num, by rw [HS.out]; rfl, HB.out⟩
        case measure => simp [intOf]; omega
      | cons b t =>
        have hg := hgs (by rw [hh]; rfl)
        clear hgn hgs hr hh
        go_wp2_with fail
        refine hg.mono ?_
        rintro e w2 ⟨v2, rfl, ho, hb2⟩
        have hcv := cv_own ho
        have HB2 := hid (HB.out.trans (hb2.mono HB.out.size))
        clear hg ho hb2
        go_wp2
        go_roundw
        case rel => exact ⟨k + 1, by omega, by go_num, by rw [HS.out]; go_num, HB2.out⟩
        case measure => simp [intOf]; omega
    · obtain rfl : k = recs.length := by omega
      rw [List.take_length] at hcl ⊢
      have hg1 := get_none bp size sv recs _ wr (HP.out.kept HB.out) (hasV_end recs)
      have hg2 := get_none bp size sv recs _ wr (HP.out.kept HB.out) (hasV_neg recs)
      go_wp2_with fail
      refine hg1.mono ?_
      rintro e w2 ⟨rfl, rfl⟩
      clear hg1
      go_wp2_with fail
      refine hg2.mono ?_
      rintro e w2 ⟨rfl, rfl⟩
      clear hg2
      go_upto_region 15 with fail
      have HPr := hid (HP.out.kept HB.out)
      have HXr := hid (HX.out.below HB.out)
      obtain ⟨X, hX0⟩ : ∃ X, X = bytesV size recs := ⟨_, rfl⟩
      have HX0 := hid hX0
      clear hX0
      refine wp_region_noPanic ?_
      refine wp_region_held_drew (S := fun w' => Below wr.heap.size wr w') (by kernel_rfl) (Below.drew (Below.refl _ _)) (fun hHeld => ?_)
      have HPd := hid (HPr.out.kept hHeld)
      have HXd := hid (HXr.out.below hHeld)
      refine wpAnyH_take (i := 0) (oi := { dst := some 56, op := Op.move (Operand.tmp 0), type := 24, pos := _, after := _, guard := none }) (v := ?_) rfl (by kernel_rfl) (by kernel_rfl) (by kernel_rfl) (fun _ _ _ h => h) (Or.inl ⟨by rfl, ?_⟩) (by assumption) ?_
      case refine_2 => (intro w hSw; go_simp <;> with_reducible rfl)
      simp only [Act.put, List.setIfInBounds_toArray, List.set_cons_zero, List.set_cons_succ]
      refine wpAnyH_take (i := 2) (oi := { dst := some 58, op := Op.move (Operand.tmp 1), type := 35, pos := _, after := _, guard := none }) (v := ?_) rfl (by kernel_rfl) (by kernel_rfl) (by kernel_rfl) (fun _ _ _ h => h) (Or.inl ⟨by rfl, ?_⟩) (by assumption) ?_
      case refine_2 => (intro w hSw; go_simp <;> with_reducible rfl)
      simp only [Act.put, List.setIfInBounds_toArray, List.set_cons_zero, List.set_cons_succ]
      refine wpAnyH_take (i := 3) (oi := { dst := some 59, op := Op.call { callee := Callee.builtin Builtin.len, args := #[Operand.tmp 58], argTypes := #[35] }, type := 3, pos := _, after := _, guard := none }) (v := ?_) rfl (by kernel_rfl) (by kernel_rfl) (by kernel_rfl) (fun _ _ _ h => h) (Or.inl ⟨by rfl, ?_⟩) (by assumption) ?_
      case refine_2 => (intro w hSw; go_simp <;> with_reducible rfl)
      simp only [Act.put, List.setIfInBounds_toArray, List.set_cons_zero, List.set_cons_succ]
      refine wpAnyH_ready (rs := [1]) (by kernel_rfl) (by simp) ?_
      refine AllReadyH.cons (o := { dst := some 57, op := Op.call { callee := Callee.value (Operand.func 22), args := #[Operand.tmp 56], argTypes := #[24] }, type := 3, pos := _, after := _, guard := none }) rfl (fun K hK => ?_) AllReadyH.nil
      go_simp
      go_at_call 22
      refine (slots_any bp size _ recs _ HPd.out).mono ?_
      rintro e wq ⟨rfl, rfl⟩
      refine hK.out _ _ hHeld (fun _ => ?_)
      clear hK K
      try simp only [Act.put, List.setIfInBounds_toArray, List.set_cons_zero, List.set_cons_succ]
      refine wpAnyH_take (i := 4) (oi := { dst := some 60, op := Op.binOp BinOp.eql 3 (Operand.tmp 57) (Operand.tmp 59) 3, type := 4, pos := _, after := _, guard := none }) (v := ?_) rfl (by kernel_rfl) (by kernel_rfl) (by kernel_rfl) (fun _ _ _ h => h) (Or.inl ⟨by rfl, ?_⟩) (by assumption) ?_
      case refine_2 => (intro w hSw; go_simp <;> with_reducible rfl)
      simp only [Act.put, List.setIfInBounds_toArray, List.set_cons_zero, List.set_cons_succ]
      refine wpAnyH_take (i := 5) (oi := { dst := some 61, op := Op.move (Operand.tmp 60), type := 4, pos := _, after := _, guard := none }) (v := ?_) rfl (by kernel_rfl) (by kernel_rfl) (by kernel_rfl) (fun _ _ _ h => h) (Or.inl ⟨by rfl, ?_⟩) (by assumption) ?_
      case refine_2 => (intro w hSw; go_simp <;> with_reducible rfl)
      simp only [Act.put, List.setIfInBounds_toArray, List.set_cons_zero, List.set_cons_succ]
      refine wpAnyH_take (i := 6) (oi := { dst := some 62, op := Op.move (Operand.tmp 0), type := 24, pos := _, after := _, guard := some (5, true) }) (v := ?_) rfl (by kernel_rfl) (by kernel_rfl) (by kernel_rfl) (fun _ _ _ h => h) (Or.inl ⟨by rfl, ?_⟩) (by assumption) ?_
      case refine_2 => (intro w hSw; go_simp <;> with_reducible rfl)
      simp only [Act.put, List.setIfInBounds_toArray, List.set_cons_zero, List.set_cons_succ]
      refine wpAnyH_take (i := 8) (oi := { dst := some 64, op := Op.move (Operand.tmp 7), type := 3, pos := _, after := _, guard := some (5, true) }) (v := ?_) rfl (by kernel_rfl) (by kernel_rfl) (by kernel_rfl) (fun _ _ _ h => h) (Or.inl ⟨by rfl, ?_⟩) (by assumption) ?_
      case refine_2 => (intro w hSw; go_simp <;> with_reducible rfl)
      simp only [Act.put, List.setIfInBounds_toArray, List.set_cons_zero, List.set_cons_succ]
      refine wpAnyH_ready (rs := [7]) (by kernel_rfl) (by simp) ?_
      refine AllReadyH.cons (o := { dst := some 63, op := Op.call { callee := Callee.value (Operand.func 13), args := #[Operand.tmp 62], argTypes := #[24] }, type := 3, pos := _, after := _, guard := some (5, true) }) rfl (fun K hK => ?_) AllReadyH.nil
      go_simp
      go_at_call 13
      refine (len_cnt bp size _ recs _ HPd.out hbig).mono ?_
      rintro e w2 ⟨rfl, hbq⟩
      have HP2 := hid (HPd.out.kept hbq)
      have HX2 := hid (HXd.out.below hbq)
      have hb2 := more1 hbq hHeld
      refine hK.out _ _ hb2 (fun _ => ?_)
      clear hK K hHeld hbq
      try simp only [Act.put, List.setIfInBounds_toArray, List.set_cons_zero, List.set_cons_succ]
      refine wpAnyH_take (i := 9) (oi := { dst := some 65, op := Op.binOp BinOp.eql 3 (Operand.tmp 63) (Operand.tmp 64) 3, type := 4, pos := _, after := _, guard := some (5, true) }) (v := ?_) rfl (by kernel_rfl) (by kernel_rfl) (by kernel_rfl) (fun _ _ _ h => h) (Or.inl ⟨by rfl, ?_⟩) (by assumption) ?_
      case refine_2 => (intro w hSw; go_simp <;> with_reducible rfl)
      simp only [Act.put, List.setIfInBounds_toArray, List.set_cons_zero, List.set_cons_succ]
      refine wpAnyH_take (i := 10) (oi := { dst := some 66, op := Op.pick (Operand.tmp 61) (Operand.tmp 65) (Operand.const (Value.bool false)), type := 4, pos := _, after := _, guard := none }) (v := ?_) rfl (by kernel_rfl) (by kernel_rfl) (by kernel_rfl) (fun _ _ _ h => h) (Or.inl ⟨by rfl, ?_⟩) (by assumption) ?_
      case refine_2 => (intro w hSw; go_simp <;> with_reducible rfl)
      simp only [Act.put, List.setIfInBounds_toArray, List.set_cons_zero, List.set_cons_succ]
      refine wpAnyH_take (i := 11) (oi := { dst := some 67, op := Op.move (Operand.tmp 66), type := 4, pos := _, after := _, guard := none }) (v := ?_) rfl (by kernel_rfl) (by kernel_rfl) (by kernel_rfl) (fun _ _ _ h => h) (Or.inl ⟨by rfl, ?_⟩) (by assumption) ?_
      case refine_2 => (intro w hSw; go_simp <;> with_reducible rfl)
      simp only [Act.put, List.setIfInBounds_toArray, List.set_cons_zero, List.set_cons_succ]
      refine wpAnyH_take (i := 12) (oi := { dst := some 68, op := Op.move (Operand.tmp 0), type := 24, pos := _, after := _, guard := some (11, true) }) (v := ?_) rfl (by kernel_rfl) (by kernel_rfl) (by kernel_rfl) (fun _ _ _ h => h) (Or.inl ⟨by rfl, ?_⟩) (by assumption) ?_
      case refine_2 => (intro w hSw; go_simp <;> with_reducible rfl)
      simp only [Act.put, List.setIfInBounds_toArray, List.set_cons_zero, List.set_cons_succ]
      refine wpAnyH_take (i := 14) (oi := { dst := some 70, op := Op.move (Operand.tmp 2), type := 3, pos := _, after := _, guard := some (11, true) }) (v := ?_) rfl (by kernel_rfl) (by kernel_rfl) (by kernel_rfl) (fun _ _ _ h => h) (Or.inl ⟨by rfl, ?_⟩) (by assumption) ?_
      case refine_2 => (intro w hSw; go_simp <;> with_reducible rfl)
      simp only [Act.put, List.setIfInBounds_toArray, List.set_cons_zero, List.set_cons_succ]
      refine wpAnyH_ready (rs := [13]) (by kernel_rfl) (by simp) ?_
      refine AllReadyH.cons (o := { dst := some 69, op := Op.call { callee := Callee.value (Operand.func 21), args := #[Operand.tmp 68], argTypes := #[24] }, type := 3, pos := _, after := _, guard := some (11, true) }) rfl (fun K hK => ?_) AllReadyH.nil
      go_simp
      go_at_call 21
      refine (size_any bp size _ recs _ HP2.out).mono ?_
      rintro e wq ⟨rfl, rfl⟩
      refine hK.out _ _ hb2 (fun _ => ?_)
      clear hK K
      try simp only [Act.put, List.setIfInBounds_toArray, List.set_cons_zero, List.set_cons_succ]
      refine wpAnyH_take (i := 15) (oi := { dst := some 71, op := Op.binOp BinOp.eql 3 (Operand.tmp 69) (Operand.tmp 70) 3, type := 4, pos := _, after := _, guard := some (11, true) }) (v := ?_) rfl (by kernel_rfl) (by kernel_rfl) (by kernel_rfl) (fun _ _ _ h => h) (Or.inl ⟨by rfl, ?_⟩) (by assumption) ?_
      case refine_2 => (intro w hSw; go_simp <;> with_reducible rfl)
      simp only [Act.put, List.setIfInBounds_toArray, List.set_cons_zero, List.set_cons_succ]
      refine wpAnyH_take (i := 16) (oi := { dst := some 72, op := Op.pick (Operand.tmp 67) (Operand.tmp 71) (Operand.const (Value.bool false)), type := 4, pos := _, after := _, guard := none }) (v := ?_) rfl (by kernel_rfl) (by kernel_rfl) (by kernel_rfl) (fun _ _ _ h => h) (Or.inl ⟨by rfl, ?_⟩) (by assumption) ?_
      case refine_2 => (intro w hSw; go_simp <;> with_reducible rfl)
      simp only [Act.put, List.setIfInBounds_toArray, List.set_cons_zero, List.set_cons_succ]
      refine wpAnyH_take (i := 17) (oi := { dst := some 73, op := Op.move (Operand.tmp 72), type := 4, pos := _, after := _, guard := none }) (v := ?_) rfl (by kernel_rfl) (by kernel_rfl) (by kernel_rfl) (fun _ _ _ h => h) (Or.inl ⟨by rfl, ?_⟩) (by assumption) ?_
      case refine_2 => (intro w hSw; go_simp <;> with_reducible rfl)
      simp only [Act.put, List.setIfInBounds_toArray, List.set_cons_zero, List.set_cons_succ]
      refine wpAnyH_take (i := 18) (oi := { dst := some 74, op := Op.move (Operand.tmp 13), type := 26, pos := _, after := _, guard := some (17, true) }) (v := ?_) rfl (by kernel_rfl) (by kernel_rfl) (by kernel_rfl) (fun _ _ _ h => h) (Or.inl ⟨by rfl, ?_⟩) (by assumption) ?_
      case refine_2 => (intro w hSw; go_simp <;> with_reducible rfl)
      simp only [Act.put, List.setIfInBounds_toArray, List.set_cons_zero, List.set_cons_succ]
      refine wpAnyH_take (i := 19) (oi := { dst := some 75, op := Op.binOp BinOp.eql 26 (Operand.tmp 74) (Operand.const (Value.int IntKind.i64 14)) 26, type := 4, pos := _, after := _, guard := some (17, true) }) (v := ?_) rfl (by kernel_rfl) (by kernel_rfl) (by kernel_rfl) (fun _ _ _ h => h) (Or.inl ⟨by rfl, ?_⟩) (by assumption) ?_
      case refine_2 => (intro w hSw; go_simp <;> with_reducible rfl)
      simp only [Act.put, List.setIfInBounds_toArray, List.set_cons_zero, List.set_cons_succ]
      refine wpAnyH_take (i := 20) (oi := { dst := some 76, op := Op.pick (Operand.tmp 73) (Operand.tmp 75) (Operand.const (Value.bool false)), type := 4, pos := _, after := _, guard := none }) (v := ?_) rfl (by kernel_rfl) (by kernel_rfl) (by kernel_rfl) (fun _ _ _ h => h) (Or.inl ⟨by rfl, ?_⟩) (by assumption) ?_
      case refine_2 => (intro w hSw; go_simp <;> with_reducible rfl)
      simp only [Act.put, List.setIfInBounds_toArray, List.set_cons_zero, List.set_cons_succ]
      refine wpAnyH_take (i := 21) (oi := { dst := some 77, op := Op.move (Operand.tmp 76), type := 4, pos := _, after := _, guard := none }) (v := ?_) rfl (by kernel_rfl) (by kernel_rfl) (by kernel_rfl) (fun _ _ _ h => h) (Or.inl ⟨by rfl, ?_⟩) (by assumption) ?_
      case refine_2 => (intro w hSw; go_simp <;> with_reducible rfl)
      simp only [Act.put, List.setIfInBounds_toArray, List.set_cons_zero, List.set_cons_succ]
      refine wpAnyH_take (i := 22) (oi := { dst := some 78, op := Op.move (Operand.tmp 15), type := 26, pos := _, after := _, guard := some (21, true) }) (v := ?_) rfl (by kernel_rfl) (by kernel_rfl) (by kernel_rfl) (fun _ _ _ h => h) (Or.inl ⟨by rfl, ?_⟩) (by assumption) ?_
      case refine_2 => (intro w hSw; go_simp <;> with_reducible rfl)
      simp only [Act.put, List.setIfInBounds_toArray, List.set_cons_zero, List.set_cons_succ]
      refine wpAnyH_take (i := 23) (oi := { dst := some 79, op := Op.binOp BinOp.eql 26 (Operand.tmp 78) (Operand.const (Value.int IntKind.i64 14)) 26, type := 4, pos := _, after := _, guard := some (21, true) }) (v := ?_) rfl (by kernel_rfl) (by kernel_rfl) (by kernel_rfl) (fun _ _ _ h => h) (Or.inl ⟨by rfl, ?_⟩) (by assumption) ?_
      case refine_2 => (intro w hSw; go_simp <;> with_reducible rfl)
      simp only [Act.put, List.setIfInBounds_toArray, List.set_cons_zero, List.set_cons_succ]
      refine wpAnyH_take (i := 24) (oi := { dst := some 80, op := Op.pick (Operand.tmp 77) (Operand.tmp 79) (Operand.const (Value.bool false)), type := 4, pos := _, after := _, guard := none }) (v := ?_) rfl (by kernel_rfl) (by kernel_rfl) (by kernel_rfl) (fun _ _ _ h => h) (Or.inl ⟨by rfl, ?_⟩) (by assumption) ?_
      case refine_2 => (intro w hSw; go_simp <;> with_reducible rfl)
      simp only [Act.put, List.setIfInBounds_toArray, List.set_cons_zero, List.set_cons_succ]
      refine wpAnyH_take (i := 25) (oi := { dst := some 81, op := Op.move (Operand.tmp 80), type := 4, pos := _, after := _, guard := none }) (v := ?_) rfl (by kernel_rfl) (by kernel_rfl) (by kernel_rfl) (fun _ _ _ h => h) (Or.inl ⟨by rfl, ?_⟩) (by assumption) ?_
      case refine_2 => (intro w hSw; go_simp <;> with_reducible rfl)
      simp only [Act.put, List.setIfInBounds_toArray, List.set_cons_zero, List.set_cons_succ]
      refine wpAnyH_take (i := 26) (oi := { dst := some 82, op := Op.move (Operand.tmp 0), type := 24, pos := _, after := _, guard := some (25, true) }) (v := ?_) rfl (by kernel_rfl) (by kernel_rfl) (by kernel_rfl) (fun _ _ _ h => h) (Or.inl ⟨by rfl, ?_⟩) (by assumption) ?_
      case refine_2 => (intro w hSw; go_simp <;> with_reducible rfl)
      simp only [Act.put, List.setIfInBounds_toArray, List.set_cons_zero, List.set_cons_succ]
      refine wpAnyH_take (i := 29) (oi := { dst := some 85, op := Op.move (Operand.tmp 1), type := 35, pos := _, after := _, guard := some (25, true) }) (v := ?_) rfl (by kernel_rfl) (by kernel_rfl) (by kernel_rfl) (fun _ _ _ h => h) (Or.inl ⟨by rfl, ?_⟩) (by assumption) ?_
      case refine_2 => (intro w hSw; go_simp <;> with_reducible rfl)
      simp only [Act.put, List.setIfInBounds_toArray, List.set_cons_zero, List.set_cons_succ]
      refine wpAnyH_take (i := 30) (oi := { dst := some 86, op := Op.move (Operand.tmp 2), type := 3, pos := _, after := _, guard := some (25, true) }) (v := ?_) rfl (by kernel_rfl) (by kernel_rfl) (by kernel_rfl) (fun _ _ _ h => h) (Or.inl ⟨by rfl, ?_⟩) (by assumption) ?_
      case refine_2 => (intro w hSw; go_simp <;> with_reducible rfl)
      simp only [Act.put, List.setIfInBounds_toArray, List.set_cons_zero, List.set_cons_succ]
      refine wpAnyH_ready (rs := [27]) (by kernel_rfl) (by simp) ?_
      refine AllReadyH.cons (o := { dst := some 83, op := Op.call { callee := Callee.value (Operand.func 23), args := #[Operand.tmp 82], argTypes := #[24] }, type := 29, pos := _, after := _, guard := some (25, true) }) rfl (fun K hK => ?_) AllReadyH.nil
      go_simp
      go_at_call 23
      refine (bytes_as HX0 HP2.out hb hs h63).mono ?_
      rintro e w4 ⟨v6, rfl, hr6, hbq6⟩
      have hb4 := more1 hbq6 hb2
      have hc6 : ∀ w', Below w4.heap.size w4 w' → (convert 29 9 v6).run Try.prog w' = .ok (.string (baOf X)) w' := fun w' hw' => run_bytes (hr6.kept fun k _ _ hk => hw'.block k (heap_lt hk))
      have HX4 := hid (HX2.out.below hbq6)
      have h44 : Below w4.heap.size w4 w4 := Below.refl _ _
      have HB4 := hid hb4
      refine hK.out _ _ hb4 (fun _ => wpAnyH_mono (S' := fun w' => Below w4.heap.size w4 w') (fun w' hw' => more1 hw' HB4.out) _ _ _ _ ?_)
      clear hK K hb2 hbq6 hb4 hr6
      try simp only [Act.put, List.setIfInBounds_toArray, List.set_cons_zero, List.set_cons_succ]
      refine wpAnyH_take (i := 28) (oi := { dst := some 84, op := Op.convert 29 9 (Operand.tmp 83), type := 9, pos := _, after := _, guard := some (25, true) }) (v := ?_) rfl (by kernel_rfl) (by kernel_rfl) (by kernel_rfl) (fun _ _ _ h => h) (Or.inl ⟨by rfl, ?_⟩) (by assumption) ?_
      case refine_2 => (intro w hSw; go_simp <;> with_reducible rfl)
      simp only [Act.put, List.setIfInBounds_toArray, List.set_cons_zero, List.set_cons_succ]
      refine wpAnyH_ready (rs := [31]) (by kernel_rfl) (by simp) ?_
      refine AllReadyH.cons (o := { dst := some 87, op := Op.call { callee := Callee.value (Operand.func 34), args := #[Operand.tmp 85, Operand.tmp 86], argTypes := #[35, 3] }, type := 9, pos := _, after := _, guard := some (25, true) }) rfl (fun K hK => ?_) AllReadyH.nil
      go_simp
      go_at_call 34
      refine (refBytes_as HX0 HX4.out hb hs h63).mono ?_
      rintro e w5 ⟨rfl, hbq7⟩
      have HB5 := hid (more1 hbq7 HB4.out)
      refine hK.out _ _ hbq7 (fun _ => ?_)
      clear hK K h44
      try simp only [Act.put, List.setIfInBounds_toArray, List.set_cons_zero, List.set_cons_succ]
      refine wpAnyH_take (i := 32) (oi := { dst := some 88, op := Op.binOp BinOp.eql 9 (Operand.tmp 84) (Operand.tmp 87) 9, type := 4, pos := _, after := _, guard := some (25, true) }) (v := ?_) rfl (by kernel_rfl) (by kernel_rfl) (by kernel_rfl) (fun _ _ _ h => h) (Or.inl ⟨by rfl, ?_⟩) (by assumption) ?_
      case refine_2 => (intro w hSw; go_simp <;> with_reducible rfl)
      simp only [Act.put, List.setIfInBounds_toArray, List.set_cons_zero, List.set_cons_succ]
      refine wpAnyH_take (i := 33) (oi := { dst := some 89, op := Op.pick (Operand.tmp 81) (Operand.tmp 88) (Operand.const (Value.bool false)), type := 4, pos := _, after := _, guard := none }) (v := ?_) rfl (by kernel_rfl) (by kernel_rfl) (by kernel_rfl) (fun _ _ _ h => h) (Or.inl ⟨by rfl, ?_⟩) (by assumption) ?_
      case refine_2 => (intro w hSw; go_simp <;> with_reducible rfl)
      simp only [Act.put, List.setIfInBounds_toArray, List.set_cons_zero, List.set_cons_succ]
      refine wpAnyH_take (i := 34) (oi := { dst := some 6, op := Op.assign (Operand.tmp 89), type := 4, pos := _, after := _, guard := none }) (v := ?_) rfl (by kernel_rfl) (by kernel_rfl) (by kernel_rfl) (fun _ _ _ h => h) (Or.inl ⟨by rfl, ?_⟩) (by assumption) ?_
      case refine_2 => (intro w hSw; go_simp <;> with_reducible rfl)
      simp only [Act.put, List.setIfInBounds_toArray, List.set_cons_zero, List.set_cons_succ]
      refine wpAnyH_done (by kernel_rfl) ?_ _
      refine NoPanic.normal ?_
      go_wp2
      go_ret
      exact ⟨rfl, HB.out.trans (HB5.out.mono HB.out.size)⟩
end Go.Proofs.Ytgkohbjbfjnllaa
