/-
  The reference's grid: Bytes: for every grid and square.
-/
import Derived.Test.YtdpdkjpkehgdnaaQuY
import Derived.Test.YtdpdkjpkehgdnaaQuM
import Derived.Laws.BytesString
import Derived.Laws.BytesArg
namespace Go.Proofs.Ytdpdkjpkehgdnaa
open Go.RowKit

def baOf (l : List UInt8) : ByteArray := ⟨l.toArray⟩
theorem baOf_size (l : List UInt8) : (baOf l).size = l.length := by simp [baOf, ByteArray.size]
theorem baOf_append (a b : List UInt8) : baOf a ++ baOf b = baOf (a ++ b) := ByteArray.mk_append_mk a b

/-- string(b) of bytes wherever they lie -/
theorem run_string_b {w : World} {A : Addr} {cap : Nat} {l : List UInt8} (hc : ∀ j u, (cellsB l)[j]? = some u → w.cell? (A.add j) = some u) : (convert 54 9 (.slice (some A) l.length cap)).run Try.prog w = .ok (.string (baOf l)) w := by
  rw [run_convert_bytes_string w 54 9 5 _ _ _ Try.underlying54 Try.underlying5 Try.underlying9]
  have hl := run_loadCells_list (P := Try.prog) w A ((l.map fun b => (b.toNat : Int)).map (Value.int .u8)) (fun j v hj => by
    simp only [List.getElem?_map, Option.map_eq_some_iff] at hj
    obtain ⟨z, ⟨b, hb, rfl⟩, rfl⟩ := hj
    exact hc j _ (by simp [cellsB, hb]))
  simp only [List.length_map] at hl
  rw [run_bytesToString w A l.length cap (l.map fun b => (b.toNat : Int)) hl, foldl_push_bytes]
  have he : ((fun n : Int => UInt8.ofNat n.toNat) ∘ fun b : UInt8 => (b.toNat : Int)) = id := by
    funext b
    simp
  simp [baOf, he]
theorem run_string_own {w : World} {base : Nat} {v : Value} {l : List UInt8} (h : w.ownsRow base 5 1 v l.length (cellsB l)) (hp : 0 < l.length) : (convert 54 9 v).run Try.prog w = .ok (.string (baOf l)) w := by
  obtain ⟨g, cap, rfl, _, _, hc⟩ := own_get h hp
  exact run_string_b hc

set_option maxRecDepth 100000 in
set_option maxHeartbeats 2000000 in
theorem refBy_leaf (S g cap x y n N : Nat) (f : Nat → Int) (w : World) (hS : S ≤ 32) (hx : x + n ≤ S) (hy : y + n ≤ S) (hn : 1 ≤ n) (hf : IntsAt w N g (S * S) f) (ho : OneP S f x y n) (hv : 0 ≤ f (y * S + x) ∧ f (y * S + x) ≤ 255) :
    Calls Try.prog 22 #[.agg #[.int .i64 (S : Int), .slice (some ⟨g, 0, none⟩) (S * S) cap], .int .i64 (x : Int), .int .i64 (y : Int), .int .i64 (n : Int)] w fun e w' =>
      e = .returned (.string (baOf [0, byteOf (f (y * S + x))])) ∧ Below w.heap.size w w' := by
  have hss : S * S ≤ 1024 := Nat.mul_le_mul hS hS
  have hg := hf.lt
  have hp0 : y * S + x < S * S := by have := idx_lt (i := 0) (j := 0) hx hy hn hn; simpa using this
  have hone := fun (w' : World) (b : Below w.heap.size w w') => refOne_any S g cap x y n N f w' hS hx hy hn (hf.below b)
  have HO := hid ho
  obtain ⟨p0, hp⟩ : ∃ p0, p0 = y * S + x := ⟨_, rfl⟩
  rw [← hp] at hp0 hv ⊢
  have e0 := hf.cell p0 hp0
  generalize hT : S * S = T at hss hp0 hone ⊢
  obtain ⟨b2, hb2⟩ : ∃ b2 : Int, b2 = (y : Int) * (S : Int) := ⟨_, rfl⟩
  have hyS : y * S ≤ T := by omega
  have hw5 : IntKind.i64.wrap ((y : Int) * (S : Int)) = b2 := by
    rw [hb2, IntWalk.i64_in _ (by rw [← Int.natCast_mul]; omega)]
  have hw6 : IntKind.i64.wrap (b2 + (x : Int)) = (p0 : Int) := by
    rw [hb2, hp, ← Int.natCast_mul, IntWalk.i64_in _ (by omega)]
    omega
  have HON := hid hone
  generalize f p0 = u at e0 hv ⊢
  have hwu : IntKind.u8.wrap u = u := wraps_u8 u hv.1 (by omega)
  have hcs : cellsB [0, byteOf u] = [.int .u8 0, .int .u8 u] := by simp [cellsB, byteOf_int hv]
  have hstr : ∀ W : World, (convert 54 9 (.slice (some ⟨W.heap.size, 0, none⟩) 2 2)).run Try.prog (W.alloc (.cells #[.int .u8 0, .int .u8 u] 5)) = .ok (.string (baOf [0, byteOf u])) (W.alloc (.cells #[.int .u8 0, .int .u8 u] 5)) := fun W =>
    run_string_b (l := [0, byteOf u]) (by rw [hcs]; exact two_new _ _ _ _)
  clear hb2 hp hone ho hf hT hcs
  go_enter Try.func22, Try.ntmps22
  go_wp2_with fail
  refine (HON.out _ (balloc (Below.refl _ _) _)).mono ?_
  rintro e w1 ⟨r, rfl, hr, hb1⟩
  have hr1 : r = true := hr.2 HO.out
  subst hr1
  have hs1 := hb1.size
  simp at hs1
  have c0 : w1.cell? ⟨w.heap.size, 0, none⟩ = some (.int .i64 (S : Int)) := by rw [(bcell hb1).1 _ _ (by simp)]; simp [go_sem]
  have c1 : w1.cell? ⟨w.heap.size, 1, none⟩ = some (.slice (some ⟨g, 0, none⟩) T cap) := by rw [(bcell hb1).1 _ _ (by simp)]; simp [go_sem]
  have hB1 : Below w.heap.size w w1 := bstep (balloc (Below.refl _ _) _) hb1
  have d0 := ((bcell hB1).1 g p0 hg).trans e0
  clear hr hb1 e0
  go_wp2
  go_ret
  exact ⟨rfl, bstep hB1 (balloc (Below.refl _ _) _)⟩

set_option maxRecDepth 100000 in
set_option maxHeartbeats 4000000 in
theorem refBy_node (S g cap x y h n N : Nat) (f : Nat → Int) (L : Nat → Nat → List UInt8) (w : World) (hS : S ≤ 32) (hn2 : n = 2 * h) (hx : x + n ≤ S) (hy : y + n ≤ S) (hn : 1 ≤ n) (hf : IntsAt w N g (S * S) f) (ho : ¬ OneP S f x y n) (hL : ∀ a b, (L a b).length ≤ 100000)
    (ih : ∀ (a b : Nat) (w' : World), a + h ≤ S → b + h ≤ S → Below w.heap.size w w' → Calls Try.prog 22 #[.agg #[.int .i64 (S : Int), .slice (some ⟨g, 0, none⟩) (S * S) cap], .int .i64 (a : Int), .int .i64 (b : Int), .int .i64 (h : Int)] w' fun e w'' =>
      e = .returned (.string (baOf (L a b))) ∧ Below w'.heap.size w' w'') :
    Calls Try.prog 22 #[.agg #[.int .i64 (S : Int), .slice (some ⟨g, 0, none⟩) (S * S) cap], .int .i64 (x : Int), .int .i64 (y : Int), .int .i64 (n : Int)] w fun e w' =>
      e = .returned (.string (baOf (1 :: (L x y ++ L (x + h) y ++ L x (y + h) ++ L (x + h) (y + h))))) ∧ Below w.heap.size w w' := by
  have hone := fun (w' : World) (b : Below w.heap.size w w') => refOne_any S g cap x y n N f w' hS hx hy hn (hf.below b)
  have HO := hid ho
  obtain ⟨X2, hX2⟩ : ∃ X2, X2 = x + h := ⟨_, rfl⟩
  obtain ⟨Y2, hY2⟩ : ∃ Y2, Y2 = y + h := ⟨_, rfl⟩
  rw [← hX2, ← hY2]
  have hb0 : x + h ≤ S ∧ y + h ≤ S ∧ X2 + h ≤ S ∧ Y2 + h ≤ S := by omega
  have hh : h ≤ 1024 := by omega
  have hwx : IntKind.i64.wrap ((x : Int) + (h : Int)) = (X2 : Int) := by rw [hX2, IntWalk.i64_in _ (by omega)]; omega
  have hwy : IntKind.i64.wrap ((y : Int) + (h : Int)) = (Y2 : Int) := by rw [hY2, IntWalk.i64_in _ (by omega)]; omega
  have hq1 : (n : Int) / 2 = (h : Int) := by omega
  have hq2 : (n : Int).tdiv 2 = (h : Int) := by rw [Int.tdiv_eq_ediv_of_nonneg (by omega)]; omega
  have hq3 := w64_nat hh
  have hq4 := i64_nat hh
  have HI := hid ih
  have HON := hid hone
  have hcat : baOf (1 :: (L x y ++ L X2 y ++ L x Y2 ++ L X2 Y2)) = baOf [1] ++ baOf (L x y) ++ baOf (L X2 y) ++ baOf (L x Y2) ++ baOf (L X2 Y2) := by
    simp only [baOf_append, List.cons_append, List.nil_append, List.append_assoc]
  have n0 : (baOf (L x y)).size ≤ 100000 := by rw [baOf_size]; exact hL _ _
  have n1 : (baOf (L X2 y)).size ≤ 100000 := by rw [baOf_size]; exact hL _ _
  have n2 : (baOf (L x Y2)).size ≤ 100000 := by rw [baOf_size]; exact hL _ _
  have n3 : (baOf (L X2 Y2)).size ≤ 100000 := by rw [baOf_size]; exact hL _ _
  have k0' : ¬ (9223372036854775807 < 1 + (baOf (L x y)).size) := by omega
  have k1' : ¬ (9223372036854775807 < 1 + (baOf (L x y)).size + (baOf (L X2 y)).size) := by omega
  have k2' : ¬ (9223372036854775807 < 1 + (baOf (L x y)).size + (baOf (L X2 y)).size + (baOf (L x Y2)).size) := by omega
  have k3' : ¬ (9223372036854775807 < 1 + (baOf (L x y)).size + (baOf (L X2 y)).size + (baOf (L x Y2)).size + (baOf (L X2 Y2)).size) := by omega
  clear n0 n1 n2 n3
  generalize hT : S * S = T at HON HI ⊢
  have HB0 := hid hb0
  clear hone ho hf hT ih hX2 hY2 hn2 hx hy hS hn hh hb0
  go_enter Try.func22, Try.ntmps22
  go_wp2_with fail
  refine (HON.out _ (balloc (Below.refl _ _) _)).mono ?_
  rintro e w1 ⟨r, rfl, hr, hb1⟩
  have hr1 : r = false := by
    cases r with
    | false => rfl
    | true => exact absurd (hr.1 rfl) HO.out
  subst hr1
  have hs1 := hb1.size
  simp at hs1
  have c0 : w1.cell? ⟨w.heap.size, 0, none⟩ = some (.int .i64 (S : Int)) := by rw [(bcell hb1).1 _ _ (by simp)]; simp [go_sem]
  have c1 : w1.cell? ⟨w.heap.size, 1, none⟩ = some (.slice (some ⟨g, 0, none⟩) T cap) := by rw [(bcell hb1).1 _ _ (by simp)]; simp [go_sem]
  have hB1 : Below w.heap.size w w1 := bstep (balloc (Below.refl _ _) _) hb1
  have hwl : w.heap.size < w1.heap.size := Nat.lt_of_lt_of_le (Nat.lt_succ_self _) hs1
  have hs := hB1.size
  have hb0 := HB0.out
  clear hr hb1 hs1
  go_wp2_with fail
  refine wp_region_noPanic ?_
  refine wp_region_held_drew (S := fun w' => w'.cell? ⟨w.heap.size, 0, none⟩ = some (.int .i64 (S : Int)) ∧ w'.cell? ⟨w.heap.size, 1, none⟩ = some (.slice (some ⟨g, 0, none⟩) T cap)) (by kernel_rfl) ⟨c0, c1⟩ (fun hHeld => ?_)
  refine wpAnyH_take (i := 0) (oi := { dst := some 30, op := Op.load 32 (Operand.tmp 4), type := 32, pos := _, after := _, guard := none }) (v := ?_) rfl (by kernel_rfl) (by kernel_rfl) (by kernel_rfl) (fun _ _ _ h => h) (Or.inl ⟨by kernel_rfl, ?_⟩) (by assumption) ?_
  case refine_2 => (intro w hSw; go_simp <;> with_reducible rfl)
  simp only [Act.put, List.setIfInBounds_toArray, List.set_cons_zero, List.set_cons_succ]
  refine wpAnyH_take (i := 1) (oi := { dst := some 31, op := Op.move (Operand.tmp 1), type := 3, pos := _, after := _, guard := none }) (v := ?_) rfl (by kernel_rfl) (by kernel_rfl) (by kernel_rfl) (fun _ _ _ h => h) (Or.inl ⟨by kernel_rfl, ?_⟩) (by assumption) ?_
  case refine_2 => (intro w hSw; go_simp <;> with_reducible rfl)
  simp only [Act.put, List.setIfInBounds_toArray, List.set_cons_zero, List.set_cons_succ]
  refine wpAnyH_take (i := 2) (oi := { dst := some 32, op := Op.move (Operand.tmp 2), type := 3, pos := _, after := _, guard := none }) (v := ?_) rfl (by kernel_rfl) (by kernel_rfl) (by kernel_rfl) (fun _ _ _ h => h) (Or.inl ⟨by kernel_rfl, ?_⟩) (by assumption) ?_
  case refine_2 => (intro w hSw; go_simp <;> with_reducible rfl)
  simp only [Act.put, List.setIfInBounds_toArray, List.set_cons_zero, List.set_cons_succ]
  refine wpAnyH_take (i := 3) (oi := { dst := some 33, op := Op.move (Operand.tmp 9), type := 3, pos := _, after := _, guard := none }) (v := ?_) rfl (by kernel_rfl) (by kernel_rfl) (by kernel_rfl) (fun _ _ _ h => h) (Or.inl ⟨by kernel_rfl, ?_⟩) (by assumption) ?_
  case refine_2 => (intro w hSw; go_simp <;> with_reducible rfl)
  simp only [Act.put, List.setIfInBounds_toArray, List.set_cons_zero, List.set_cons_succ]
  refine wpAnyH_take (i := 6) (oi := { dst := some 36, op := Op.load 32 (Operand.tmp 4), type := 32, pos := _, after := _, guard := none }) (v := ?_) rfl (by kernel_rfl) (by kernel_rfl) (by kernel_rfl) (fun _ _ _ h => h) (Or.inl ⟨by kernel_rfl, ?_⟩) (by assumption) ?_
  case refine_2 => (intro w hSw; go_simp <;> with_reducible rfl)
  simp only [Act.put, List.setIfInBounds_toArray, List.set_cons_zero, List.set_cons_succ]
  refine wpAnyH_take (i := 7) (oi := { dst := some 37, op := Op.move (Operand.tmp 1), type := 3, pos := _, after := _, guard := none }) (v := ?_) rfl (by kernel_rfl) (by kernel_rfl) (by kernel_rfl) (fun _ _ _ h => h) (Or.inl ⟨by kernel_rfl, ?_⟩) (by assumption) ?_
  case refine_2 => (intro w hSw; go_simp <;> with_reducible rfl)
  simp only [Act.put, List.setIfInBounds_toArray, List.set_cons_zero, List.set_cons_succ]
  refine wpAnyH_take (i := 8) (oi := { dst := some 38, op := Op.move (Operand.tmp 9), type := 3, pos := _, after := _, guard := none }) (v := ?_) rfl (by kernel_rfl) (by kernel_rfl) (by kernel_rfl) (fun _ _ _ h => h) (Or.inl ⟨by kernel_rfl, ?_⟩) (by assumption) ?_
  case refine_2 => (intro w hSw; go_simp <;> with_reducible rfl)
  simp only [Act.put, List.setIfInBounds_toArray, List.set_cons_zero, List.set_cons_succ]
  refine wpAnyH_take (i := 9) (oi := { dst := some 39, op := Op.binOp BinOp.add 3 (Operand.tmp 37) (Operand.tmp 38) 3, type := 3, pos := _, after := _, guard := none }) (v := ?_) rfl (by kernel_rfl) (by kernel_rfl) (by kernel_rfl) (fun _ _ _ h => h) (Or.inl ⟨by kernel_rfl, ?_⟩) (by assumption) ?_
  case refine_2 => (intro w hSw; go_simp <;> with_reducible rfl)
  simp only [Act.put, List.setIfInBounds_toArray, List.set_cons_zero, List.set_cons_succ]
  refine wpAnyH_take (i := 10) (oi := { dst := some 40, op := Op.move (Operand.tmp 2), type := 3, pos := _, after := _, guard := none }) (v := ?_) rfl (by kernel_rfl) (by kernel_rfl) (by kernel_rfl) (fun _ _ _ h => h) (Or.inl ⟨by kernel_rfl, ?_⟩) (by assumption) ?_
  case refine_2 => (intro w hSw; go_simp <;> with_reducible rfl)
  simp only [Act.put, List.setIfInBounds_toArray, List.set_cons_zero, List.set_cons_succ]
  refine wpAnyH_take (i := 11) (oi := { dst := some 41, op := Op.move (Operand.tmp 9), type := 3, pos := _, after := _, guard := none }) (v := ?_) rfl (by kernel_rfl) (by kernel_rfl) (by kernel_rfl) (fun _ _ _ h => h) (Or.inl ⟨by kernel_rfl, ?_⟩) (by assumption) ?_
  case refine_2 => (intro w hSw; go_simp <;> with_reducible rfl)
  simp only [Act.put, List.setIfInBounds_toArray, List.set_cons_zero, List.set_cons_succ]
  refine wpAnyH_take (i := 14) (oi := { dst := some 44, op := Op.load 32 (Operand.tmp 4), type := 32, pos := _, after := _, guard := none }) (v := ?_) rfl (by kernel_rfl) (by kernel_rfl) (by kernel_rfl) (fun _ _ _ h => h) (Or.inl ⟨by kernel_rfl, ?_⟩) (by assumption) ?_
  case refine_2 => (intro w hSw; go_simp <;> with_reducible rfl)
  simp only [Act.put, List.setIfInBounds_toArray, List.set_cons_zero, List.set_cons_succ]
  refine wpAnyH_take (i := 15) (oi := { dst := some 45, op := Op.move (Operand.tmp 1), type := 3, pos := _, after := _, guard := none }) (v := ?_) rfl (by kernel_rfl) (by kernel_rfl) (by kernel_rfl) (fun _ _ _ h => h) (Or.inl ⟨by kernel_rfl, ?_⟩) (by assumption) ?_
  case refine_2 => (intro w hSw; go_simp <;> with_reducible rfl)
  simp only [Act.put, List.setIfInBounds_toArray, List.set_cons_zero, List.set_cons_succ]
  refine wpAnyH_take (i := 16) (oi := { dst := some 46, op := Op.move (Operand.tmp 2), type := 3, pos := _, after := _, guard := none }) (v := ?_) rfl (by kernel_rfl) (by kernel_rfl) (by kernel_rfl) (fun _ _ _ h => h) (Or.inl ⟨by kernel_rfl, ?_⟩) (by assumption) ?_
  case refine_2 => (intro w hSw; go_simp <;> with_reducible rfl)
  simp only [Act.put, List.setIfInBounds_toArray, List.set_cons_zero, List.set_cons_succ]
  refine wpAnyH_take (i := 17) (oi := { dst := some 47, op := Op.move (Operand.tmp 9), type := 3, pos := _, after := _, guard := none }) (v := ?_) rfl (by kernel_rfl) (by kernel_rfl) (by kernel_rfl) (fun _ _ _ h => h) (Or.inl ⟨by kernel_rfl, ?_⟩) (by assumption) ?_
  case refine_2 => (intro w hSw; go_simp <;> with_reducible rfl)
  simp only [Act.put, List.setIfInBounds_toArray, List.set_cons_zero, List.set_cons_succ]
  refine wpAnyH_take (i := 18) (oi := { dst := some 48, op := Op.binOp BinOp.add 3 (Operand.tmp 46) (Operand.tmp 47) 3, type := 3, pos := _, after := _, guard := none }) (v := ?_) rfl (by kernel_rfl) (by kernel_rfl) (by kernel_rfl) (fun _ _ _ h => h) (Or.inl ⟨by kernel_rfl, ?_⟩) (by assumption) ?_
  case refine_2 => (intro w hSw; go_simp <;> with_reducible rfl)
  simp only [Act.put, List.setIfInBounds_toArray, List.set_cons_zero, List.set_cons_succ]
  refine wpAnyH_take (i := 19) (oi := { dst := some 49, op := Op.move (Operand.tmp 9), type := 3, pos := _, after := _, guard := none }) (v := ?_) rfl (by kernel_rfl) (by kernel_rfl) (by kernel_rfl) (fun _ _ _ h => h) (Or.inl ⟨by kernel_rfl, ?_⟩) (by assumption) ?_
  case refine_2 => (intro w hSw; go_simp <;> with_reducible rfl)
  simp only [Act.put, List.setIfInBounds_toArray, List.set_cons_zero, List.set_cons_succ]
  refine wpAnyH_take (i := 22) (oi := { dst := some 52, op := Op.load 32 (Operand.tmp 4), type := 32, pos := _, after := _, guard := none }) (v := ?_) rfl (by kernel_rfl) (by kernel_rfl) (by kernel_rfl) (fun _ _ _ h => h) (Or.inl ⟨by kernel_rfl, ?_⟩) (by assumption) ?_
  case refine_2 => (intro w hSw; go_simp <;> with_reducible rfl)
  simp only [Act.put, List.setIfInBounds_toArray, List.set_cons_zero, List.set_cons_succ]
  refine wpAnyH_take (i := 23) (oi := { dst := some 53, op := Op.move (Operand.tmp 1), type := 3, pos := _, after := _, guard := none }) (v := ?_) rfl (by kernel_rfl) (by kernel_rfl) (by kernel_rfl) (fun _ _ _ h => h) (Or.inl ⟨by kernel_rfl, ?_⟩) (by assumption) ?_
  case refine_2 => (intro w hSw; go_simp <;> with_reducible rfl)
  simp only [Act.put, List.setIfInBounds_toArray, List.set_cons_zero, List.set_cons_succ]
  refine wpAnyH_take (i := 24) (oi := { dst := some 54, op := Op.move (Operand.tmp 9), type := 3, pos := _, after := _, guard := none }) (v := ?_) rfl (by kernel_rfl) (by kernel_rfl) (by kernel_rfl) (fun _ _ _ h => h) (Or.inl ⟨by kernel_rfl, ?_⟩) (by assumption) ?_
  case refine_2 => (intro w hSw; go_simp <;> with_reducible rfl)
  simp only [Act.put, List.setIfInBounds_toArray, List.set_cons_zero, List.set_cons_succ]
  refine wpAnyH_take (i := 25) (oi := { dst := some 55, op := Op.binOp BinOp.add 3 (Operand.tmp 53) (Operand.tmp 54) 3, type := 3, pos := _, after := _, guard := none }) (v := ?_) rfl (by kernel_rfl) (by kernel_rfl) (by kernel_rfl) (fun _ _ _ h => h) (Or.inl ⟨by kernel_rfl, ?_⟩) (by assumption) ?_
  case refine_2 => (intro w hSw; go_simp <;> with_reducible rfl)
  simp only [Act.put, List.setIfInBounds_toArray, List.set_cons_zero, List.set_cons_succ]
  refine wpAnyH_take (i := 26) (oi := { dst := some 56, op := Op.move (Operand.tmp 2), type := 3, pos := _, after := _, guard := none }) (v := ?_) rfl (by kernel_rfl) (by kernel_rfl) (by kernel_rfl) (fun _ _ _ h => h) (Or.inl ⟨by kernel_rfl, ?_⟩) (by assumption) ?_
  case refine_2 => (intro w hSw; go_simp <;> with_reducible rfl)
  simp only [Act.put, List.setIfInBounds_toArray, List.set_cons_zero, List.set_cons_succ]
  refine wpAnyH_take (i := 27) (oi := { dst := some 57, op := Op.move (Operand.tmp 9), type := 3, pos := _, after := _, guard := none }) (v := ?_) rfl (by kernel_rfl) (by kernel_rfl) (by kernel_rfl) (fun _ _ _ h => h) (Or.inl ⟨by kernel_rfl, ?_⟩) (by assumption) ?_
  case refine_2 => (intro w hSw; go_simp <;> with_reducible rfl)
  simp only [Act.put, List.setIfInBounds_toArray, List.set_cons_zero, List.set_cons_succ]
  refine wpAnyH_take (i := 28) (oi := { dst := some 58, op := Op.binOp BinOp.add 3 (Operand.tmp 56) (Operand.tmp 57) 3, type := 3, pos := _, after := _, guard := none }) (v := ?_) rfl (by kernel_rfl) (by kernel_rfl) (by kernel_rfl) (fun _ _ _ h => h) (Or.inl ⟨by kernel_rfl, ?_⟩) (by assumption) ?_
  case refine_2 => (intro w hSw; go_simp <;> with_reducible rfl)
  simp only [Act.put, List.setIfInBounds_toArray, List.set_cons_zero, List.set_cons_succ]
  refine wpAnyH_take (i := 29) (oi := { dst := some 59, op := Op.move (Operand.tmp 9), type := 3, pos := _, after := _, guard := none }) (v := ?_) rfl (by kernel_rfl) (by kernel_rfl) (by kernel_rfl) (fun _ _ _ h => h) (Or.inl ⟨by kernel_rfl, ?_⟩) (by assumption) ?_
  case refine_2 => (intro w hSw; go_simp <;> with_reducible rfl)
  simp only [Act.put, List.setIfInBounds_toArray, List.set_cons_zero, List.set_cons_succ]
  refine wpAnyH_ready (rs := [4]) (by kernel_rfl) (by simp) ?_
  refine AllReadyH.cons (o := { dst := some 34, op := Op.call { callee := Callee.value (Operand.func 22), args := #[Operand.tmp 30, Operand.tmp 31, Operand.tmp 32, Operand.tmp 33], argTypes := #[32, 3, 3, 3] }, type := 9, pos := _, after := _, guard := none }) rfl (fun K hK => ?_) AllReadyH.nil
  go_simp
  go_at_call 22
  refine (HI.out x y w1.drew hb0.1 hb0.2.1 hB1.drew).mono ?_
  rintro e u2 ⟨rfl, hb2⟩
  have k2 : Below w1.heap.size w1 u2 := (Below.drew (Below.refl _ _)).trans hb2
  refine hK.out _ _ ⟨(k2.cell (p := ⟨w.heap.size, 0, none⟩) hwl).trans c0, (k2.cell (p := ⟨w.heap.size, 1, none⟩) hwl).trans c1⟩ (fun hHeld2 => ?_)
  clear hK K
  try simp only [Act.put, List.setIfInBounds_toArray, List.set_cons_zero, List.set_cons_succ]
  refine wpAnyH_take (i := 5) (oi := { dst := some 35, op := Op.binOp BinOp.add 9 (Operand.const (Value.string { data := #[1] })) (Operand.tmp 34) 9, type := 9, pos := _, after := _, guard := none }) (v := ?_) rfl (by kernel_rfl) (by kernel_rfl) (by kernel_rfl) (fun _ _ _ h => h) (Or.inl ⟨by kernel_rfl, ?_⟩) (by assumption) ?_
  case refine_2 => (intro w hSw; go_simp <;> with_reducible rfl)
  simp only [Act.put, List.setIfInBounds_toArray, List.set_cons_zero, List.set_cons_succ]
  refine wpAnyH_ready (rs := [12]) (by kernel_rfl) (by simp) ?_
  refine AllReadyH.cons (o := { dst := some 42, op := Op.call { callee := Callee.value (Operand.func 22), args := #[Operand.tmp 36, Operand.tmp 39, Operand.tmp 40, Operand.tmp 41], argTypes := #[32, 3, 3, 3] }, type := 9, pos := _, after := _, guard := none }) rfl (fun K hK => ?_) AllReadyH.nil
  go_simp
  go_at_call 22
  refine (HI.out X2 y u2 hb0.2.2.1 hb0.2.1 (hB1.trans (k2.mono hs))).mono ?_
  rintro e u3 ⟨rfl, hb3⟩
  have k3 : Below w1.heap.size w1 u3 := bstep k2 hb3
  refine hK.out _ _ ⟨(k3.cell (p := ⟨w.heap.size, 0, none⟩) hwl).trans c0, (k3.cell (p := ⟨w.heap.size, 1, none⟩) hwl).trans c1⟩ (fun hHeld3 => ?_)
  clear hK K
  try simp only [Act.put, List.setIfInBounds_toArray, List.set_cons_zero, List.set_cons_succ]
  refine wpAnyH_take (i := 13) (oi := { dst := some 43, op := Op.binOp BinOp.add 9 (Operand.tmp 35) (Operand.tmp 42) 9, type := 9, pos := _, after := _, guard := none }) (v := ?_) rfl (by kernel_rfl) (by kernel_rfl) (by kernel_rfl) (fun _ _ _ h => h) (Or.inl ⟨by kernel_rfl, ?_⟩) (by assumption) ?_
  case refine_2 => (intro w hSw; go_simp <;> with_reducible rfl)
  simp only [Act.put, List.setIfInBounds_toArray, List.set_cons_zero, List.set_cons_succ]
  refine wpAnyH_ready (rs := [20]) (by kernel_rfl) (by simp) ?_
  refine AllReadyH.cons (o := { dst := some 50, op := Op.call { callee := Callee.value (Operand.func 22), args := #[Operand.tmp 44, Operand.tmp 45, Operand.tmp 48, Operand.tmp 49], argTypes := #[32, 3, 3, 3] }, type := 9, pos := _, after := _, guard := none }) rfl (fun K hK => ?_) AllReadyH.nil
  go_simp
  go_at_call 22
  refine (HI.out x Y2 u3 hb0.1 hb0.2.2.2 (hB1.trans (k3.mono hs))).mono ?_
  rintro e u4 ⟨rfl, hb4⟩
  have k4 : Below w1.heap.size w1 u4 := bstep k3 hb4
  refine hK.out _ _ ⟨(k4.cell (p := ⟨w.heap.size, 0, none⟩) hwl).trans c0, (k4.cell (p := ⟨w.heap.size, 1, none⟩) hwl).trans c1⟩ (fun hHeld4 => ?_)
  clear hK K
  try simp only [Act.put, List.setIfInBounds_toArray, List.set_cons_zero, List.set_cons_succ]
  refine wpAnyH_take (i := 21) (oi := { dst := some 51, op := Op.binOp BinOp.add 9 (Operand.tmp 43) (Operand.tmp 50) 9, type := 9, pos := _, after := _, guard := none }) (v := ?_) rfl (by kernel_rfl) (by kernel_rfl) (by kernel_rfl) (fun _ _ _ h => h) (Or.inl ⟨by kernel_rfl, ?_⟩) (by assumption) ?_
  case refine_2 => (intro w hSw; go_simp <;> with_reducible rfl)
  simp only [Act.put, List.setIfInBounds_toArray, List.set_cons_zero, List.set_cons_succ]
  refine wpAnyH_ready (rs := [30]) (by kernel_rfl) (by simp) ?_
  refine AllReadyH.cons (o := { dst := some 60, op := Op.call { callee := Callee.value (Operand.func 22), args := #[Operand.tmp 52, Operand.tmp 55, Operand.tmp 58, Operand.tmp 59], argTypes := #[32, 3, 3, 3] }, type := 9, pos := _, after := _, guard := none }) rfl (fun K hK => ?_) AllReadyH.nil
  go_simp
  go_at_call 22
  refine (HI.out X2 Y2 u4 hb0.2.2.1 hb0.2.2.2 (hB1.trans (k4.mono hs))).mono ?_
  rintro e u5 ⟨rfl, hb5⟩
  have k5 : Below w1.heap.size w1 u5 := bstep k4 hb5
  refine hK.out _ _ ⟨(k5.cell (p := ⟨w.heap.size, 0, none⟩) hwl).trans c0, (k5.cell (p := ⟨w.heap.size, 1, none⟩) hwl).trans c1⟩ (fun hHeld5 => ?_)
  clear hK K
  try simp only [Act.put, List.setIfInBounds_toArray, List.set_cons_zero, List.set_cons_succ]
  refine wpAnyH_take (i := 31) (oi := { dst := some 61, op := Op.binOp BinOp.add 9 (Operand.tmp 51) (Operand.tmp 60) 9, type := 9, pos := _, after := _, guard := none }) (v := ?_) rfl (by kernel_rfl) (by kernel_rfl) (by kernel_rfl) (fun _ _ _ h => h) (Or.inl ⟨by kernel_rfl, ?_⟩) (by assumption) ?_
  case refine_2 => (intro w hSw; go_simp <;> with_reducible rfl)
  simp only [Act.put, List.setIfInBounds_toArray, List.set_cons_zero, List.set_cons_succ]
  refine wpAnyH_take (i := 32) (oi := { dst := some 8, op := Op.assign (Operand.tmp 61), type := 9, pos := _, after := _, guard := none }) (v := ?_) rfl (by kernel_rfl) (by kernel_rfl) (by kernel_rfl) (fun _ _ _ h => h) (Or.inl ⟨by kernel_rfl, ?_⟩) (by assumption) ?_
  case refine_2 => (intro w hSw; go_simp <;> with_reducible rfl)
  simp only [Act.put, List.setIfInBounds_toArray, List.set_cons_zero, List.set_cons_succ]
  refine wpAnyH_done (by kernel_rfl) ?_ _
  refine NoPanic.normal ?_
  go_wp2
  go_ret
  refine ⟨?_, hB1.trans (k5.mono hs)⟩
  rw [hcat]
  rfl

theorem byG_le (S : Nat) (f : Nat → Int) : ∀ k x y, (byG S f k x y).length ≤ 3 * 4 ^ k - 1
  | 0, x, y => by simp [byG]
  | k + 1, x, y => by
    have h1 := byG_le S f k x y
    have h2 := byG_le S f k (x + 2 ^ k) y
    have h3 := byG_le S f k x (y + 2 ^ k)
    have h4 := byG_le S f k (x + 2 ^ k) (y + 2 ^ k)
    have hp : 1 ≤ 4 ^ k := Nat.one_le_pow _ _ (by decide)
    have e : 4 ^ (k + 1) = 4 * 4 ^ k := by rw [Nat.pow_succ]; omega
    rw [byG]
    split
    · simp only [List.length_cons, List.length_nil]; omega
    · simp only [List.length_append, List.length_cons]; omega
theorem refBy_any (S g cap N : Nat) (f : Nat → Int) (hS : S ≤ 32) (hv : ∀ i, i < S * S → 0 ≤ f i ∧ f i ≤ 255) (k : Nat) : ∀ (x y : Nat) (w : World), k ≤ 5 → x + 2 ^ k ≤ S → y + 2 ^ k ≤ S → IntsAt w N g (S * S) f →
    Calls Try.prog 22 #[.agg #[.int .i64 (S : Int), .slice (some ⟨g, 0, none⟩) (S * S) cap], .int .i64 (x : Int), .int .i64 (y : Int), .int .i64 ((2 ^ k : Nat) : Int)] w fun e w' =>
      e = .returned (.string (baOf (byG S f k x y))) ∧ Below w.heap.size w w' := by
  induction k with
  | zero =>
    intro x y w _ hx hy hf
    exact refBy_leaf S g cap x y (2 ^ 0) N f w hS hx hy (Nat.le_refl _) hf (one_zero S f x y) (hv _ (by have := idx_lt (i := 0) (j := 0) hx hy (Nat.le_refl _) (Nat.le_refl _); simpa using this))
  | succ k ihk =>
    intro x y w hk hx hy hf
    have h4 : 4 ^ k ≤ 1024 := Nat.le_trans (Nat.pow_le_pow_right (by decide) (show k ≤ 5 by omega)) (by decide)
    have hle := fun a b => byG_le S f k a b
    have hp : 0 < 2 ^ (k + 1) := Nat.two_pow_pos _
    have h2 : 2 ^ (k + 1) = 2 * 2 ^ k := by rw [Nat.pow_succ]; omega
    by_cases ho : OneP S f x y (2 ^ (k + 1))
    · have := refBy_leaf S g cap x y (2 ^ (k + 1)) N f w hS hx hy hp hf ho (hv _ (by have := idx_lt (i := 0) (j := 0) hx hy hp hp; simpa using this))
      rw [byG, if_pos ho]
      exact this
    · rw [byG, if_neg ho]
      generalize byG S f k = L at *
      generalize 2 ^ (k + 1) = n at *
      generalize 2 ^ k = h at *
      exact refBy_node S g cap x y h n N f L w hS h2 hx hy hp hf ho (fun a b => by have := hle a b; omega) fun a b w' ha hb hB => ihk a b w' (by omega) ha hb (hf.below hB)
end Go.Proofs.Ytdpdkjpkehgdnaa
