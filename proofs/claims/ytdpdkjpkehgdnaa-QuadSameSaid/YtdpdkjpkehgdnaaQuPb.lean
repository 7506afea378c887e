/-
  Package quad: parse: a leaf; what is none at once.
-/
import Derived.Test.YtdpdkjpkehgdnaaQuPa
namespace Go.Proofs.Ytdpdkjpkehgdnaa
open Go.RowKit

set_option maxRecDepth 100000 in
set_option maxHeartbeats 1000000 in
theorem parse_leaf (k : Nat) (b : UInt8) (r : List UInt8) (v : Value) (N : Nat) (w : World) (hl : (0 :: b :: r).length ≤ 1000000000) (hb : BAt w N v (0 :: b :: r)) (hN : N ≤ w.heap.size) :
    Calls Try.prog 38 #[v, .int .i64 (sd k)] w (ParsePost k (0 :: b :: r) N w) := by
  obtain ⟨A, cap, hv, hcap, hA, _⟩ : ∃ A cap, v = .slice (some A) (0 :: b :: r : List UInt8).length cap ∧ (0 :: b :: r : List UInt8).length ≤ cap ∧ A.block < N ∧ True := by
    rcases hb with ⟨_, h⟩ | ⟨A, cap, h1, h2, h3, _⟩
    · cases h
    · exact ⟨A, cap, h1, h2, h3 (by simp), trivial⟩
  subst hv
  have h0 := hb.get (j := 0) rfl
  have h1 := hb.get (j := 1) rfl
  rw [show A.add 0 = A by simp [Addr.add]] at h0
  rw [show A.add 1 = ⟨A.block, A.off + 1, none⟩ by simp [Addr.add]] at h1
  have hcut := hb.cut (T := 2) (by simp)
  rw [show A.add 2 = ⟨A.block, A.off + 2, none⟩ by simp [Addr.add]] at hcut
  have HC := hid hcut
  clear hcut
  have HF := hid (front_leaf (k := k) b r)
  have hb255 := b.toNat_lt
  have hn2 : 2 ≤ (0 :: b :: r).length := by simp
  generalize hn : (0 :: b :: r : List UInt8).length = n at *
  clear hb
  have hge : decide ((n : Int) ≥ 2) = true := decide_eq_true (by omega)
  have m0 : (0 : Int) < (n : Int) := by omega
  have m1 : (1 : Int) < (n : Int) := by omega
  have m2 : (2 : Int) ≤ (n : Int) := by omega
  have m3 : (n : Int) ≤ (cap : Int) := by omega
  go_enter Try.func38, Try.ntmps38
  go_upto_region 1 with fail
  obtain ⟨W1, hW1⟩ : ∃ W1, W1 = w.alloc (.cells #[.pointer none, .int .u8 0] 72) := ⟨_, rfl⟩
  rw [← hW1]
  have hB1 : Below w.heap.size w W1 := hW1 ▸ balloc (Below.refl _ _) _
  have hs1 : W1.heap.size = w.heap.size + 1 := by rw [hW1]; simp
  have c0 := (hB1.cell (p := A) (by omega)).trans h0
  have c1 := (hB1.cell (p := ⟨A.block, A.off + 1, none⟩) (by dsimp only; omega)).trans h1
  have r0 : W1.cell? ⟨w.heap.size, 0, none⟩ = some (.pointer none) := by rw [hW1]; simp [go_sem]
  have r1 : W1.cell? ⟨w.heap.size, 1, none⟩ = some (.int .u8 0) := by rw [hW1]; simp [go_sem]
  have f0 : W1.frozen? ⟨w.heap.size, 0, none⟩ = false := by rw [hW1]; simp [go_sem]
  have f1 : W1.frozen? ⟨w.heap.size, 1, none⟩ = false := by rw [hW1]; simp [go_sem]
  clear hW1 h0
  go_wp2_with fail
  have l1 : ∀ w', Below w.heap.size w w' → w'.cell? ⟨A.block, A.off + 1, none⟩ = some (.int .u8 (b.toNat : Int)) := fun w' k => (k.cell (p := ⟨A.block, A.off + 1, none⟩) (by dsimp only; omega)).trans h1
  refine wp_region_noPanic ?_
  refine wp_region_held_drew (S := fun w' => Below w.heap.size w w') (by kernel_rfl) (Below.drew hB1) (fun hHeld => ?_)
  refine wpAnyH_take (i := 0) (oi := { dst := some 22, op := Op.move (Operand.tmp 0), type := 54, pos := _, after := _, guard := none }) (v := ?_) rfl (by kernel_rfl) (by kernel_rfl) (by kernel_rfl) (fun _ _ _ h => h) (Or.inl ⟨by kernel_rfl, ?_⟩) (by assumption) ?_
  case refine_2 => (intro w hSw; go_simp <;> with_reducible rfl)
  simp only [Act.put, List.setIfInBounds_toArray, List.set_cons_zero, List.set_cons_succ]
  refine wpAnyH_take (i := 1) (oi := { dst := some 23, op := Op.indexAddr 54 (Operand.tmp 22) (Operand.const (Value.int IntKind.i64 1)), type := 0, pos := _, after := _, guard := none }) (v := ?_) rfl (by kernel_rfl) (by kernel_rfl) (by kernel_rfl) (fun _ _ _ h => h) (Or.inl ⟨by kernel_rfl, ?_⟩) (by assumption) ?_
  case refine_2 => (intro w hSw; go_simp <;> with_reducible rfl)
  simp only [Act.put, List.setIfInBounds_toArray, List.set_cons_zero, List.set_cons_succ]
  refine wpAnyH_take (i := 2) (oi := { dst := some 24, op := Op.load 5 (Operand.tmp 23), type := 5, pos := _, after := _, guard := none }) (v := ?_) rfl (by kernel_rfl) (by kernel_rfl) (by kernel_rfl) (fun _ _ _ h => h) (Or.inl ⟨by kernel_rfl, ?_⟩) (by assumption) ?_
  case refine_2 => (intro w hSw; go_simp <;> with_reducible rfl)
  simp only [Act.put, List.setIfInBounds_toArray, List.set_cons_zero, List.set_cons_succ]
  refine wpAnyH_take (i := 3) (oi := { dst := some 25, op := Op.build 72 #[(1, Operand.tmp 24)], type := 72, pos := _, after := _, guard := none }) (v := ?_) rfl (by kernel_rfl) (by kernel_rfl) (by kernel_rfl) (fun _ _ _ h => h) (Or.inl ⟨by kernel_rfl, ?_⟩) (by assumption) ?_
  case refine_2 => (intro w hSw; go_simp <;> with_reducible rfl)
  simp only [Act.put, List.setIfInBounds_toArray, List.set_cons_zero, List.set_cons_succ]
  refine wpAnyH_take (i := 4) (oi := { dst := some 26, op := Op.move (Operand.tmp 0), type := 54, pos := _, after := _, guard := none }) (v := ?_) rfl (by kernel_rfl) (by kernel_rfl) (by kernel_rfl) (fun _ _ _ h => h) (Or.inl ⟨by kernel_rfl, ?_⟩) (by assumption) ?_
  case refine_2 => (intro w hSw; go_simp <;> with_reducible rfl)
  simp only [Act.put, List.setIfInBounds_toArray, List.set_cons_zero, List.set_cons_succ]
  refine wpAnyH_take (i := 5) (oi := { dst := some 27, op := Op.slice 54 (Operand.tmp 26) (some (Operand.const (Value.int IntKind.i64 2))) none none, type := 54, pos := _, after := _, guard := none }) (v := ?_) rfl (by kernel_rfl) (by kernel_rfl) (by kernel_rfl) (fun _ _ _ h => h) (Or.inl ⟨by kernel_rfl, ?_⟩) (by assumption) ?_
  case refine_2 => (intro w hSw; go_simp <;> with_reducible rfl)
  simp only [Act.put, List.setIfInBounds_toArray, List.set_cons_zero, List.set_cons_succ]
  generalize (if cap = 2 then some A else some ⟨A.block, A.off + 2, none⟩) = A2 at HC ⊢
  refine wpAnyH_ready (rs := [6]) (by kernel_rfl) (by simp) ?_
  refine AllReadyH.cons (o := { dst := none, op := Op.store 72 (Operand.tmp 4) (Operand.tmp 25), type := 0, pos := _, after := _, guard := none }) rfl (fun K hK => ?_) AllReadyH.nil
  go_simp
  have hs2 : Below w.heap.size w (((W1.setCell ⟨w.heap.size, 0, none⟩ (.pointer none)).setCell ⟨w.heap.size, 1, none⟩ (.int .u8 (b.toNat : Int))).drew) := ((hB1.setCell (p := ⟨w.heap.size, 0, none⟩) (Nat.le_refl _) _).setCell (p := ⟨w.heap.size, 1, none⟩) (Nat.le_refl _) _).drew
  have e1 : (((W1.setCell ⟨w.heap.size, 0, none⟩ (.pointer none)).setCell ⟨w.heap.size, 1, none⟩ (.int .u8 (b.toNat : Int))).drew).cell? ⟨w.heap.size, 1, none⟩ = some (.int .u8 (b.toNat : Int)) := by rw [World.cell?_drew]; exact World.cell?_setCell_same (u := .int .u8 0) _ _ _ (by rw [World.cell?_setCell_other _ _ _ _ (by simp)]; exact r1)
  have e0 : (((W1.setCell ⟨w.heap.size, 0, none⟩ (.pointer none)).setCell ⟨w.heap.size, 1, none⟩ (.int .u8 (b.toNat : Int))).drew).cell? ⟨w.heap.size, 0, none⟩ = some (.pointer none) := by rw [World.cell?_drew, World.cell?_setCell_other _ _ _ _ (by simp)]; exact World.cell?_setCell_same (u := .pointer none) _ _ _ r0
  generalize ((W1.setCell ⟨w.heap.size, 0, none⟩ (.pointer none)).setCell ⟨w.heap.size, 1, none⟩ (.int .u8 (b.toNat : Int))).drew = w2 at hs2 e0 e1 ⊢
  refine hK.out _ _ hs2 (fun _ => ?_)
  clear hK K
  try simp only [Act.put, List.setIfInBounds_toArray, List.set_cons_zero, List.set_cons_succ]
  refine wpAnyH_take (i := 7) (oi := { dst := some 5, op := Op.assign (Operand.tmp 27), type := 54, pos := _, after := _, guard := none }) (v := ?_) rfl (by kernel_rfl) (by kernel_rfl) (by kernel_rfl) (fun _ _ _ h => h) (Or.inl ⟨by kernel_rfl, ?_⟩) (by assumption) ?_
  case refine_2 => (intro w hSw; go_simp <;> with_reducible rfl)
  simp only [Act.put, List.setIfInBounds_toArray, List.set_cons_zero, List.set_cons_succ]
  refine wpAnyH_take (i := 8) (oi := { dst := some 6, op := Op.assign (Operand.const (Value.bool true)), type := 4, pos := _, after := _, guard := none }) (v := ?_) rfl (by kernel_rfl) (by kernel_rfl) (by kernel_rfl) (fun _ _ _ h => h) (Or.inl ⟨by kernel_rfl, ?_⟩) (by assumption) ?_
  case refine_2 => (intro w hSw; go_simp <;> with_reducible rfl)
  simp only [Act.put, List.setIfInBounds_toArray, List.set_cons_zero, List.set_cons_succ]
  refine wpAnyH_done (by kernel_rfl) ?_ _
  refine NoPanic.normal ?_
  go_wp2
  refine bodyPost_ret (v := .tuple #[.agg #[.pointer none, .int .u8 (b.toNat : Int)], .slice A2 (n - 2) (cap - 2), .bool true]) (by simp [results, Try.f38, go_sem, e0, e1]) rfl ⟨hs2, none, (b.toNat : Int), _, .inl ⟨rfl, _, _, HF.out, SqVal.leaf _ _ _ (by omega), HC.out.below (hs2.mono hN)⟩⟩
end Go.Proofs.Ytdpdkjpkehgdnaa
