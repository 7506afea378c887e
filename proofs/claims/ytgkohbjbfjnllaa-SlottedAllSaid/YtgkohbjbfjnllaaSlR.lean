/-
  Layer 9's reference: the bytes of a list of texts: for every list that fits its size.
-/
import Derived.Test.YtgkohbjbfjnllaaSlQ
import Derived.Test.YtgkohbjbfjnllaaSlM
namespace Go.Proofs.Ytgkohbjbfjnllaa
open Go.RowKit

theorem rec_two (W : World) (a b : UInt8) (x y : Int) (hx : x = (a.toNat : Int)) (hy : y = (b.toNat : Int)) : RecAt (W.alloc (.cells #[.int .u8 x, .int .u8 y] 5)) (.slice (some ⟨W.heap.size, 0, none⟩) 2 2) [a, b] :=
  .inr ⟨W.heap.size, 0, 2, _, (0, 0), rfl, Nat.le_refl _, heap_alloc_new W _, fun j u hu => by
    rcases j with _ | _ | j
    · simp at hu ⊢
      subst hu
      exact hx
    · simp at hu ⊢
      subst hu
      exact hy
    · simp at hu⟩
theorem rec_one' (W : World) (b : UInt8) (z : Int) (hz : z = (b.toNat : Int)) : RecAt (W.alloc (.cells #[.int .u8 z] 5)) (.slice (some ⟨W.heap.size, 0, none⟩) 1 1) [b] :=
  .inr ⟨W.heap.size, 0, 1, _, (0, 0), rfl, Nat.le_refl _, heap_alloc_new W _, fun j u hu => by
    rcases j with _ | j
    · simp at hu ⊢
      subst hu
      exact hz
    · simp at hu⟩
theorem cv_one (n : Nat) (h : n ≤ 255) (W : World) : (convert 29 9 (.slice (some ⟨W.heap.size, 0, none⟩) 1 1)).run Try.prog (W.alloc (.cells #[.int .u8 (n : Int)] 5)) = .ok (.string (baOf [UInt8.ofNat n])) (W.alloc (.cells #[.int .u8 (n : Int)] 5)) :=
  run_string (rec_one' W (UInt8.ofNat n) _ (by simp; omega))
theorem cv_two (r : Nat) (h : r ≤ 65535) (W : World) : (convert 29 9 (.slice (some ⟨W.heap.size, 0, none⟩) 2 2)).run Try.prog (W.alloc (.cells #[.int .u8 ((r : Int) % 256), .int .u8 ((r : Int) / 256)] 5)) = .ok (.string (baOf (lenB r))) (W.alloc (.cells #[.int .u8 ((r : Int) % 256), .int .u8 ((r : Int) / 256)] 5)) :=
  run_string (rec_two W _ _ _ _ (by simp) (by simp; omega))
theorem cv_two_drew (r : Nat) (h : r ≤ 65535) (W : World) : (convert 29 9 (.slice (some ⟨W.heap.size, 0, none⟩) 2 2)).run Try.prog (W.alloc (.cells #[.int .u8 ((r : Int) % 256), .int .u8 ((r : Int) / 256)] 5)).drew = .ok (.string (baOf (lenB r))) (W.alloc (.cells #[.int .u8 ((r : Int) % 256), .int .u8 ((r : Int) / 256)] 5)).drew :=
  run_string (w := (W.alloc (.cells #[.int .u8 ((r : Int) % 256), .int .u8 ((r : Int) / 256)] 5)).drew) ((rec_two W _ _ _ _ (by simp) (by simp; omega)).same rfl)
theorem add_str (a b : List UInt8) (h : a.length + b.length ≤ 1048576) (W : World) : (binOp BinOp.add 9 (.string (baOf a)) (.string (baOf b))).run Try.prog W = .ok (.string (baOf (a ++ b))) W := by
  have := run_string_add_lists (P := Try.prog) W a b (by omega) (by omega)
  simpa [binOp, baOf] using this
theorem op_add_str (a b : List UInt8) (h : a.length + b.length ≤ 1048576) (W : World) : (Op.stringOp .add (baOf a) (baOf b)).run Try.prog W = .ok (.string (baOf (a ++ b))) W :=
  run_string_add_lists (P := Try.prog) W a b (by omega) (by omega)

/-- the front of the bytes, of the slots told till now -/
theorem frontB_zero (recs : List (List UInt8)) : frontB recs 0 = [UInt8.ofNat recs.length] := rfl

theorem catN_take_le' (recs : List (List UInt8)) (k : Nat) : catN (recs.take k) ≤ catN recs := by
  have h : catB recs = catB (recs.take k) ++ catB (recs.drop k) := by unfold catB; rw [← List.flatten_append, List.take_append_drop]
  unfold catN
  rw [h, List.length_append]
  omega

set_option maxHeartbeats 1000000 in
theorem refBytes_any {B : Nat} (size : Nat) (v : Value) (recs : List (List UInt8)) (w : World) (hx : StrsAt w B v recs) (hb : tot recs ≤ size) (hs : size ≤ 65535) (h63 : recs.length ≤ 255) :
    Calls Try.prog 34 #[v, .int .i64 (size : Int)] w fun e w' => e = .returned (.string (baOf (bytesV size recs))) ∧ Below w.heap.size w w' := by
  obtain ⟨A, c, hv⟩ := hx.form
  subst hv
  have hbs := baOf_size
  have HX := hid hx
  have hk1 := cv_one recs.length h63
  clear hx
  go_enter Try.func34, Try.ntmps34
  go_wp2
  go_loopw [5, 6] (fun s5 s6 wr => ∃ k : Nat, k ≤ recs.length ∧ s6 = .int .i64 k ∧ s5 = .string (baOf (frontB recs k)) ∧ Below w.heap.size w wr) (fun _ s6 _ => recs.length - (intOf s6).toNat)
  case atStart => exact ⟨0, Nat.zero_le _, rfl, rfl, balloc (Below.refl _ _) _⟩
  case round =>
    obtain ⟨k, hk, rfl, rfl, hbw⟩ := hrel
    have HB := hid hbw
    clear hbw hk1
    have hsz : w.heap.size ≤ wr.heap.size := HB.out.size
    by_cases hlt : k < recs.length
    · obtain ⟨g, c', hv⟩ := HX.out.row (by omega)
      injection hv with hA _ hc
      subst hA hc
      have hcell := (HX.out.below HB.out).cell k hlt
      have HF := hid (frontB_succ recs k hlt)
      have hle : recs[k].length ≤ 65535 := by
        have h1 := sumL_take_succ recs k recs[k] (List.getElem?_eq_getElem hlt)
        have h2 := sumL_take_le recs (k + 1)
        unfold tot at hb
        omega
      generalize recs[k] = r at hcell HF hle
      have hk2 := cv_two_drew r.length hle
      have hadd := add_str (frontB recs k) (lenB r.length) (by rw [frontB_length recs k hk]; simp [lenB]; omega)
      have hadd2 := op_add_str (frontB recs k) (lenB r.length) (by rw [frontB_length recs k hk]; simp [lenB]; omega)
      go_wp2
      go_region
      all_goals go_wp2
      all_goals go_roundw
      case rel => exact ⟨k + 1, by omega, by go_num, by rw [HF.out], by have := HB.out.alloc hsz (.cells #[.int .u8 ((r.length : Int) % 256), .int .u8 ((r.length : Int) / 256)] 5); exact this.drew⟩
      case measure => simp [intOf]; omega
    · obtain rfl : k = recs.length := by omega
      have hfl := frontB_length recs recs.length (Nat.le_refl _)
      have hsl : sumL recs = 2 * recs.length + catN recs := sumL_eq recs
      have HSL := hid hsl
      have HFL := hid hfl
      have hle : 1 + (2 * recs.length + catN recs) ≤ size := by unfold tot at hb; omega
      clear hsl hfl
      go_wp2
      go_loop [5, 7] (fun s5 s7 => ∃ k : Nat, k ≤ recs.length ∧ s7 = .int .i64 k ∧ s5 = .string (baOf (frontB recs recs.length ++ catB (recs.take k)))) (fun _ s7 => recs.length - (intOf s7).toNat)
      case atStart => exact ⟨0, Nat.zero_le _, rfl, by simp [catB]⟩
      case round =>
        obtain ⟨k, hk, rfl, rfl⟩ := hrel
        by_cases hlt : k < recs.length
        · obtain ⟨g, c', hv⟩ := HX.out.row (by omega)
          injection hv with hA _ hc
          subst hA hc
          have hcell := (HX.out.below HB.out).cell k hlt
          have HC := hid (catL_succ recs k hlt)
          have hcl := catN_succ recs k hlt
          have hcl2 : catN (recs.take (k + 1)) ≤ catN recs := catN_take_le' recs (k + 1)
          have hadd := op_add_str (frontB recs recs.length ++ catB (recs.take k)) recs[k] (by rw [List.length_append, HFL.out]; have : (catB (recs.take k)).length = catN (recs.take k) := rfl; omega)
          clear hcl hcl2
          generalize recs[k] = r at hcell HC hadd
          go_wp2
          go_round
          case rel => exact ⟨k + 1, by omega, by go_num, by rw [HC.out]⟩
          case measure => simp [intOf]; omega
        · obtain rfl : k = recs.length := by omega
          rw [List.take_length]
          go_wp2
          go_loop [5] (fun s5 => ∃ j : Nat, 1 + (2 * recs.length + catN recs) + j ≤ size ∧ s5 = .string (baOf (frontB recs recs.length ++ catB recs ++ List.replicate j 0))) (fun s5 => match s5 with | .string b => size - b.size | _ => 0)
          case atStart => exact ⟨0, by omega, by simp⟩
          case round =>
            obtain ⟨j, hj, rfl⟩ := hrel
            have hlen : (frontB recs recs.length ++ catB recs ++ List.replicate j (0 : UInt8)).length = 1 + (2 * recs.length + catN recs) + j := by
              rw [List.length_append, List.length_append, HFL.out, List.length_replicate]
              have : (catB recs).length = catN recs := rfl
              omega
            have HJ := hid (show frontB recs recs.length ++ catB recs ++ List.replicate j (0 : UInt8) ++ [0] = frontB recs recs.length ++ catB recs ++ List.replicate (j + 1) 0 by rw [List.append_assoc, ← List.replicate_succ'])
            have hadd := op_add_str (frontB recs recs.length ++ catB recs ++ List.replicate j 0) [0] (by rw [hlen]; simp; omega)
            have hb0 : baOf [0] = ⟨#[0]⟩ := rfl
            rw [hb0] at hadd
            clear hb0
            generalize hX : frontB recs recs.length ++ catB recs ++ List.replicate j (0 : UInt8) = X at hlen HJ hadd ⊢
            have HXX := hid hX
            have HLEN := hid hlen
            clear hX
            by_cases hlt2 : 1 + (2 * recs.length + catN recs) + j < size
            · go_wp2
              go_round
              case rel => exact ⟨j + 1, by omega, by rw [HJ.out]⟩
              case measure =>
                have h1 := baOf_size X
                have h2 := baOf_size (X ++ [0])
                have h3 := HLEN.out
                simp only [List.length_append, List.length_singleton] at h2
                show size - (baOf (X ++ [0])).size < size - (baOf X).size
                omega
            · go_wp2
              go_ret
              have hj2 : size - tot recs = j := by
                have := HSL.out
                unfold tot
                omega
              exact ⟨by rw [bytesV, hj2, HXX.out]; rfl, HB.out⟩
end Go.Proofs.Ytgkohbjbfjnllaa
