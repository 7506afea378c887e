/-
  The reference's grid: One: for every grid and square.
-/
import Derived.Test.YtdpdkjpkehgdnaaQuO
import Derived.BigQuiet
namespace Go.Proofs.Ytdpdkjpkehgdnaa
open Go.RowKit

/-- have all tiles of a square one value? -/
def OneP (S : Nat) (f : Nat → Int) (x y n : Nat) : Prop := ∀ i, i < n → ∀ j, j < n → f ((y + i) * S + x + j) = f (y * S + x)

instance (S : Nat) (f : Nat → Int) (x y n : Nat) : Decidable (OneP S f x y n) := by unfold OneP; infer_instance

theorem idx_lt {S x y n i j : Nat} (hx : x + n ≤ S) (hy : y + n ≤ S) (hi : i < n) (hj : j < n) : (y + i) * S + x + j < S * S := by
  have h1 : (y + i + 1) * S ≤ S * S := Nat.mul_le_mul_right S (by omega)
  rw [Nat.succ_mul] at h1
  omega

set_option maxRecDepth 100000 in
set_option maxHeartbeats 2000000 in
theorem refOne_any (S g cap x y n N : Nat) (f : Nat → Int) (w : World) (hS : S ≤ 32) (hx : x + n ≤ S) (hy : y + n ≤ S) (hn : 1 ≤ n) (hf : IntsAt w N g (S * S) f) :
    Calls Try.prog 35 #[.agg #[.int .i64 (S : Int), .slice (some ⟨g, 0, none⟩) (S * S) cap], .int .i64 (x : Int), .int .i64 (y : Int), .int .i64 (n : Int)] w fun e w' =>
      ∃ r : Bool, e = .returned (.bool r) ∧ (r = true ↔ OneP S f x y n) ∧ Below w.heap.size w w' := by
  have hss : S * S ≤ 1024 := Nat.mul_le_mul hS hS
  have hg := hf.lt
  have hcell := hf.cell
  have hidx := fun i j (hi : i < n) (hj : j < n) => idx_lt hx hy hi hj
  have hp0 : y * S + x < S * S := by have := hidx 0 0 (by omega) (by omega); simpa using this
  generalize hT : S * S = T at hss hcell hidx hp0 ⊢
  obtain ⟨p0, hp⟩ : ∃ p0, p0 = y * S + x := ⟨_, rfl⟩
  have HP := hid hp
  obtain ⟨b2, hb2⟩ : ∃ b2 : Int, b2 = (y : Int) * (S : Int) := ⟨_, rfl⟩
  have hyS : y * S ≤ T := by omega
  have hw5 : IntKind.i64.wrap ((y : Int) * (S : Int)) = b2 := by
    rw [hb2, IntWalk.i64_in _ (by rw [← Int.natCast_mul]; omega)]
  have hw6 : IntKind.i64.wrap (b2 + (x : Int)) = (p0 : Int) := by
    rw [hb2, hp, ← Int.natCast_mul, IntWalk.i64_in _ (by omega)]
    omega
  rw [← hp] at hp0
  have e0 := hcell p0 hp0
  have HC := hid hcell
  clear hb2 hp hcell
  go_enter Try.func35, Try.ntmps35
  go_wp2_with fail
  obtain ⟨W1, hW1⟩ : ∃ W1, W1 = w.alloc (.cells #[.int .i64 (S : Int), .slice (some ⟨g, 0, none⟩) T cap] 32) := ⟨_, rfl⟩
  rw [← hW1]
  have c0 : W1.cell? ⟨w.heap.size, 0, none⟩ = some (.int .i64 (S : Int)) := by rw [hW1]; simp [go_sem]
  have c1 : W1.cell? ⟨w.heap.size, 1, none⟩ = some (.slice (some ⟨g, 0, none⟩) T cap) := by rw [hW1]; simp [go_sem]
  have hB1 : Below w.heap.size w W1 := hW1 ▸ balloc (Below.refl _ _) _
  have hsz : w.heap.size + 1 ≤ W1.heap.size := by rw [hW1]; simp
  have ew : ∀ j, W1.cell? ⟨g, j, none⟩ = w.cell? ⟨g, j, none⟩ := fun j => (bcell hB1).1 _ _ hg
  have d0 := (ew p0).trans e0
  have HD := hid (fun j (hj : j < T) => (ew j).trans (HC.out j hj))
  clear hW1 ew e0
  go_loopw [9] (fun s9 wr => ∃ i : Nat, i ≤ n ∧ s9 = .int .i64 (i : Int) ∧ (∀ i', i' < i → ∀ j, j < n → f ((y + i') * S + x + j) = f (y * S + x)) ∧ Below W1.heap.size W1 wr) (fun s9 _ => n - (intOf s9).toNat)
  case atStart => exact ⟨0, Nat.zero_le _, rfl, fun _ h => absurd h (Nat.not_lt_zero _), Below.refl _ _⟩
  case round =>
    obtain ⟨i, hi, rfl, hall, hB⟩ := hrel
    obtain ⟨wo, rfl⟩ : ∃ wo : World, wo = wr := ⟨_, rfl⟩
    have HA := hid hall
    clear hall
    by_cases hlt : i < n
    · go_wp2_with fail
      go_loopw [10] (fun s10 wr => ∃ j : Nat, j ≤ n ∧ s10 = .int .i64 (j : Int) ∧ (∀ j', j' < j → f ((y + i) * S + x + j') = f (y * S + x)) ∧ Below W1.heap.size W1 wr) (fun s10 _ => n - (intOf s10).toNat)
      case atStart => exact ⟨0, Nat.zero_le _, rfl, fun _ h => absurd h (Nat.not_lt_zero _), hB⟩
      case round =>
        obtain ⟨j, hj, rfl, hrow, hBr⟩ := hrel
        have HR := hid hrow
        clear hrow
        have hsr := hBr.size
        by_cases hlj : j < n
        · obtain ⟨p, hp⟩ : ∃ p, p = (y + i) * S + x + j := ⟨_, rfl⟩
          have hpT := hidx i j hlt hlj
          rw [← hp] at hpT
          have HPP := hid hp
          obtain ⟨a1, ha1⟩ : ∃ a1 : Int, a1 = (y : Int) + (i : Int) := ⟨_, rfl⟩
          obtain ⟨a2, ha2⟩ : ∃ a2 : Int, a2 = a1 * (S : Int) := ⟨_, rfl⟩
          obtain ⟨a3, ha3⟩ : ∃ a3 : Int, a3 = a2 + (x : Int) := ⟨_, rfl⟩
          have ha2' : a2 = (((y + i) * S : Nat) : Int) := by rw [ha2, ha1, Int.natCast_mul, Int.natCast_add]
          have hlen : (y + i) * S ≤ T := by omega
          have hw1 : IntKind.i64.wrap ((y : Int) + (i : Int)) = a1 := by rw [ha1]; exact IntWalk.i64_in _ (by omega)
          have hw2 : IntKind.i64.wrap (a1 * (S : Int)) = a2 := by rw [← ha2]; exact IntWalk.i64_in _ (by omega)
          have hw3 : IntKind.i64.wrap (a2 + (x : Int)) = a3 := by rw [← ha3]; exact IntWalk.i64_in _ (by omega)
          have hw4 : IntKind.i64.wrap (a3 + (j : Int)) = (p : Int) := by rw [IntWalk.i64_in _ (by omega)]; omega
          have f0 := ((bcell hBr).1 w.heap.size 0 (by omega)).trans c0
          have f1 := ((bcell hBr).1 w.heap.size 1 (by omega)).trans c1
          have f2 := ((bcell hBr).1 g p0 (by omega)).trans d0
          have f3 := ((bcell hBr).1 g p (by omega)).trans (HD.out p hpT)
          clear ha1 ha2 ha2' ha3 hp hlen
          have hfp : f p = f p0 ↔ f ((y + i) * S + x + j) = f (y * S + x) := by rw [HPP.out, HP.out]
          have HF := hid hfp
          clear hfp
          generalize f p = u at f3 HF
          generalize f p0 = u0 at f2 HF
          cases hne : u != u0 with
          | true =>
            go_wp2_with fail
            go_quiet (fail)
            go_wp2
            go_ret
            exact ⟨false, rfl, ⟨fun h => (by cases h), fun ho => absurd (HF.out.2 (ho i hlt j hlj)) (by simpa using hne)⟩, hB1.trans ((below_drewN hBr _).mono (by omega))⟩
          | false =>
            go_wp2_with fail
            go_quiet (fail)
            go_wp2_with fail
            go_roundw
            case rel => exact ⟨j + 1, by omega, by go_num, fun j' hj' => by
              by_cases e : j' = j
              · subst e; exact HF.out.1 (by simpa using hne)
              · exact HR.out j' (by omega), below_drewN hBr _⟩
            case measure => simp [intOf]; omega
        · obtain rfl : j = n := by omega
          go_wp2_with fail
          go_roundw
          case rel => exact ⟨i + 1, by omega, by go_num, fun i' hi' => by
            by_cases e : i' = i
            · subst e; exact HR.out
            · exact HA.out i' (by omega), hBr⟩
          case measure => simp [intOf]; omega
    · obtain rfl : i = n := by omega
      go_wp2
      go_ret
      exact ⟨true, rfl, ⟨fun _ => HA.out, fun _ => rfl⟩, hB1.trans (hB.mono (by omega))⟩
end Go.Proofs.Ytdpdkjpkehgdnaa
