/-
  Package quad: right, New, Side, all, and how many squares a quad has.
-/
import Derived.Test.YtdpdkjpkehgdnaaQuA
import Derived.Test.YtdpdkjpkehgdnaaRectA
namespace Go.Proofs.Ytdpdkjpkehgdnaa
open Go.RowKit

def powB (n : Int) : Bool := decide (n = 1) || decide (n = 2) || decide (n = 4) || decide (n = 8) || decide (n = 16) || decide (n = 32) || decide (n = 64) || decide (n = 128) || decide (n = 256)

/-- the quad of a side lies at block g, all of it above N -/
structure QuadAt (W : World) (N g : Nat) (side : Int) (t : Sq) : Prop where
  low : N ≤ g
  lt : g < W.heap.size
  side : W.cell? ⟨g, 0, none⟩ = some (.int .i64 side)
  root : ∃ F, SqAt W t g 1 F ∧ ¬ F g ∧ ∀ c, F c → N ≤ c ∧ c < W.heap.size
theorem QuadAt.below {W W' : World} {N g : Nat} {side : Int} {t : Sq} (h : QuadAt W N g side t) (k : Below W.heap.size W W') : QuadAt W' N g side t :=
  have hs := k.size
  ⟨h.low, Nat.lt_of_lt_of_le h.lt hs, ((bcell k).1 _ _ h.lt).trans h.side, h.root.imp fun _ ⟨h1, h2, h3⟩ => ⟨h1.below k h.lt fun c hc => (h3 c hc).2, h2, fun c hc => ⟨(h3 c hc).1, Nat.lt_of_lt_of_le (h3 c hc).2 hs⟩⟩⟩

theorem side_get (g : Nat) (side : Int) (w : World) (h : w.cell? ⟨g, 0, none⟩ = some (.int .i64 side)) :
    Calls Try.prog 16 #[.pointer (some ⟨g, 0, none⟩)] w fun e w' => e = .returned (.int .i64 side) ∧ Below w.heap.size w w' := by
  go_enter Try.func16, Try.ntmps16
  go_wp2
  go_ret
  refine ⟨rfl, ?_⟩
  repeat' (first | with_reducible assumption | with_reducible refine Below.setCell ?_ ?_ _ | with_reducible refine below_drewN ?_ _ | with_reducible refine Below.drew ?_ | with_reducible refine balloc ?_ _ | with_reducible exact Below.refl _ _ | with_reducible refine bstep ?_ (by assumption) | with_reducible refine Below.alloc ?_ ?_ _ | with_reducible refine bthrough ?_ (by assumption) ?_)
  all_goals (first | omega | (simp; done) | (simp; omega))

theorem all_get (g : Nat) (side : Int) (w : World) (hg : g < w.heap.size) (h : w.cell? ⟨g, 0, none⟩ = some (.int .i64 side)) :
    Calls Try.prog 36 #[.pointer (some ⟨g, 0, none⟩)] w fun e w' => e = .returned (.agg #[.int .i64 0, .int .i64 0, .int .i64 side, .int .i64 side]) ∧ Below w.heap.size w w' := by
  go_enter Try.func36, Try.ntmps36
  go_wp2_with fail
  have hne : g ≠ w.heap.size := by omega
  go_region
  go_wp2
  refine bodyPost_ret (v := .agg #[.int .i64 0, .int .i64 0, .int .i64 side, .int .i64 side]) (by simp [results, Try.results36, go_sem]) rfl ⟨rfl, ?_⟩
  repeat' (first | with_reducible assumption | with_reducible refine Below.setCell ?_ ?_ _ | with_reducible refine below_drewN ?_ _ | with_reducible refine Below.drew ?_ | with_reducible refine balloc ?_ _ | with_reducible exact Below.refl _ _ | with_reducible refine bstep ?_ (by assumption) | with_reducible refine Below.alloc ?_ ?_ _ | with_reducible refine bthrough ?_ (by assumption) ?_)
  all_goals (first | omega | (simp; done) | (simp; omega))

theorem right_no (n : Int) (w : World) (h : n < 1 ∨ 256 < n) :
    Calls Try.prog 33 #[.int .i64 n] w fun e w' => e = .returned (.bool false) ∧ Below w.heap.size w w' := by
  go_enter Try.func33, Try.ntmps33
  rcases h with h | h
  · go_wp2
    go_ret
    refine ⟨rfl, ?_⟩
    repeat' (first | with_reducible assumption | with_reducible refine Below.setCell ?_ ?_ _ | with_reducible refine below_drewN ?_ _ | with_reducible refine Below.drew ?_ | with_reducible refine balloc ?_ _ | with_reducible exact Below.refl _ _ | with_reducible refine bstep ?_ (by assumption) | with_reducible refine Below.alloc ?_ ?_ _ | with_reducible refine bthrough ?_ (by assumption) ?_)
    all_goals (first | omega | (simp; done) | (simp; omega))
  · go_wp2
    go_ret
    refine ⟨rfl, ?_⟩
    repeat' (first | with_reducible assumption | with_reducible refine Below.setCell ?_ ?_ _ | with_reducible refine below_drewN ?_ _ | with_reducible refine Below.drew ?_ | with_reducible refine balloc ?_ _ | with_reducible exact Below.refl _ _ | with_reducible refine bstep ?_ (by assumption) | with_reducible refine Below.alloc ?_ ?_ _ | with_reducible refine bthrough ?_ (by assumption) ?_)
    all_goals (first | omega | (simp; done) | (simp; omega))

theorem and_256 : ∀ n : Fin 257, 1 ≤ n.val → (bits BinOp.and IntKind.i64 (n.val : Int) ((n.val : Int) - 1) == 0) = powB (n.val : Int) := by decide +kernel

theorem right_in (n : Nat) (w : World) (h : 1 ≤ n ∧ n ≤ 256) :
    Calls Try.prog 33 #[.int .i64 (n : Int)] w fun e w' => e = .returned (.bool (powB n)) ∧ Below w.heap.size w w' := by
  have hp := and_256 ⟨n, by omega⟩ h.1
  dsimp only at hp
  go_enter Try.func33, Try.ntmps33
  go_wp2
  go_ret
  refine ⟨rfl, ?_⟩
  repeat' (first | with_reducible assumption | with_reducible refine Below.setCell ?_ ?_ _ | with_reducible refine below_drewN ?_ _ | with_reducible refine Below.drew ?_ | with_reducible refine balloc ?_ _ | with_reducible exact Below.refl _ _ | with_reducible refine bstep ?_ (by assumption) | with_reducible refine Below.alloc ?_ ?_ _ | with_reducible refine bthrough ?_ (by assumption) ?_)
  all_goals (first | omega | (simp; done) | (simp; omega))

theorem powB_bd {n : Int} (h : powB n = true) : 1 ≤ n ∧ n ≤ 256 := by
  simp [powB] at h
  omega
theorem right_any' (n : Int) (w : World) :
    Calls Try.prog 33 #[.int .i64 n] w fun e w' => e = .returned (.bool (powB n)) ∧ Below w.heap.size w w' := by
  by_cases h : 1 ≤ n ∧ n ≤ 256
  · obtain ⟨k, rfl⟩ : ∃ k : Nat, n = k := ⟨n.toNat, by omega⟩
    exact right_in k w (by omega)
  · have hp : powB n = false := by
      cases hb : powB n with
      | false => rfl
      | true => exact absurd (powB_bd hb) h
    rw [hp]
    exact right_no n w (by omega)

theorem new_no (n : Int) (w : World) (h : powB n = false) :
    Calls Try.prog 15 #[.int .i64 n] w fun e w' => e = .returned (.pointer none) ∧ Below w.heap.size w w' := by
  go_enter Try.func15, Try.ntmps15
  go_wp2_with fail
  refine (right_any' _ _).mono ?_
  rintro e w1 ⟨rfl, hbw1⟩
  obtain ⟨hcw1, hfw1⟩ := bcell hbw1
  have hsw1 := hbw1.size
  try simp at hcw1 hfw1 hsw1
  go_wp2
  go_ret
  refine ⟨rfl, ?_⟩
  repeat' (first | with_reducible assumption | with_reducible refine Below.setCell ?_ ?_ _ | with_reducible refine below_drewN ?_ _ | with_reducible refine Below.drew ?_ | with_reducible refine balloc ?_ _ | with_reducible exact Below.refl _ _ | with_reducible refine bstep ?_ (by assumption) | with_reducible refine Below.alloc ?_ ?_ _ | with_reducible refine bthrough ?_ (by assumption) ?_)
  all_goals (first | omega | (simp; done) | (simp; omega))

theorem new_yes (n : Int) (w : World) (h : powB n = true) :
    Calls Try.prog 15 #[.int .i64 n] w fun e w' => (∃ g, e = .returned (.pointer (some ⟨g, 0, none⟩)) ∧ QuadAt w' w.heap.size g n (.leaf 0)) ∧ Below w.heap.size w w' := by
  go_enter Try.func15, Try.ntmps15
  go_wp2_with fail
  refine (right_any' _ _).mono ?_
  rintro e w1 ⟨rfl, hbw1⟩
  have hs := hbw1.size
  go_wp2
  go_ret
  refine ⟨⟨w1.heap.size, rfl, hs, by simp, by simp [go_sem], fun _ => False, ?_, fun h => h, fun _ h => h.elim⟩, ?_⟩
  · refine ⟨?_, ?_, ?_, ?_, by omega, by omega⟩ <;> simp [go_sem]
  · exact (bstep (Below.refl _ _) hbw1).trans ((balloc (Below.refl _ _) _).mono hs)

end Go.Proofs.Ytdpdkjpkehgdnaa
