/-
  Package quad: parse: what is none at once.
-/
import Derived.Test.YtdpdkjpkehgdnaaQuPb
namespace Go.Proofs.Ytdpdkjpkehgdnaa
open Go.RowKit

set_option maxRecDepth 100000 in
set_option maxHeartbeats 1000000 in
theorem parse_nil (k : Nat) (v : Value) (N : Nat) (w : World) (hb : BAt w N v []) :
    Calls Try.prog 38 #[v, .int .i64 (sd k)] w (ParsePost k [] N w) := by
  have HF := hid (no_front (k := k) (l := []) (by simp) (.inl rfl))
  rcases hb with ⟨rfl, _⟩ | ⟨A, cap, rfl, _, _, _⟩
  all_goals go_enter Try.func38, Try.ntmps38
  all_goals go_upto_region 4 with fail
  all_goals go_wp2
  all_goals refine bodyPost_ret (v := .tuple #[.agg #[.pointer none, .int .u8 0], .slice none 0 0, .bool false]) (by simp [results, Try.f38, go_sem]) rfl ⟨balloc (Below.refl _ _) _, none, 0, _, .inr ⟨rfl, HF.out⟩⟩

set_option maxRecDepth 100000 in
set_option maxHeartbeats 2000000 in
theorem parse_no (k : Nat) (b : UInt8) (r : List UInt8) (v : Value) (N : Nat) (w : World) (hl : (b :: r).length ≤ 1000000000) (hb : BAt w N v (b :: r)) (hN : N ≤ w.heap.size) (h1 : b ≠ 0 ∨ r = []) (h2 : b ≠ 1 ∨ k = 0) :
    Calls Try.prog 38 #[v, .int .i64 (sd k)] w (ParsePost k (b :: r) N w) := by
  have HF := hid (no_front (k := k) (l := b :: r) (by simp; intro h e; rcases h1 with h1 | h1; · exact h1 e
                                                      · rw [h1] at h; simp at h) (.inr (by simpa using h2)))
  obtain ⟨A, cap, hv, hA⟩ : ∃ A cap, v = .slice (some A) (b :: r : List UInt8).length cap ∧ A.block < N := by
    rcases hb with ⟨_, h⟩ | ⟨A, cap, h1, h2, h3, _⟩
    · cases h
    · exact ⟨A, cap, h1, h3 (by simp)⟩
  subst hv
  have h0 := hb.get (j := 0) rfl
  rw [show A.add 0 = A by simp [Addr.add]] at h0
  have hn1 : 1 ≤ (b :: r).length := by simp
  have hge : (2 ≤ (b :: r).length → ((b.toNat : Int) == 0) = false) := fun h => by
    rcases h1 with h1 | h1
    · have : b.toNat ≠ 0 := fun e => h1 (UInt8.toNat_inj.1 (by simpa using e))
      simp; omega
    · subst h1; simp at h
  have hne : ((b.toNat : Int) == 1) = false ∨ (((b.toNat : Int) == 1) = true ∧ (sd k == 1) = true) := by
    by_cases e : b = 1
    · subst e
      exact .inr ⟨rfl, by rcases h2 with h2 | h2; · exact absurd rfl h2
                          · subst h2; rfl⟩
    · have : b.toNat ≠ 1 := fun e2 => e (UInt8.toNat_inj.1 (by simpa using e2))
      exact .inl (by simp; omega)
  generalize hn : (b :: r : List UInt8).length = n at *
  generalize hz : (b.toNat : Int) = z at *
  clear hb h1 h2 hn hz
  have m0 : (0 : Int) < (n : Int) := by omega
  have n0 : ((n : Int) == 0) = false := by simp; omega
  have c0 : (w.alloc (.cells #[.pointer none, .int .u8 0] 72)).cell? A = some (.int .u8 z) := ((balloc (Below.refl _ _) _).cell (p := A) (by omega)).trans h0
  by_cases hn2 : 2 ≤ n
  · have d0 : decide ((n : Int) ≥ 2) = true := decide_eq_true (by omega)
    have d1 := hge hn2
    clear hge
    rcases hne with hne | ⟨hne, hk1⟩
    all_goals go_enter Try.func38, Try.ntmps38
    all_goals go_wp2
    all_goals refine bodyPost_ret (v := .tuple #[.agg #[.pointer none, .int .u8 0], .slice none 0 0, .bool false]) (by simp [results, Try.f38, go_sem]) rfl ⟨balloc (Below.refl _ _) _, none, 0, _, .inr ⟨rfl, HF.out⟩⟩
  · have d0 : decide ((n : Int) ≥ 2) = false := decide_eq_false (by omega)
    clear hge
    rcases hne with hne | ⟨hne, hk1⟩
    all_goals go_enter Try.func38, Try.ntmps38
    all_goals go_wp2
    all_goals refine bodyPost_ret (v := .tuple #[.agg #[.pointer none, .int .u8 0], .slice none 0 0, .bool false]) (by simp [results, Try.f38, go_sem]) rfl ⟨balloc (Below.refl _ _) _, none, 0, _, .inr ⟨rfl, HF.out⟩⟩
end Go.Proofs.Ytdpdkjpkehgdnaa
