/-
  Package rect's iterator Tiles: it hands over the tiles row by row, as far as it is asked; none, where the rectangle is not right. No condition but the rectangle's.
-/
import Derived.RangeFuncNested
import Derived.RangeFuncBound
import Derived.RangeFuncCalls
import Derived.RangeFuncLeaves
import Derived.OwnWalkIn
import Derived.TacticsInMore
import Derived.LoopNIn
import Derived.LoopIn
import Derived.Shelf.Abstract
import Derived.Shelf.RegionOpen
import Derived.Test.YtipfngliahhhiaaRectC
import Derived.Test.YtipfngliahhhiaaRectF
namespace Go.Proofs.Ytipfngliahhhiaa
open Go.RowKit Go.Shelf

attribute [local go_sem] Oper.semAt_some

/-- the t-th tile -/
def tileF (x y : Int) (M : Nat) (t : Nat) : Int × Int := (x + ((t % M : Nat) : Int), y + ((t / M : Nat) : Int))
def upto {α : Type} (f : Nat → α) (k : Nat) : List α := (List.range k).map f
theorem upto_length {α : Type} (f : Nat → α) (k : Nat) : (upto f k).length = k := by simp [upto]
theorem upto_succ {α : Type} (f : Nat → α) (k : Nat) : upto f (k + 1) = upto f k ++ [f k] := by simp [upto, List.range_succ]
theorem upto_zero {α : Type} (f : Nat → α) : upto f 0 = [] := rfl
theorem upto_prefix {α : Type} (f : Nat → α) {k n : Nat} (h : k ≤ n) : upto f k <+: upto f n := by
  obtain ⟨d, rfl⟩ := Nat.le.dest h
  refine ⟨(List.range d).map (fun i => f (k + i)), ?_⟩
  simp [upto, List.range_add]
theorem upto_get {α : Type} (f : Nat → α) {k n : Nat} (h : k < n) : (upto f n)[k]? = some (f k) := by simp [upto, h]

theorem tileF_at (x y : Int) {M j : Nat} (k : Nat) (h : j < M) : tileF x y M (k * M + j) = (x + (j : Int), y + (k : Int)) := by
  have h1 : (k * M + j) % M = j := by rw [Nat.mul_comm, Nat.mul_add_mod, Nat.mod_eq_of_lt h]
  have h2 : (k * M + j) / M = k := by rw [Nat.mul_comm, Nat.mul_add_div (by omega), Nat.div_eq_of_lt h]; rfl
  simp [tileF, h1, h2]
theorem row_lt {M N k j : Nat} (hk : k < N) (hj : j < M) : k * M + j < N * M := by
  have h1 : (k + 1) * M ≤ N * M := Nat.mul_le_mul_right M hk
  rw [Nat.succ_mul] at h1
  omega
theorem row_le {M N k j : Nat} (hk : k < N) (hj : j ≤ M) : k * M + j ≤ N * M := by
  have h1 : (k + 1) * M ≤ N * M := Nat.mul_le_mul_right M hk
  rw [Nat.succ_mul] at h1
  omega

theorem abides_below {α : Type} {B : Nat} {J : α → World → Prop} (h : AbidesFrom B J) {s : α} {W W' : World} (hs : J s W) (hb : Below W.heap.size W W') : J s W' :=
  h s W W' none hs ⟨hb.os, hb.tape, hb.output, hb.size, fun k hk _ => hb.block k hk⟩ (fun r e => by cases e)

/-- block B lies as it lay -/
def KeepB (B : Nat) (W W' : World) : Prop := W'.heap[B]? = W.heap[B]?
theorem KeepB.refl (B : Nat) (W : World) : KeepB B W W := rfl
theorem KeepB.trans {B : Nat} {a b c : World} (h : KeepB B a b) (k : KeepB B b c) : KeepB B a c := Eq.trans k h
theorem KeepB.cell {B o : Nat} {W W' : World} (h : KeepB B W W') : W'.cell? ⟨B, o, none⟩ = W.cell? ⟨B, o, none⟩ := World.cell?_of_block (a := ⟨B, o, none⟩) h
theorem keepB_t {B : Nat} {a b c : World} (h : KeepB B a b) (k : KeepB B b c) : KeepB B a c := h.trans k
theorem keepB_b {B : Nat} {w : World} (hn : B < w.heap.size) (W : World) (l : Nat) (o o' : Obj) (hl : w.heap.size ≤ l) (_ : W.heap[l]? = some o) (_ : o.isCells = false) (_ : o.isWalk = false) : KeepB B W (W.putObj l o') :=
  World.putObj_heap_other (by omega)
theorem keepB_set (B : Nat) (W : World) (p : Addr) (hp : B ≠ p.block) (u : Value) : KeepB B W (W.setCell p u) := Below.heap_setCell W p u B hp
theorem keepB_below {B n : Nat} {W W' : World} (h : Below n W W') (hB : B < n) : KeepB B W W' := h.block B hB

abbrev encT (p : Int × Int) : Array Value := #[.int .i64 p.1, .int .i64 p.2]

theorem tiles_any (x y m n : Int) (w : World) :
    Calls Try.prog 23 #[.agg #[.int .i64 x, .int .i64 y, .int .i64 m, .int .i64 n]] w fun e w' => e = .returned (.func (.func 29) #[] #[.pointer (some ⟨w.heap.size, 0, none⟩)]) ∧ w.alloc (.cells #[.int .i64 x, .int .i64 y, .int .i64 m, .int .i64 n] 23) = w' := by
  go_enter Try.func23, Try.ntmps23
  go_wp2
  go_ret
  exact ⟨rfl, rfl⟩

set_option maxHeartbeats 1000000 in
theorem tiles1_yes (nn : Nat) (hn : 1 ≤ nn) (l B : Nat) (x y : Int) (M N : Nat) (J Jx : List (Int × Int) → World → Prop) (W : World) (hBW : B < W.heap.size) (hJ : AbidesFrom W.heap.size J)
    (hr : rightB x y (M : Int) (N : Int) = true)
    (c0 : W.cell? ⟨B, 0, none⟩ = some (.int .i64 x)) (c1 : W.cell? ⟨B, 1, none⟩ = some (.int .i64 y)) (c2 : W.cell? ⟨B, 2, none⟩ = some (.int .i64 (M : Int))) (c3 : W.cell? ⟨B, 3, none⟩ = some (.int .i64 (N : Int)))
    (hY : ∀ pre p W1, J pre W1 → pre.length < N * M → YieldAt Fence.wide (nn - 1) Try.prog l (encT p) W1 fun e W' =>
      (e = .returned (.bool true) ∧ J (pre ++ [p]) W' ∧ KeepB B W1 W') ∨ (e = .returned (.bool false) ∧ Jx (pre ++ [p]) W'))
    (h0 : J [] W) :
    CallsIn Fence.wide nn Try.prog 29 #[.func (.yield l) #[] #[], .pointer (some ⟨B, 0, none⟩)] W fun e W' => (∃ v, e = .returned v) ∧
      ((∃ ys, ys = upto (tileF x y M) (N * M) ∧ J ys W') ∨ (∃ pre, pre <+: upto (tileF x y M) (N * M) ∧ Jx pre W')) := by
  obtain ⟨⟨a1, a2, a3, a4⟩, a5, a6, a7, a8⟩ := of_rightB hr
  refine callsIn_of_wp Try.func29 rfl trivial ?_ rfl
  simp only [Try.ntmps29, List.size_toArray, List.length_cons, List.length_nil, Nat.reduceAdd, Nat.reduceSub, Array.replicate_succ, Array.replicate_zero, List.push_toArray, List.append_toArray, List.nil_append, List.cons_append]
  gi_wp2_with (refine ⟨trivial, ?_⟩; gi_at_call 16; refine (callsIn_wide.2 (right_any _ _ _ _ _)).mono ?_; rintro e w1 ⟨rfl, hb1⟩; have d0 := (hb1.cell (p := ⟨B, 0, none⟩) hBW).trans c0; have d1 := (hb1.cell (p := ⟨B, 1, none⟩) hBW).trans c1; have d2 := (hb1.cell (p := ⟨B, 2, none⟩) hBW).trans c2; have d3 := (hb1.cell (p := ⟨B, 3, none⟩) hBW).trans c3)
  have hJ1 : J [] w1 := abides_below hJ h0 hb1
  have hnb : KeepB B w1 w1 := KeepB.refl _ _
  gi_loopw [10] (fun s10 wr => ∃ k : Nat, k ≤ N ∧ s10 = .int .i64 k ∧ J (upto (tileF x y M) (k * M)) wr ∧ KeepB B w1 wr) (fun s10 _ => N - (intOf s10).toNat)
  case atStart => exact ⟨0, Nat.zero_le _, rfl, by rw [Nat.zero_mul]; exact hJ1, hnb⟩
  case round =>
    obtain ⟨k, hk, rfl, hJs, hnx⟩ := hrel
    obtain ⟨wo, rfl⟩ : ∃ wo : World, wo = wr := ⟨_, rfl⟩
    have e2 : wo.cell? ⟨B, 2, none⟩ = some (.int .i64 (M : Int)) := hnx.cell.trans d2
    by_cases hlt : k < N
    · gi_wp2
      gi_loopw [15] (fun s15 wr => ∃ j : Nat, j ≤ M ∧ s15 = .int .i64 j ∧ J (upto (tileF x y M) (k * M + j)) wr ∧ KeepB B w1 wr) (fun s15 _ => M - (intOf s15).toNat)
      case atStart => exact ⟨0, Nat.zero_le _, rfl, hJs, hnx⟩
      case round =>
        obtain ⟨j, hj, rfl, hJt, hny⟩ := hrel
        have g0 : wr.cell? ⟨B, 0, none⟩ = some (.int .i64 x) := hny.cell.trans d0
        have g1 : wr.cell? ⟨B, 1, none⟩ = some (.int .i64 y) := hny.cell.trans d1
        by_cases hlj : j < M
        · have hlen : (upto (tileF x y M) (k * M + j)).length < N * M := by rw [upto_length]; exact row_lt hlt hlj
          obtain ⟨fn, tmps, assign, body, hy, hR⟩ := hY _ (x + (j : Int), y + (k : Int)) wr hJt hlen
          dsimp only [encT] at hy
          clear hlen
          gi_wp2
          refine hR.mono ?_
          rintro e W3 (⟨rfl, hJ3, hk3⟩ | ⟨rfl, hJx3⟩)
          · gi_wp2
            go_roundw
            case rel => exact ⟨j + 1, by omega, by go_num, by rw [← Nat.add_assoc, upto_succ, tileF_at x y k hlj]; exact hJ3, hny.trans hk3⟩
            case measure => simp [intOf]; omega
          · gi_wp2
            refine bodyPost_ret (results_none rfl _ _ _) rfl ?_
            refine ⟨⟨_, rfl⟩, .inr ⟨_, ?_, hJx3⟩⟩
            rw [← tileF_at x y k hlj, ← upto_succ]
            exact upto_prefix _ (by have := row_lt hlt hlj; omega)
        · obtain rfl : j = M := by omega
          gi_wp2
          go_roundw
          case rel => exact ⟨k + 1, by omega, by go_num, by rw [Nat.succ_mul]; exact hJt, hny⟩
          case measure => simp [intOf]; omega
    · obtain rfl : k = N := by omega
      gi_wp2
      go_end0
      exact ⟨⟨_, rfl⟩, .inl ⟨_, rfl, hJs⟩⟩

set_option maxHeartbeats 1000000 in
theorem tiles1_no (nn : Nat) (hn : 1 ≤ nn) (l B : Nat) (x y m n : Int) (J Jx : List (Int × Int) → World → Prop) (W : World) (hJ : AbidesFrom W.heap.size J)
    (hr : rightB x y m n = false)
    (c0 : W.cell? ⟨B, 0, none⟩ = some (.int .i64 x)) (c1 : W.cell? ⟨B, 1, none⟩ = some (.int .i64 y)) (c2 : W.cell? ⟨B, 2, none⟩ = some (.int .i64 m)) (c3 : W.cell? ⟨B, 3, none⟩ = some (.int .i64 n))
    (h0 : J [] W) :
    CallsIn Fence.wide nn Try.prog 29 #[.func (.yield l) #[] #[], .pointer (some ⟨B, 0, none⟩)] W fun e W' => (∃ v, e = .returned v) ∧
      ((∃ ys, ys = [] ∧ J ys W') ∨ (∃ pre, pre <+: ([] : List (Int × Int)) ∧ Jx pre W')) := by
  refine callsIn_of_wp Try.func29 rfl trivial ?_ rfl
  simp only [Try.ntmps29, List.size_toArray, List.length_cons, List.length_nil, Nat.reduceAdd, Nat.reduceSub, Array.replicate_succ, Array.replicate_zero, List.push_toArray, List.append_toArray, List.nil_append, List.cons_append]
  gi_wp2_with (refine ⟨trivial, ?_⟩; gi_at_call 16; refine (callsIn_wide.2 (right_any _ _ _ _ _)).mono ?_; rintro e w1 ⟨rfl, hb1⟩)
  refine bodyPost_ret (results_none rfl _ _ _) rfl ?_
  exact ⟨⟨_, rfl⟩, .inl ⟨_, rfl, abides_below hJ h0 hb1⟩⟩

theorem tiles_stops_yes (nn : Nat) (hn : 1 ≤ nn) (B : Nat) (x y : Int) (M N : Nat) (w : World) (hBw : B < w.heap.size) (hr : rightB x y (M : Int) (N : Int) = true)
    (c0 : w.cell? ⟨B, 0, none⟩ = some (.int .i64 x)) (c1 : w.cell? ⟨B, 1, none⟩ = some (.int .i64 y)) (c2 : w.cell? ⟨B, 2, none⟩ = some (.int .i64 (M : Int))) (c3 : w.cell? ⟨B, 3, none⟩ = some (.int .i64 (N : Int))) :
    SeqStopsK Fence.wide nn Try.prog 29 #[.pointer (some ⟨B, 0, none⟩)] encT (KeepB B) (fun ys => ys = upto (tileF x y M) (N * M)) (fun pre => pre <+: upto (tileF x y M) (N * M)) (N * M) w := fun l J Jx W hW hJ _ hY h0 =>
  tiles1_yes nn hn l B x y M N J Jx W (Nat.lt_of_lt_of_le hBw hW.size) hJ hr ((hW.cell (p := ⟨B, 0, none⟩) hBw).trans c0) ((hW.cell (p := ⟨B, 1, none⟩) hBw).trans c1) ((hW.cell (p := ⟨B, 2, none⟩) hBw).trans c2) ((hW.cell (p := ⟨B, 3, none⟩) hBw).trans c3) hY h0

theorem tiles_stops_no (nn : Nat) (hn : 1 ≤ nn) (B : Nat) (x y m n : Int) (w : World) (hBw : B < w.heap.size) (hr : rightB x y m n = false)
    (c0 : w.cell? ⟨B, 0, none⟩ = some (.int .i64 x)) (c1 : w.cell? ⟨B, 1, none⟩ = some (.int .i64 y)) (c2 : w.cell? ⟨B, 2, none⟩ = some (.int .i64 m)) (c3 : w.cell? ⟨B, 3, none⟩ = some (.int .i64 n)) :
    SeqStopsK Fence.wide nn Try.prog 29 #[.pointer (some ⟨B, 0, none⟩)] encT (KeepB B) (fun ys => ys = []) (fun pre => pre <+: ([] : List (Int × Int))) 0 w := fun l J Jx W hW hJ _ _ h0 =>
  tiles1_no nn hn l B x y m n J Jx W hJ hr ((hW.cell (p := ⟨B, 0, none⟩) hBw).trans c0) ((hW.cell (p := ⟨B, 1, none⟩) hBw).trans c1) ((hW.cell (p := ⟨B, 2, none⟩) hBw).trans c2) ((hW.cell (p := ⟨B, 3, none⟩) hBw).trans c3) h0
end Go.Proofs.Ytipfngliahhhiaa
