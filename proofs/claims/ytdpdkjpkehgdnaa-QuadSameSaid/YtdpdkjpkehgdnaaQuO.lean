/-
  The law's helpers (of quad): sides, within; the reference's grid: New, Set. A grid's values are a function of the tile's number.
-/
import Derived.Test.YtdpdkjpkehgdnaaQuN
import Derived.Test.YtdpdkjpkehgdnaaRectF
import Derived.OwnWalk
import Derived.Deep.OwnRows
namespace Go.Proofs.Ytdpdkjpkehgdnaa
open Go.RowKit

theorem infoI : (Try.prog.info? 3).map (fun i => (i.zero, i.size, i.bytes)) = some (some (.int .i64 0), 1, 8) := by kernel_rfl

def sidesV (n : Int) : Int := if n < 0 ∨ 5 < n then 0 else ((2 ^ n.toNat : Nat) : Int)
theorem sides_no (n : Int) (w : World) (h : n < 0 ∨ 5 < n) :
    Calls Try.prog 8 #[.int .i64 n] w fun e w' => e = .returned (.int .i64 0) ∧ Below w.heap.size w w' := by
  go_enter Try.func8, Try.ntmps8
  rcases h with h | h
  · go_wp2
    go_ret
    exact ⟨rfl, Below.refl _ _⟩
  · go_wp2
    go_ret
    exact ⟨rfl, Below.refl _ _⟩
theorem w64_pow : ∀ i : Fin 9, wrap64 ((2 : Int) ^ i.val) = ((2 ^ i.val : Nat) : Int) := by decide +kernel
theorem sides_yes (k : Nat) (w : World) (h : k ≤ 5) :
    Calls Try.prog 8 #[.int .i64 (k : Int)] w fun e w' => e = .returned (.int .i64 (sd k)) ∧ Below w.heap.size w w' := by
  have hw := w64_pow ⟨k, by omega⟩
  dsimp only at hw
  go_enter Try.func8, Try.ntmps8
  go_wp2
  go_ret
  exact ⟨by rw [hw]; rfl, Below.refl _ _⟩

/-- are all tiles of a rectangle of the square of a side? -/
def withinB (x y m n s : Int) : Bool := rightB x y m n && decide (x + m ≤ s) && decide (y + n ≤ s)
set_option maxHeartbeats 1000000 in
theorem within_any (x y m n s : Int) (w : World) :
    Calls Try.prog 29 #[.agg #[.int .i64 x, .int .i64 y, .int .i64 m, .int .i64 n], .int .i64 s] w fun e w' => e = .returned (.bool (withinB x y m n s)) ∧ Below w.heap.size w w' := by
  cases h : rightB x y m n with
  | false =>
    go_enter Try.func29, Try.ntmps29
    go_wp2_with fail
    refine (refRight_any _ _ _ _ _).mono ?_
    rintro e w1 ⟨rfl, hbw1⟩
    obtain ⟨hcw1, hfw1⟩ := bcell hbw1
    have hsw1 := hbw1.size
    try simp at hcw1 hfw1 hsw1
    have lw1_0 : w.heap.size < w1.heap.size := by omega
    rw [h]
    go_wp2
    go_ret
    refine ⟨ret_bool (by simp [withinB, h]), ?_⟩
    repeat' (first | with_reducible assumption | with_reducible refine Below.setCell ?_ ?_ _ | with_reducible refine below_drewN ?_ _ | with_reducible refine Below.drew ?_ | with_reducible refine balloc ?_ _ | with_reducible exact Below.refl _ _ | with_reducible refine bstep ?_ (by assumption) | with_reducible refine Below.alloc ?_ ?_ _ | with_reducible refine bthrough ?_ (by assumption) ?_)
    all_goals (first | omega | (simp; done) | (simp; omega))
  | true =>
    obtain ⟨⟨a1, a2, a3, a4⟩, a5, a6, a7, a8⟩ := of_rightB h
    go_enter Try.func29, Try.ntmps29
    go_wp2_with fail
    refine (refRight_any _ _ _ _ _).mono ?_
    rintro e w1 ⟨rfl, hbw1⟩
    obtain ⟨hcw1, hfw1⟩ := bcell hbw1
    have hsw1 := hbw1.size
    try simp at hcw1 hfw1 hsw1
    have lw1_0 : w.heap.size < w1.heap.size := by omega
    rw [h]
    go_wp2
    all_goals go_ret
    all_goals refine ⟨ret_bool (by rw [Bool.eq_iff_iff]; simp [withinB, h]; omega), ?_⟩
    repeat' (first | with_reducible assumption | with_reducible refine Below.setCell ?_ ?_ _ | with_reducible refine below_drewN ?_ _ | with_reducible refine Below.drew ?_ | with_reducible refine balloc ?_ _ | with_reducible exact Below.refl _ _ | with_reducible refine bstep ?_ (by assumption) | with_reducible refine Below.alloc ?_ ?_ _ | with_reducible refine bthrough ?_ (by assumption) ?_)
    all_goals (first | omega | (simp; done) | (simp; omega))

/-- the numbers f 0, f 1 .. lie at block g, above N -/
structure IntsAt (w : World) (N g n : Nat) (f : Nat → Int) : Prop where
  low : N ≤ g
  lt : g < w.heap.size
  cell : ∀ j, j < n → w.cell? ⟨g, j, none⟩ = some (.int .i64 (f j))
theorem IntsAt.below {w w' : World} {N g n : Nat} {f : Nat → Int} (h : IntsAt w N g n f) (k : Below w.heap.size w w') : IntsAt w' N g n f :=
  ⟨h.low, Nat.lt_of_lt_of_le h.lt k.size, fun j hj => ((bcell k).1 _ _ h.lt).trans (h.cell j hj)⟩
theorem IntsAt.below' {w w' : World} {N B g n : Nat} {f : Nat → Int} (h : IntsAt w N g n f) (k : Below B w w') (hg : g < B) : IntsAt w' N g n f :=
  ⟨h.low, Nat.lt_of_lt_of_le h.lt k.size, fun j hj => (k.cell (p := ⟨g, j, none⟩) hg).trans (h.cell j hj)⟩
theorem IntsAt.imp' {w : World} {N N' g n : Nat} {f : Nat → Int} (h : IntsAt w N g n f) (hN : N' ≤ N) : IntsAt w N' g n f := ⟨Nat.le_trans hN h.low, h.lt, h.cell⟩
/-- a grid of the side s whose values are f's -/
def GridIs (w : World) (N s : Nat) (f : Nat → Int) (v : Value) : Prop := ∃ g cap, v = .agg #[.int .i64 (s : Int), .slice (some ⟨g, 0, none⟩) (s * s) cap] ∧ IntsAt w N g (s * s) f
theorem GridIs.below {w w' : World} {N s : Nat} {f : Nat → Int} {v : Value} (h : GridIs w N s f v) (k : Below w.heap.size w w') : GridIs w' N s f v := by
  obtain ⟨g, cap, h1, h2⟩ := h
  exact ⟨g, cap, h1, h2.below k⟩
def ints (f : Nat → Int) (k : Nat) : List Value := (List.range k).map fun i => Value.int .i64 (f i)
theorem ints_succ (f : Nat → Int) (k : Nat) : ints f (k + 1) = ints f k ++ [.int .i64 (f k)] := by simp [ints, List.range_succ]
theorem ints_length (f : Nat → Int) (k : Nat) : (ints f k).length = k := by simp [ints]
theorem ints_get (f : Nat → Int) {k j : Nat} (h : j < k) : (ints f k)[j]? = some (.int .i64 (f j)) := by simp [ints, h]

set_option maxHeartbeats 1000000 in
theorem refNew_any (s : Nat) (w : World) (h : 1 ≤ s ∧ s ≤ 32) :
    Calls Try.prog 24 #[.int .i64 (s : Int)] w fun e w' => ∃ v, e = .returned v ∧ GridIs w' w.heap.size s (fun _ => 0) v ∧ Below w.heap.size w w' := by
  have hss : s * s ≤ 1024 := Nat.mul_le_mul h.2 h.2
  have hmk := run_make_row' (P := Try.prog) 30 3 (.int .i64 0) 8 Try.underlying30 infoI rfl .i64 .i64 (s * s) (by omega) (by omega)
  have hw : IntKind.i64.wrap ((s : Int) * (s : Int)) = ((s * s : Nat) : Int) := by
    rw [IntWalk.i64_in _ (by rw [← Int.natCast_mul]; omega)]
    simp
  generalize hN : s * s = n at hmk hss hw
  go_enter Try.func24, Try.ntmps24
  go_wp2
  refine bodyPost_ret (v := .agg #[.int .i64 (s : Int), .slice (some ⟨w.heap.size + 1, 0, none⟩) n n]) (by simp [results, Try.f24, go_sem]) rfl ⟨_, rfl, ⟨w.heap.size + 1, n, by rw [hN], ⟨by omega, by simp, fun j hj => ?_⟩⟩, ?_⟩
  rw [hN] at hj
  · simp [go_sem, madeCells, hj, Nat.mod_one]
  · exact balloc (balloc (Below.refl _ _) _) _

theorem own_form {w : World} {b : Nat} {e : TypeId} {size : Nat} {v : Value} {n : Nat} {xs : List Value} (h : w.ownsRow b e size v n xs) : ∃ A c, v = .slice A n c := by
  obtain ⟨h1, ⟨h2, h3⟩ | ⟨g, cap, cur, h2, r⟩⟩ := h
  · exact ⟨none, 0, by rw [h2, h3]⟩
  · exact ⟨_, _, h2⟩

theorem one_new (w : World) (v : Value) (t : TypeId) : ∀ (j : Nat) (u : Value), [v][j]? = some u → (w.alloc (.cells #[v] t)).cell? ((⟨w.heap.size, 0, none⟩ : Addr).add j) = some u := by
  intro j u hu
  rcases j with _ | j
  · simp at hu
    subst hu
    simp [go_sem]
  · simp at hu

/-- the values behind a reference Set -/
def setF (s : Nat) (x y m n v : Int) (f : Nat → Int) (i : Nat) : Int := if x ≤ ((i % s : Nat) : Int) ∧ ((i % s : Nat) : Int) < x + m ∧ y ≤ ((i / s : Nat) : Int) ∧ ((i / s : Nat) : Int) < y + n then v else f i

set_option maxHeartbeats 2000000 in
theorem refSet_any (s : Nat) (x y m n v : Int) (N g cap : Nat) (f : Nat → Int) (w : World) (h : 1 ≤ s ∧ s ≤ 32) (hf : IntsAt w N g (s * s) f) (hx : 0 ≤ x ∧ x ≤ 256) (hy : 0 ≤ y ∧ y ≤ 256) (hm : 0 ≤ m ∧ m ≤ 256) (hn : 0 ≤ n ∧ n ≤ 256) :
    Calls Try.prog 25 #[.agg #[.int .i64 (s : Int), .slice (some ⟨g, 0, none⟩) (s * s) cap], .int .i64 x, .int .i64 y, .int .i64 m, .int .i64 n, .int .i64 v] w fun e w' =>
      ∃ vg, e = .returned vg ∧ GridIs w' w.heap.size s (setF s x y m n v f) vg ∧ Below w.heap.size w w' := by
  have hss : s * s ≤ 1024 := Nat.mul_le_mul h.2 h.2
  have hs1 : 1 ≤ s * s := Nat.mul_le_mul h.1 h.1
  have hlow := hf.lt
  have hcell := hf.cell
  generalize hN : s * s = T at hf hss hs1 hcell ⊢
  obtain ⟨i0, hi, hz0, hz1, hz2⟩ := info_parts infoI
  go_enter Try.func25, Try.ntmps25
  go_wp2_with fail
  obtain ⟨W1, hW1⟩ : ∃ W1, W1 = (w.alloc (.cells #[.int .i64 (s : Int), .slice (some ⟨g, 0, none⟩) T cap] 32)).alloc (.cells #[.int .i64 0, .slice none 0 0] 32) := ⟨_, rfl⟩
  rw [← hW1]
  have b0 : W1.cell? ⟨w.heap.size, 0, none⟩ = some (.int .i64 (s : Int)) := by rw [hW1]; simp [go_sem]
  have b1 : W1.cell? ⟨w.heap.size, 1, none⟩ = some (.slice (some ⟨g, 0, none⟩) T cap) := by rw [hW1]; simp [go_sem]
  have b2 : W1.cell? ⟨w.heap.size + 1, 0, none⟩ = some (.int .i64 0) := by rw [hW1]; simp [go_sem]
  have b3 : W1.cell? ⟨w.heap.size + 1, 1, none⟩ = some (.slice none 0 0) := by rw [hW1]; simp [go_sem]
  have b4 : W1.frozen? ⟨w.heap.size + 1, 0, none⟩ = false := by rw [hW1]; simp [go_sem]
  have b5 : W1.frozen? ⟨w.heap.size + 1, 1, none⟩ = false := by rw [hW1]; simp [go_sem]
  have hB1 : Below w.heap.size w W1 := hW1 ▸ balloc (balloc (Below.refl _ _) _) _
  have hsz : w.heap.size + 2 ≤ W1.heap.size := by rw [hW1]; simp
  clear hW1
  go_loopw [13, 14] (fun s13 s14 wr => ∃ i : Nat, i ≤ T ∧ s14 = .int .i64 (i : Int) ∧ wr.ownsRow W1.heap.size 3 1 s13 i (ints (setF s x y m n v f) i) ∧ Below W1.heap.size W1 wr) (fun _ s14 _ => T - (intOf s14).toNat)
  case atStart =>
    exact ⟨0, Nat.zero_le _, rfl, World.ownsRow_nil _ _ _ _, Below.refl _ _⟩
  case round =>
    obtain ⟨i, hiT, rfl, hown, hB⟩ := hrel
    have hsr := hB.size
    have e0 := ((bcell hB).1 w.heap.size 0 (by omega)).trans b0
    have e1 := ((bcell hB).1 w.heap.size 1 (by omega)).trans b1
    obtain ⟨A2, c2, hs13⟩ := own_form hown
    subst hs13
    have HO := hid hown
    clear hown
    by_cases hlt : i < T
    · have ec := ((bcell (hB1.trans (hB.mono (by omega)))).1 g i hlow).trans (hcell i hlt)
      have hsp : (s : Int) ≠ 0 := by omega
      obtain ⟨a0, ha0⟩ : ∃ a0 : Int, a0 = ((i % s : Nat) : Int) := ⟨_, rfl⟩
      obtain ⟨r0, hr0⟩ : ∃ r0 : Int, r0 = ((i / s : Nat) : Int) := ⟨_, rfl⟩
      have hrem : (i : Int) % (s : Int) = a0 := by rw [ha0]; simp
      have hquo : (i : Int) / (s : Int) = r0 := by rw [hr0]; simp
      have hw1 : IntKind.i64.wrap (x + m) = x + m := IntWalk.i64_in _ (by omega)
      have hw2 : IntKind.i64.wrap (y + n) = y + n := IntWalk.i64_in _ (by omega)
      have hset0 : setF s x y m n v f i = if x ≤ a0 ∧ a0 < x + m ∧ y ≤ r0 ∧ r0 < y + n then v else f i := by rw [ha0, hr0]; rfl
      have hr1 : 0 ≤ r0 ∧ r0 ≤ 1024 := by
        have h9 := Nat.div_le_self i s
        generalize i / s = z at hr0 h9
        omega
      have hw3 : wrap64 r0 = r0 := by
        unfold wrap64
        omega
      clear ha0 hr0
      by_cases hc : x ≤ a0 ∧ a0 < x + m ∧ y ≤ r0 ∧ r0 < y + n
      · have hset : setF s x y m n v f i = v := by rw [hset0, if_pos hc]
        obtain ⟨p1, p2, p3, p4⟩ := hc
        clear hset0
        go_wp2_with (first
          | (at_builtin; go_loud (refine wpList_append_own _ rfl (.tmp 54) (.tmp 56) 30 rfl W1.heap.size 3 i0 (.int .i64 0) 1 8 Try.underlying30 hi hz0 hz1 hz2 rfl (by decide) _ _ _ rfl (HO.out.alloc _) ⟨wr.heap.size, 0, none⟩ 1 1 [.int .i64 v] rfl rfl (one_new _ _ _) (by simp [Value.oneCell']) (by unfold maxLen; omega) (by omega) (by simp; omega) ?_)))
        intro v' w2 hown2 hgrow _
        have HO2 := hid hown2
        have HB2 : Hid (Below W1.heap.size W1 w2) := hid ((hB.alloc hsr _).grown hgrow (by simp; omega) (fun k hk => (HO.out.lt k hk).1))
        clear hown2 hgrow
        go_wp2
        go_roundw
        case rel => exact ⟨i + 1, by omega, by go_num, by rw [ints_succ, hset]; exact HO2.out, HB2.out⟩
        case measure => simp [intOf]; omega
      · have hset : setF s x y m n v f i = f i := by rw [hset0, if_neg hc]
        clear hset0
        have hways : (¬ x ≤ a0) ∨ (x ≤ a0 ∧ ¬ a0 < x + m) ∨ (x ≤ a0 ∧ a0 < x + m ∧ ¬ y ≤ r0) ∨ (x ≤ a0 ∧ a0 < x + m ∧ y ≤ r0 ∧ ¬ r0 < y + n) := by omega
        clear hc
        rcases hways with p1 | ⟨p1, p2⟩ | ⟨p1, p2, p3⟩ | ⟨p1, p2, p3, p4⟩
        · have q1 : decide (x ≤ a0) = false := by simpa using p1
          go_wp2_with (first
            | (at_builtin; go_loud (refine wpList_append_own _ rfl (.tmp 58) (.tmp 64) 30 rfl W1.heap.size 3 i0 (.int .i64 0) 1 8 Try.underlying30 hi hz0 hz1 hz2 rfl (by decide) _ _ _ rfl (HO.out.alloc _) ⟨wr.heap.size, 0, none⟩ 1 1 [.int .i64 (f i)] rfl rfl (one_new _ _ _) (by simp [Value.oneCell']) (by unfold maxLen; omega) (by omega) (by simp; omega) ?_)))
          intro v' w2 hown2 hgrow _
          have HO2 := hid hown2
          have HB2 : Hid (Below W1.heap.size W1 w2) := hid ((hB.alloc hsr _).grown hgrow (by simp; omega) (fun k hk => (HO.out.lt k hk).1))
          clear hown2 hgrow
          go_wp2
          go_roundw
          case rel => exact ⟨i + 1, by omega, by go_num, by rw [ints_succ, hset]; exact HO2.out, HB2.out⟩
          case measure => simp [intOf]; omega
        · have q1 : decide (a0 < x + m) = false := by simpa using p2
          go_wp2_with (first
            | (at_builtin; go_loud (refine wpList_append_own _ rfl (.tmp 58) (.tmp 64) 30 rfl W1.heap.size 3 i0 (.int .i64 0) 1 8 Try.underlying30 hi hz0 hz1 hz2 rfl (by decide) _ _ _ rfl (HO.out.alloc _) ⟨wr.heap.size, 0, none⟩ 1 1 [.int .i64 (f i)] rfl rfl (one_new _ _ _) (by simp [Value.oneCell']) (by unfold maxLen; omega) (by omega) (by simp; omega) ?_)))
          intro v' w2 hown2 hgrow _
          have HO2 := hid hown2
          have HB2 : Hid (Below W1.heap.size W1 w2) := hid ((hB.alloc hsr _).grown hgrow (by simp; omega) (fun k hk => (HO.out.lt k hk).1))
          clear hown2 hgrow
          go_wp2
          go_roundw
          case rel => exact ⟨i + 1, by omega, by go_num, by rw [ints_succ, hset]; exact HO2.out, HB2.out⟩
          case measure => simp [intOf]; omega
        · have q1 : decide (y ≤ r0) = false := by simpa using p3
          go_wp2_with (first
            | (at_builtin; go_loud (refine wpList_append_own _ rfl (.tmp 58) (.tmp 64) 30 rfl W1.heap.size 3 i0 (.int .i64 0) 1 8 Try.underlying30 hi hz0 hz1 hz2 rfl (by decide) _ _ _ rfl (HO.out.alloc _) ⟨wr.heap.size, 0, none⟩ 1 1 [.int .i64 (f i)] rfl rfl (one_new _ _ _) (by simp [Value.oneCell']) (by unfold maxLen; omega) (by omega) (by simp; omega) ?_)))
          intro v' w2 hown2 hgrow _
          have HO2 := hid hown2
          have HB2 : Hid (Below W1.heap.size W1 w2) := hid ((hB.alloc hsr _).grown hgrow (by simp; omega) (fun k hk => (HO.out.lt k hk).1))
          clear hown2 hgrow
          go_wp2
          go_roundw
          case rel => exact ⟨i + 1, by omega, by go_num, by rw [ints_succ, hset]; exact HO2.out, HB2.out⟩
          case measure => simp [intOf]; omega
        · have q1 : decide (r0 < y + n) = false := by simpa using p4
          go_wp2_with (first
            | (at_builtin; go_loud (refine wpList_append_own _ rfl (.tmp 58) (.tmp 64) 30 rfl W1.heap.size 3 i0 (.int .i64 0) 1 8 Try.underlying30 hi hz0 hz1 hz2 rfl (by decide) _ _ _ rfl (HO.out.alloc _) ⟨wr.heap.size, 0, none⟩ 1 1 [.int .i64 (f i)] rfl rfl (one_new _ _ _) (by simp [Value.oneCell']) (by unfold maxLen; omega) (by omega) (by simp; omega) ?_)))
          intro v' w2 hown2 hgrow _
          have HO2 := hid hown2
          have HB2 : Hid (Below W1.heap.size W1 w2) := hid ((hB.alloc hsr _).grown hgrow (by simp; omega) (fun k hk => (HO.out.lt k hk).1))
          clear hown2 hgrow
          go_wp2
          go_roundw
          case rel => exact ⟨i + 1, by omega, by go_num, by rw [ints_succ, hset]; exact HO2.out, HB2.out⟩
          case measure => simp [intOf]; omega
    · obtain rfl : i = T := by omega
      have e2 := ((bcell hB).1 (w.heap.size + 1) 0 (by omega)).trans b2
      have e3 := ((bcell hB).1 (w.heap.size + 1) 1 (by omega)).trans b3
      have e4 := ((bcell hB).2 (w.heap.size + 1) 0 (by omega)).trans b4
      have e5 := ((bcell hB).2 (w.heap.size + 1) 1 (by omega)).trans b5
      obtain ⟨h1, ⟨h2, h3⟩ | ⟨g', cap', cur, h2, h3, hh, hn', hm', hsc, htk⟩⟩ := HO.out
      · injection h2 with h2 h4
        omega
      · injection h2 with h2 _ h4
        subst h2 h4
        go_wp2
        have hc : ∀ j, j < i → wr.cell? ⟨g', j, none⟩ = some (.int .i64 (setF s x y m n v f j)) := by
          intro j hj
          have h6 := ints_get (setF s x y m n v f) hj
          rw [cell_of_heap hh]
          rw [← htk, List.getElem?_take, if_pos (by omega)] at h6
          simpa using h6
        refine bodyPost_ret (v := .agg #[.int .i64 (s : Int), .slice (some ⟨g', 0, none⟩) i c2]) (by simp [results, Try.f25, go_sem, e2, e3]) rfl ⟨_, rfl, ⟨g', c2, by rw [hN], ⟨by omega, ?_, fun j hj => ?_⟩⟩, ?_⟩
        · simp
          exact (Array.getElem?_eq_some_iff.1 hh).1
        · rw [hN] at hj
          rw [World.cell?_setCell_other _ _ _ _ (by intro h; injection h with h; omega), World.cell?_setCell_other _ _ _ _ (by intro h; injection h with h; omega)]
          exact hc j hj
        · have hBB : Below w.heap.size w wr := hB1.trans (hB.mono (by omega))
          exact (hBB.setCell (p := ⟨w.heap.size + 1, 0, none⟩) (by dsimp only; omega) _).setCell (p := ⟨w.heap.size + 1, 1, none⟩) (by dsimp only; omega) _
end Go.Proofs.Ytdpdkjpkehgdnaa
