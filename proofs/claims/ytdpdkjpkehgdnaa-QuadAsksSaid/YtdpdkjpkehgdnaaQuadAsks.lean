/-
  The walk of the statement QuadAsks: it returns true, for every side, every list of calls, every rectangle and value.
-/
import Derived.Test.YtdpdkjpkehgdnaaQuQ
import Derived.Test.YtdpdkjpkehgdnaaQuT
namespace Go.Proofs.Ytdpdkjpkehgdnaa
open Go.RowKit

theorem asks_short (n : Int) (A : Option Addr) (len cap : Nat) (x y m h z : Int) (w : World) (hs : (n < 0 ∨ 5 < n) ∨ ((0 ≤ n ∧ n ≤ 5) ∧ 25 < len)) (hlen : len ≤ 9223372036854775807) :
    Calls Try.prog 3 #[.int .i64 n, .slice A len cap, .agg #[.int .i64 x, .int .i64 y, .int .i64 m, .int .i64 h, .int .i64 z]] w fun e w' => e = .returned (.bool true) ∧ Below w.heap.size w w' := by
  rcases hs with hs | ⟨hn, hs⟩
  ·
    go_enter Try.func3, Try.ntmps3
    go_wp2_with fail
    refine (sides_no n _ hs).mono ?_
    rintro e w1 ⟨rfl, hbw1⟩
    obtain ⟨hcw1, hfw1⟩ := bcell hbw1
    have hsw1 := hbw1.size
    try simp at hcw1 hfw1 hsw1
    have lw1_0 : w.heap.size < w1.heap.size := by omega
    go_wp2_with fail
    refine (awake_any _).mono ?_
    rintro e w2 ⟨rfl, hbw2⟩
    obtain ⟨hcw2, hfw2⟩ := bcell hbw2
    have hsw2 := hbw2.size
    try simp at hcw2 hfw2 hsw2
    have lw2_0 : w.heap.size < w2.heap.size := by omega
    go_wp2
    go_ret
    refine ⟨rfl, ?_⟩
    repeat' (first | with_reducible assumption | with_reducible refine Below.setCell ?_ ?_ _ | with_reducible refine below_drewN ?_ _ | with_reducible refine Below.drew ?_ | with_reducible refine balloc ?_ _ | with_reducible exact Below.refl _ _ | with_reducible refine bstep ?_ (by assumption) | with_reducible refine Below.alloc ?_ ?_ _ | with_reducible refine bthrough ?_ (by assumption) ?_)
    all_goals (first | omega | (simp; done) | (simp; omega))
  · obtain ⟨k, rfl⟩ : ∃ k : Nat, n = k := ⟨n.toNat, by omega⟩
    have hk : k ≤ 5 := by omega
    have hp := sd_pos k
    have hne : (sd k == 0) = false := by simp; omega
    have hgt : decide ((25 : Int) < (len : Int)) = true := by simp; omega
    go_enter Try.func3, Try.ntmps3
    go_wp2_with fail
    refine (sides_yes k _ hk).mono ?_
    rintro e w1 ⟨rfl, hbw1⟩
    obtain ⟨hcw1, hfw1⟩ := bcell hbw1
    have hsw1 := hbw1.size
    try simp at hcw1 hfw1 hsw1
    have lw1_0 : w.heap.size < w1.heap.size := by omega
    go_wp2_with fail
    refine (awake_any _).mono ?_
    rintro e w2 ⟨rfl, hbw2⟩
    obtain ⟨hcw2, hfw2⟩ := bcell hbw2
    have hsw2 := hbw2.size
    try simp at hcw2 hfw2 hsw2
    have lw2_0 : w.heap.size < w2.heap.size := by omega
    go_wp2
    go_ret
    refine ⟨rfl, ?_⟩
    repeat' (first | with_reducible assumption | with_reducible refine Below.setCell ?_ ?_ _ | with_reducible refine below_drewN ?_ _ | with_reducible refine Below.drew ?_ | with_reducible refine balloc ?_ _ | with_reducible exact Below.refl _ _ | with_reducible refine bstep ?_ (by assumption) | with_reducible refine Below.alloc ?_ ?_ _ | with_reducible refine bthrough ?_ (by assumption) ?_)
    all_goals (first | omega | (simp; done) | (simp; omega))

set_option maxRecDepth 100000 in
set_option maxHeartbeats 4000000 in
theorem asks_long (k : Nat) (hk : k ≤ 5) (A : Option Addr) (cap : Nat) (l : List Op5) (x y m h z : Int) (w : World) (ho : OpsAt w.heap.size w A l) (hl : l.length ≤ 25) :
    Calls Try.prog 3 #[.int .i64 (k : Int), .slice A l.length cap, .agg #[.int .i64 x, .int .i64 y, .int .i64 m, .int .i64 h, .int .i64 z]] w fun e w' => e = .returned (.bool true) ∧ Below w.heap.size w w' := by
  have hp32 := pow_32 hk
  have hk8 : k ≤ 8 := by omega
  have hsame := hid (sameG_play (k := k) l)
  have hsides := sides_yes k
  have hplay := fun (w' : World) (b : Below w.heap.size w w') => played_any (B := w.heap.size) k hk A cap l w' b.size (ho.later b) (by omega)
  have hHx : ∀ i, holdsR x y m h ((i % 2 ^ k : Nat) : Int) ((i / 2 ^ k : Nat) : Int) = tileH (2 ^ k) x y m h i := fun i => rfl
  obtain ⟨s, hs⟩ : ∃ s, s = 2 ^ k := ⟨_, rfl⟩
  have hS := hid hs
  have hsd : sd k = (s : Int) := by rw [hs]; rfl
  have HSD := hid hsd
  obtain ⟨T, hT⟩ : ∃ T, T = s * s := ⟨_, rfl⟩
  have HT := hid hT
  have hsides' : ∀ w', Calls Try.prog 8 #[.int .i64 (k : Int)] w' fun e w'' => e = .returned (.int .i64 (s : Int)) ∧ Below w'.heap.size w' w'' := fun w' => by
    rw [← hsd]
    exact hsides w' hk
  have hplay' : ∀ w', Below w.heap.size w w' → Calls Try.prog 10 #[.int .i64 (s : Int), .slice A l.length cap] w' fun e w'' => ∃ g g' cap', e = .returned (.tuple #[.pointer (some ⟨g, 0, none⟩), .agg #[.int .i64 (s : Int), .slice (some ⟨g', 0, none⟩) T cap']]) ∧
      QuadAt w'' w'.heap.size g (sd k) (playT k l) ∧ (playT k l).fits k ∧ IntsAt w'' w'.heap.size g' T (playF k l) ∧ Below w'.heap.size w' w'' := fun w' b => by
    rw [← hsd]
    refine (hplay w' b).mono ?_
    rintro e w'' ⟨g, vg, e1, e2, e3, ⟨g', cap', e4, e5⟩, e6⟩
    refine ⟨g, g', cap', ?_, e2, e3, by rw [hT, hs]; exact e5, e6⟩
    rw [e1, e4, hT, hs]
    rfl
  have HP := hid hplay'
  have HSI := hid hsides'
  have HX := hid hHx
  rw [← hs] at hp32
  clear hplay hplay' hsides hsides' hHx hs hsd ho
  have hss : T ≤ 1024 := by rw [hT]; exact Nat.mul_le_mul hp32.2 hp32.2
  clear hT
  go_enter Try.func3, Try.ntmps3
  go_wp2_with fail
  refine (HSI.out _).mono ?_
  rintro e w1 ⟨rfl, hb1⟩
  have hbb1 : Below w.heap.size w w1 := bstep (balloc (Below.refl _ _) _) hb1
  have hs1 := hb1.size
  simp at hs1
  have z0 : ∀ i, w1.cell? ⟨w.heap.size, i, none⟩ = (#[Value.int .i64 x, .int .i64 y, .int .i64 m, .int .i64 h, .int .i64 z] : Array Value)[i]? := fun i => by
    rw [(bcell hb1).1 _ _ (by simp)]
    exact World.cell?_alloc_new _ _ _ _
  have hne : ((s : Int) == 0) = false := by simp; omega
  have hgt : decide ((25 : Int) < (l.length : Int)) = false := by simp; omega
  go_wp2_with fail
  refine (HP.out w1 hbb1).mono ?_
  rintro e w2 ⟨g, g', cap', rfl, hq, hfit, hI, hb2⟩
  have HQ := hid hq
  have HF := hid hfit
  have HI := hid hI
  have hs2 := hb2.size
  clear hq hfit hI
  go_wp2_with fail
  have hb3 : Below w1.heap.size w1 (w2.alloc (.cells #[.int .i64 (s : Int), .slice (some ⟨g', 0, none⟩) T cap'] 32)) := bthrough hb2 (balloc (Below.refl _ _) _) hs2
  have hb23 : Below w2.heap.size w2 (w2.alloc (.cells #[.int .i64 (s : Int), .slice (some ⟨g', 0, none⟩) T cap'] 32)) := balloc (Below.refl _ _) _
  generalize w2.alloc (.cells #[.int .i64 (s : Int), .slice (some ⟨g', 0, none⟩) T cap'] 32) = W3 at hb3 hb23 ⊢
  have HQ3 := hid (HQ.out.below hb23)
  have HI3 := hid (HI.out.below hb23)
  have hs3 := hb3.size
  have z3 : ∀ i, W3.cell? ⟨w.heap.size, i, none⟩ = (#[Value.int .i64 x, .int .i64 y, .int .i64 m, .int .i64 h, .int .i64 z] : Array Value)[i]? := fun i => ((bcell hb3).1 _ _ (by omega)).trans (z0 i)
  have hbb3 : Below w.heap.size w W3 := bthrough hbb1 hb3 hbb1.size
  clear HQ HI hb1 hb2 hb3 hb23 hbb1 z0
  have hsm := hsame
  go_loopw [10, 11, 12, 13, 14, 40] (fun s10 s11 s12 s13 s14 s40 wr => ∃ i : Nat, i ≤ T ∧ s40 = .int .i64 (i : Int) ∧ s10 = .bool (anyF (playF k l) (tileH s x y m h) z i) ∧ s11 = .int .i64 (cntF (playF k l) z i) ∧ s12 = .int .i64 (seenF (playF k l) (tileH s x y m h) i).1 ∧ s13 = .bool (seenF (playF k l) (tileH s x y m h) i).2.1 ∧ s14 = .bool (seenF (playF k l) (tileH s x y m h) i).2.2 ∧ Below W3.heap.size W3 wr) (fun _ _ _ _ _ s40 _ => T - (intOf s40).toNat)
  case atStart => exact ⟨0, Nat.zero_le _, rfl, rfl, rfl, rfl, rfl, rfl, Below.refl _ _⟩
  case round =>
    obtain ⟨i, hi, rfl, rfl, rfl, rfl, rfl, rfl, hB⟩ := hrel
    have hsr := hB.size
    have zr : ∀ i, wr.cell? ⟨w.heap.size, i, none⟩ = (#[Value.int .i64 x, .int .i64 y, .int .i64 m, .int .i64 h, .int .i64 z] : Array Value)[i]? := fun i => ((bcell hB).1 _ _ (by omega)).trans (z3 i)
    have y0 := zr 0
    have y1 := zr 1
    have y2 := zr 2
    have y3 := zr 3
    have y4 := zr 4
    simp at y0 y1 y2 y3 y4
    by_cases hlt : i < T
    · have ec := (HI3.out.below hB).cell i hlt
      have hcb : 0 ≤ cntF (playF k l) z i ∧ cntF (playF k l) z i ≤ i := cntF_bd _ _ _
      have hwc : IntKind.i64.wrap (cntF (playF k l) z i + 1) = cntF (playF k l) z i + 1 := IntWalk.i64_in _ (by omega)
      obtain ⟨a0, ha0⟩ : ∃ a0 : Int, a0 = ((i % s : Nat) : Int) := ⟨_, rfl⟩
      obtain ⟨r0, hr0⟩ : ∃ r0 : Int, r0 = ((i / s : Nat) : Int) := ⟨_, rfl⟩
      have hrem : (i : Int) % (s : Int) = a0 := by rw [ha0]; simp
      have hquo : (i : Int) / (s : Int) = r0 := by rw [hr0]; simp
      have hr1 : 0 ≤ r0 ∧ r0 ≤ 1024 := by
        have h9 := Nat.div_le_self i s
        generalize i / s = z9 at hr0 h9
        omega
      have ha1 : 0 ≤ a0 ∧ a0 ≤ 1024 := by
        have h9 := Nat.mod_le i s
        generalize i % s = z9 at ha0 h9
        omega
      have hw3 : wrap64 r0 = r0 := by
        unfold wrap64
        omega
      have hsp : (s : Int) ≠ 0 := by omega
      have hs0 : ¬ s = 0 := by omega
      have hrem2 : (i : Int).tmod (s : Int) = a0 := by rw [Int.tmod_eq_emod_of_nonneg (by omega)]; exact hrem
      have hquo2 : (i : Int).tdiv (s : Int) = r0 := by rw [Int.tdiv_eq_ediv_of_nonneg (by omega)]; exact hquo
      have hw4 : IntKind.i64.wrap r0 = r0 := IntWalk.i64_in _ (by omega)
      have hHo : holdsR x y m h a0 r0 = tileH s x y m h i := by rw [ha0, hr0]; rfl
      have HHO := hid hHo
      clear ha0 hr0 hHo
      have HA := hid (show anyF (playF k l) (tileH s x y m h) z (i + 1) = if tileH s x y m h i = true then anyF (playF k l) (tileH s x y m h) z i || decide (playF k l i = z) else anyF (playF k l) (tileH s x y m h) z i from rfl)
      have HC := hid (show cntF (playF k l) z (i + 1) = cntF (playF k l) z i + (if playF k l i = z then 1 else 0) from rfl)
      have HS := hid (show seenF (playF k l) (tileH s x y m h) (i + 1) = if tileH s x y m h i = true then (playF k l i, true, (seenF (playF k l) (tileH s x y m h) i).2.2 && (!(seenF (playF k l) (tileH s x y m h) i).2.1 || decide (playF k l i = (seenF (playF k l) (tileH s x y m h) i).1))) else seenF (playF k l) (tileH s x y m h) i from rfl)
      generalize seenF (playF k l) (tileH s x y m h) i = S at HS ⊢
      generalize anyF (playF k l) (tileH s x y m h) z i = an at HA ⊢
      generalize cntF (playF k l) z i = cn at HC hcb hwc ⊢
      generalize tileH s x y m h i = H at HS HA HHO
      generalize playF k l i = Fi at ec HS HA HC
      obtain ⟨o1, o2, o3⟩ := S
      dsimp only at HS ⊢
      have hwz : (Fi == z) = decide (Fi = z) := by rw [Bool.eq_iff_iff]; simp
      cases hfz : Fi == z with
      | true =>
        have hfz2 : Fi = z := by simpa using hfz
        go_upto_region 15 with fail
        refine wp_region_noPanic ?_
        refine wp_region_held_drew (S := fun w' => w'.cell? ⟨w.heap.size, 0, none⟩ = some (.int .i64 x) ∧ w'.cell? ⟨w.heap.size, 1, none⟩ = some (.int .i64 y) ∧ w'.cell? ⟨w.heap.size, 2, none⟩ = some (.int .i64 m) ∧ w'.cell? ⟨w.heap.size, 3, none⟩ = some (.int .i64 h)) (by kernel_rfl) ⟨y0, y1, y2, y3⟩ (fun hHeld => ?_)
        refine wpAnyH_take (i := 0) (oi := { dst := some 51, op := Op.fieldAddr 26 (Operand.tmp 5) 0, type := 0, pos := _, after := _, guard := none }) (v := ?_) rfl (by kernel_rfl) (by kernel_rfl) (by kernel_rfl) (fun _ _ _ h => h) (Or.inl ⟨by kernel_rfl, ?_⟩) (by assumption) ?_
        case refine_2 => (intro w hSw; go_simp <;> with_reducible rfl)
        simp only [Act.put, List.setIfInBounds_toArray, List.set_cons_zero, List.set_cons_succ]
        refine wpAnyH_take (i := 1) (oi := { dst := some 52, op := Op.fieldAddr 24 (Operand.tmp 51) 0, type := 0, pos := _, after := _, guard := none }) (v := ?_) rfl (by kernel_rfl) (by kernel_rfl) (by kernel_rfl) (fun _ _ _ h => h) (Or.inl ⟨by kernel_rfl, ?_⟩) (by assumption) ?_
        case refine_2 => (intro w hSw; go_simp <;> with_reducible rfl)
        simp only [Act.put, List.setIfInBounds_toArray, List.set_cons_zero, List.set_cons_succ]
        refine wpAnyH_take (i := 2) (oi := { dst := some 53, op := Op.load 3 (Operand.tmp 52), type := 3, pos := _, after := _, guard := none }) (v := ?_) rfl (by kernel_rfl) (by kernel_rfl) (by kernel_rfl) (fun _ _ _ h => h) (Or.inl ⟨by kernel_rfl, ?_⟩) (by assumption) ?_
        case refine_2 => (intro w hSw; go_simp <;> with_reducible rfl)
        simp only [Act.put, List.setIfInBounds_toArray, List.set_cons_zero, List.set_cons_succ]
        refine wpAnyH_take (i := 3) (oi := { dst := some 54, op := Op.fieldAddr 26 (Operand.tmp 5) 0, type := 0, pos := _, after := _, guard := none }) (v := ?_) rfl (by kernel_rfl) (by kernel_rfl) (by kernel_rfl) (fun _ _ _ h => h) (Or.inl ⟨by kernel_rfl, ?_⟩) (by assumption) ?_
        case refine_2 => (intro w hSw; go_simp <;> with_reducible rfl)
        simp only [Act.put, List.setIfInBounds_toArray, List.set_cons_zero, List.set_cons_succ]
        refine wpAnyH_take (i := 4) (oi := { dst := some 55, op := Op.fieldAddr 24 (Operand.tmp 54) 1, type := 0, pos := _, after := _, guard := none }) (v := ?_) rfl (by kernel_rfl) (by kernel_rfl) (by kernel_rfl) (fun _ _ _ h => h) (Or.inl ⟨by kernel_rfl, ?_⟩) (by assumption) ?_
        case refine_2 => (intro w hSw; go_simp <;> with_reducible rfl)
        simp only [Act.put, List.setIfInBounds_toArray, List.set_cons_zero, List.set_cons_succ]
        refine wpAnyH_take (i := 5) (oi := { dst := some 56, op := Op.load 3 (Operand.tmp 55), type := 3, pos := _, after := _, guard := none }) (v := ?_) rfl (by kernel_rfl) (by kernel_rfl) (by kernel_rfl) (fun _ _ _ h => h) (Or.inl ⟨by kernel_rfl, ?_⟩) (by assumption) ?_
        case refine_2 => (intro w hSw; go_simp <;> with_reducible rfl)
        simp only [Act.put, List.setIfInBounds_toArray, List.set_cons_zero, List.set_cons_succ]
        refine wpAnyH_take (i := 6) (oi := { dst := some 57, op := Op.fieldAddr 26 (Operand.tmp 5) 0, type := 0, pos := _, after := _, guard := none }) (v := ?_) rfl (by kernel_rfl) (by kernel_rfl) (by kernel_rfl) (fun _ _ _ h => h) (Or.inl ⟨by kernel_rfl, ?_⟩) (by assumption) ?_
        case refine_2 => (intro w hSw; go_simp <;> with_reducible rfl)
        simp only [Act.put, List.setIfInBounds_toArray, List.set_cons_zero, List.set_cons_succ]
        refine wpAnyH_take (i := 7) (oi := { dst := some 58, op := Op.fieldAddr 24 (Operand.tmp 57) 2, type := 0, pos := _, after := _, guard := none }) (v := ?_) rfl (by kernel_rfl) (by kernel_rfl) (by kernel_rfl) (fun _ _ _ h => h) (Or.inl ⟨by kernel_rfl, ?_⟩) (by assumption) ?_
        case refine_2 => (intro w hSw; go_simp <;> with_reducible rfl)
        simp only [Act.put, List.setIfInBounds_toArray, List.set_cons_zero, List.set_cons_succ]
        refine wpAnyH_take (i := 8) (oi := { dst := some 59, op := Op.load 3 (Operand.tmp 58), type := 3, pos := _, after := _, guard := none }) (v := ?_) rfl (by kernel_rfl) (by kernel_rfl) (by kernel_rfl) (fun _ _ _ h => h) (Or.inl ⟨by kernel_rfl, ?_⟩) (by assumption) ?_
        case refine_2 => (intro w hSw; go_simp <;> with_reducible rfl)
        simp only [Act.put, List.setIfInBounds_toArray, List.set_cons_zero, List.set_cons_succ]
        refine wpAnyH_take (i := 9) (oi := { dst := some 60, op := Op.fieldAddr 26 (Operand.tmp 5) 0, type := 0, pos := _, after := _, guard := none }) (v := ?_) rfl (by kernel_rfl) (by kernel_rfl) (by kernel_rfl) (fun _ _ _ h => h) (Or.inl ⟨by kernel_rfl, ?_⟩) (by assumption) ?_
        case refine_2 => (intro w hSw; go_simp <;> with_reducible rfl)
        simp only [Act.put, List.setIfInBounds_toArray, List.set_cons_zero, List.set_cons_succ]
        refine wpAnyH_take (i := 10) (oi := { dst := some 61, op := Op.fieldAddr 24 (Operand.tmp 60) 3, type := 0, pos := _, after := _, guard := none }) (v := ?_) rfl (by kernel_rfl) (by kernel_rfl) (by kernel_rfl) (fun _ _ _ h => h) (Or.inl ⟨by kernel_rfl, ?_⟩) (by assumption) ?_
        case refine_2 => (intro w hSw; go_simp <;> with_reducible rfl)
        simp only [Act.put, List.setIfInBounds_toArray, List.set_cons_zero, List.set_cons_succ]
        refine wpAnyH_take (i := 11) (oi := { dst := some 62, op := Op.load 3 (Operand.tmp 61), type := 3, pos := _, after := _, guard := none }) (v := ?_) rfl (by kernel_rfl) (by kernel_rfl) (by kernel_rfl) (fun _ _ _ h => h) (Or.inl ⟨by kernel_rfl, ?_⟩) (by assumption) ?_
        case refine_2 => (intro w hSw; go_simp <;> with_reducible rfl)
        simp only [Act.put, List.setIfInBounds_toArray, List.set_cons_zero, List.set_cons_succ]
        refine wpAnyH_take (i := 12) (oi := { dst := some 63, op := Op.build 36 #[(0, Operand.tmp 53), (1, Operand.tmp 56), (2, Operand.tmp 59), (3, Operand.tmp 62)], type := 36, pos := _, after := _, guard := none }) (v := ?_) rfl (by kernel_rfl) (by kernel_rfl) (by kernel_rfl) (fun _ _ _ h => h) (Or.inl ⟨by kernel_rfl, ?_⟩) (by assumption) ?_
        case refine_2 => (intro w hSw; go_simp <;> with_reducible rfl)
        simp only [Act.put, List.setIfInBounds_toArray, List.set_cons_zero, List.set_cons_succ]
        refine wpAnyH_take (i := 13) (oi := { dst := some 64, op := Op.move (Operand.tmp 15), type := 3, pos := _, after := _, guard := none }) (v := ?_) rfl (by kernel_rfl) (by kernel_rfl) (by kernel_rfl) (fun _ _ _ h => h) (Or.inl ⟨by kernel_rfl, ?_⟩) (by assumption) ?_
        case refine_2 => (intro w hSw; go_simp <;> with_reducible rfl)
        simp only [Act.put, List.setIfInBounds_toArray, List.set_cons_zero, List.set_cons_succ]
        refine wpAnyH_take (i := 14) (oi := { dst := some 65, op := Op.move (Operand.tmp 7), type := 3, pos := _, after := _, guard := none }) (v := ?_) rfl (by kernel_rfl) (by kernel_rfl) (by kernel_rfl) (fun _ _ _ h => h) (Or.inl ⟨by kernel_rfl, ?_⟩) (by assumption) ?_
        case refine_2 => (intro w hSw; go_simp <;> with_reducible rfl)
        simp only [Act.put, List.setIfInBounds_toArray, List.set_cons_zero, List.set_cons_succ]
        refine wpAnyH_take (i := 15) (oi := { dst := some 66, op := Op.binOp BinOp.rem 3 (Operand.tmp 64) (Operand.tmp 65) 3, type := 3, pos := _, after := _, guard := none }) (v := ?_) rfl (by kernel_rfl) (by kernel_rfl) (by kernel_rfl) (fun _ _ _ h => h) (Or.inl ⟨by kernel_rfl, ?_⟩) (by assumption) ?_
        case refine_2 => (intro w hSw; go_simp <;> with_reducible rfl)
        simp only [Act.put, List.setIfInBounds_toArray, List.set_cons_zero, List.set_cons_succ]
        refine wpAnyH_take (i := 16) (oi := { dst := some 67, op := Op.move (Operand.tmp 15), type := 3, pos := _, after := _, guard := none }) (v := ?_) rfl (by kernel_rfl) (by kernel_rfl) (by kernel_rfl) (fun _ _ _ h => h) (Or.inl ⟨by kernel_rfl, ?_⟩) (by assumption) ?_
        case refine_2 => (intro w hSw; go_simp <;> with_reducible rfl)
        simp only [Act.put, List.setIfInBounds_toArray, List.set_cons_zero, List.set_cons_succ]
        refine wpAnyH_take (i := 17) (oi := { dst := some 68, op := Op.move (Operand.tmp 7), type := 3, pos := _, after := _, guard := none }) (v := ?_) rfl (by kernel_rfl) (by kernel_rfl) (by kernel_rfl) (fun _ _ _ h => h) (Or.inl ⟨by kernel_rfl, ?_⟩) (by assumption) ?_
        case refine_2 => (intro w hSw; go_simp <;> with_reducible rfl)
        simp only [Act.put, List.setIfInBounds_toArray, List.set_cons_zero, List.set_cons_succ]
        refine wpAnyH_take (i := 18) (oi := { dst := some 69, op := Op.binOp BinOp.quo 3 (Operand.tmp 67) (Operand.tmp 68) 3, type := 3, pos := _, after := _, guard := none }) (v := ?_) rfl (by kernel_rfl) (by kernel_rfl) (by kernel_rfl) (fun _ _ _ h => h) (Or.inl ⟨by kernel_rfl, ?_⟩) (by assumption) ?_
        case refine_2 => (intro w hSw; go_simp <;> with_reducible rfl)
        simp only [Act.put, List.setIfInBounds_toArray, List.set_cons_zero, List.set_cons_succ]
        refine wpAnyH_ready (rs := [19]) (by kernel_rfl) (by simp) ?_
        refine AllReadyH.cons (o := { dst := some 70, op := Op.call { callee := Callee.value (Operand.func 11), args := #[Operand.tmp 63, Operand.tmp 66, Operand.tmp 69], argTypes := #[36, 3, 3] }, type := 4, pos := _, after := _, guard := none }) rfl (fun K hK => ?_) AllReadyH.nil
        go_simp
        go_at_call 11
        refine (refHolds_any x y m h a0 r0 _ (by omega) (by omega)).mono ?_
        rintro e wq ⟨rfl, hbq⟩
        rw [HHO.out]
        have hbq2 : Below wr.heap.size wr wq := (Below.drew (Below.refl _ _)).trans hbq
        refine hK.out _ _ ⟨((bcell hbq2).1 _ _ (by omega)).trans y0, ((bcell hbq2).1 _ _ (by omega)).trans y1, ((bcell hbq2).1 _ _ (by omega)).trans y2, ((bcell hbq2).1 _ _ (by omega)).trans y3⟩ (fun hHeld2 => ?_)
        clear hK K
        try simp only [Act.put, List.setIfInBounds_toArray, List.set_cons_zero, List.set_cons_succ]
        refine wpAnyH_take (i := 20) (oi := { dst := some 71, op := Op.unOp UnOp.not 4 (Operand.tmp 70), type := 4, pos := _, after := _, guard := none }) (v := ?_) rfl (by kernel_rfl) (by kernel_rfl) (by kernel_rfl) (fun _ _ _ h => h) (Or.inl ⟨by kernel_rfl, ?_⟩) (by assumption) ?_
        case refine_2 => (intro w hSw; go_simp <;> with_reducible rfl)
        simp only [Act.put, List.setIfInBounds_toArray, List.set_cons_zero, List.set_cons_succ]
        refine wpAnyH_done (by kernel_rfl) ?_ _
        refine NoPanic.normal ?_
        have hBq : Below W3.heap.size W3 wq := bthrough hB hbq2 hsr
        have v4 : wq.cell? ⟨w.heap.size, 4, none⟩ = some (.int .i64 z) := ((bcell hbq2).1 _ _ (by omega)).trans y4
        clear hbq hbq2 hHeld hHeld2 y0 y1 y2 y3 y4 zr ec
        cases H with
        | false =>
          go_wp2_with fail
          go_roundw
          case rel => exact ⟨i + 1, by omega, by go_num, by rw [HA.out]; simp [], by rw [HC.out]; simp [hfz2], by rw [HS.out]; simp [], by rw [HS.out]; simp [], by rw [HS.out]; simp [], hBq⟩
          case measure => simp [intOf]; omega
        | true =>
          cases an with
          | true =>
            cases o3 with
            | false =>
              go_wp2_with fail
              go_roundw
              case rel => exact ⟨i + 1, by omega, by go_num, by rw [HA.out]; simp [hfz2], by rw [HC.out]; simp [hfz2], by rw [HS.out]; simp [hfz2], by rw [HS.out]; simp [hfz2], by rw [HS.out]; simp [hfz2], hBq⟩
              case measure => simp [intOf]; omega
            | true =>
              cases o2 with
              | false =>
                go_wp2_with fail
                go_roundw
                case rel => exact ⟨i + 1, by omega, by go_num, by rw [HA.out]; simp [hfz2], by rw [HC.out]; simp [hfz2], by rw [HS.out]; simp [hfz2], by rw [HS.out]; simp [hfz2], by rw [HS.out]; simp [hfz2], hBq⟩
                case measure => simp [intOf]; omega
              | true =>
                cases hfo : Fi == o1 with
                | true =>
                  have hfo2 : Fi = o1 := by simpa using hfo
                  go_wp2_with fail
                  go_roundw
                  case rel => exact ⟨i + 1, by omega, by go_num, by rw [HA.out]; simp [hfz2, hfo2] <;> exact beq_dec _ _, by rw [HC.out]; simp [hfz2], by rw [HS.out]; simp [hfz2, hfo2] <;> exact beq_dec _ _, by rw [HS.out]; simp [hfz2, hfo2] <;> exact beq_dec _ _, by rw [HS.out]; simp [hfz2, hfo2] <;> exact beq_dec _ _, hBq⟩
                  case measure => simp [intOf]; omega
                | false =>
                  have hfo2 : ¬ Fi = o1 := by simpa using hfo
                  go_wp2_with fail
                  go_roundw
                  case rel => exact ⟨i + 1, by omega, by go_num, by rw [HA.out]; simp [hfz2, hfo2] <;> exact beq_dec _ _, by rw [HC.out]; simp [hfz2], by rw [HS.out]; simp [hfz2, hfo2] <;> exact beq_dec _ _, by rw [HS.out]; simp [hfz2, hfo2] <;> exact beq_dec _ _, by rw [HS.out]; simp [hfz2, hfo2] <;> exact beq_dec _ _, hBq⟩
                  case measure => simp [intOf]; omega
          | false =>
            cases o3 with
            | false =>
              go_wp2_with fail
              go_roundw
              case rel => exact ⟨i + 1, by omega, by go_num, by rw [HA.out]; simp [hfz2], by rw [HC.out]; simp [hfz2], by rw [HS.out]; simp [hfz2], by rw [HS.out]; simp [hfz2], by rw [HS.out]; simp [hfz2], hBq⟩
              case measure => simp [intOf]; omega
            | true =>
              cases o2 with
              | false =>
                go_wp2_with fail
                go_roundw
                case rel => exact ⟨i + 1, by omega, by go_num, by rw [HA.out]; simp [hfz2], by rw [HC.out]; simp [hfz2], by rw [HS.out]; simp [hfz2], by rw [HS.out]; simp [hfz2], by rw [HS.out]; simp [hfz2], hBq⟩
                case measure => simp [intOf]; omega
              | true =>
                cases hfo : Fi == o1 with
                | true =>
                  have hfo2 : Fi = o1 := by simpa using hfo
                  go_wp2_with fail
                  go_roundw
                  case rel => exact ⟨i + 1, by omega, by go_num, by rw [HA.out]; simp [hfz2, hfo2] <;> exact beq_dec _ _, by rw [HC.out]; simp [hfz2], by rw [HS.out]; simp [hfz2, hfo2] <;> exact beq_dec _ _, by rw [HS.out]; simp [hfz2, hfo2] <;> exact beq_dec _ _, by rw [HS.out]; simp [hfz2, hfo2] <;> exact beq_dec _ _, hBq⟩
                  case measure => simp [intOf]; omega
                | false =>
                  have hfo2 : ¬ Fi = o1 := by simpa using hfo
                  go_wp2_with fail
                  go_roundw
                  case rel => exact ⟨i + 1, by omega, by go_num, by rw [HA.out]; simp [hfz2, hfo2] <;> exact beq_dec _ _, by rw [HC.out]; simp [hfz2], by rw [HS.out]; simp [hfz2, hfo2] <;> exact beq_dec _ _, by rw [HS.out]; simp [hfz2, hfo2] <;> exact beq_dec _ _, by rw [HS.out]; simp [hfz2, hfo2] <;> exact beq_dec _ _, hBq⟩
                  case measure => simp [intOf]; omega
      | false =>
        have hfz2 : ¬ Fi = z := by simpa using hfz
        go_upto_region 15 with fail
        refine wp_region_noPanic ?_
        refine wp_region_held_drew (S := fun w' => w'.cell? ⟨w.heap.size, 0, none⟩ = some (.int .i64 x) ∧ w'.cell? ⟨w.heap.size, 1, none⟩ = some (.int .i64 y) ∧ w'.cell? ⟨w.heap.size, 2, none⟩ = some (.int .i64 m) ∧ w'.cell? ⟨w.heap.size, 3, none⟩ = some (.int .i64 h)) (by kernel_rfl) ⟨y0, y1, y2, y3⟩ (fun hHeld => ?_)
        refine wpAnyH_take (i := 0) (oi := { dst := some 51, op := Op.fieldAddr 26 (Operand.tmp 5) 0, type := 0, pos := _, after := _, guard := none }) (v := ?_) rfl (by kernel_rfl) (by kernel_rfl) (by kernel_rfl) (fun _ _ _ h => h) (Or.inl ⟨by kernel_rfl, ?_⟩) (by assumption) ?_
        case refine_2 => (intro w hSw; go_simp <;> with_reducible rfl)
        simp only [Act.put, List.setIfInBounds_toArray, List.set_cons_zero, List.set_cons_succ]
        refine wpAnyH_take (i := 1) (oi := { dst := some 52, op := Op.fieldAddr 24 (Operand.tmp 51) 0, type := 0, pos := _, after := _, guard := none }) (v := ?_) rfl (by kernel_rfl) (by kernel_rfl) (by kernel_rfl) (fun _ _ _ h => h) (Or.inl ⟨by kernel_rfl, ?_⟩) (by assumption) ?_
        case refine_2 => (intro w hSw; go_simp <;> with_reducible rfl)
        simp only [Act.put, List.setIfInBounds_toArray, List.set_cons_zero, List.set_cons_succ]
        refine wpAnyH_take (i := 2) (oi := { dst := some 53, op := Op.load 3 (Operand.tmp 52), type := 3, pos := _, after := _, guard := none }) (v := ?_) rfl (by kernel_rfl) (by kernel_rfl) (by kernel_rfl) (fun _ _ _ h => h) (Or.inl ⟨by kernel_rfl, ?_⟩) (by assumption) ?_
        case refine_2 => (intro w hSw; go_simp <;> with_reducible rfl)
        simp only [Act.put, List.setIfInBounds_toArray, List.set_cons_zero, List.set_cons_succ]
        refine wpAnyH_take (i := 3) (oi := { dst := some 54, op := Op.fieldAddr 26 (Operand.tmp 5) 0, type := 0, pos := _, after := _, guard := none }) (v := ?_) rfl (by kernel_rfl) (by kernel_rfl) (by kernel_rfl) (fun _ _ _ h => h) (Or.inl ⟨by kernel_rfl, ?_⟩) (by assumption) ?_
        case refine_2 => (intro w hSw; go_simp <;> with_reducible rfl)
        simp only [Act.put, List.setIfInBounds_toArray, List.set_cons_zero, List.set_cons_succ]
        refine wpAnyH_take (i := 4) (oi := { dst := some 55, op := Op.fieldAddr 24 (Operand.tmp 54) 1, type := 0, pos := _, after := _, guard := none }) (v := ?_) rfl (by kernel_rfl) (by kernel_rfl) (by kernel_rfl) (fun _ _ _ h => h) (Or.inl ⟨by kernel_rfl, ?_⟩) (by assumption) ?_
        case refine_2 => (intro w hSw; go_simp <;> with_reducible rfl)
        simp only [Act.put, List.setIfInBounds_toArray, List.set_cons_zero, List.set_cons_succ]
        refine wpAnyH_take (i := 5) (oi := { dst := some 56, op := Op.load 3 (Operand.tmp 55), type := 3, pos := _, after := _, guard := none }) (v := ?_) rfl (by kernel_rfl) (by kernel_rfl) (by kernel_rfl) (fun _ _ _ h => h) (Or.inl ⟨by kernel_rfl, ?_⟩) (by assumption) ?_
        case refine_2 => (intro w hSw; go_simp <;> with_reducible rfl)
        simp only [Act.put, List.setIfInBounds_toArray, List.set_cons_zero, List.set_cons_succ]
        refine wpAnyH_take (i := 6) (oi := { dst := some 57, op := Op.fieldAddr 26 (Operand.tmp 5) 0, type := 0, pos := _, after := _, guard := none }) (v := ?_) rfl (by kernel_rfl) (by kernel_rfl) (by kernel_rfl) (fun _ _ _ h => h) (Or.inl ⟨by kernel_rfl, ?_⟩) (by assumption) ?_
        case refine_2 => (intro w hSw; go_simp <;> with_reducible rfl)
        simp only [Act.put, List.setIfInBounds_toArray, List.set_cons_zero, List.set_cons_succ]
        refine wpAnyH_take (i := 7) (oi := { dst := some 58, op := Op.fieldAddr 24 (Operand.tmp 57) 2, type := 0, pos := _, after := _, guard := none }) (v := ?_) rfl (by kernel_rfl) (by kernel_rfl) (by kernel_rfl) (fun _ _ _ h => h) (Or.inl ⟨by kernel_rfl, ?_⟩) (by assumption) ?_
        case refine_2 => (intro w hSw; go_simp <;> with_reducible rfl)
        simp only [Act.put, List.setIfInBounds_toArray, List.set_cons_zero, List.set_cons_succ]
        refine wpAnyH_take (i := 8) (oi := { dst := some 59, op := Op.load 3 (Operand.tmp 58), type := 3, pos := _, after := _, guard := none }) (v := ?_) rfl (by kernel_rfl) (by kernel_rfl) (by kernel_rfl) (fun _ _ _ h => h) (Or.inl ⟨by kernel_rfl, ?_⟩) (by assumption) ?_
        case refine_2 => (intro w hSw; go_simp <;> with_reducible rfl)
        simp only [Act.put, List.setIfInBounds_toArray, List.set_cons_zero, List.set_cons_succ]
        refine wpAnyH_take (i := 9) (oi := { dst := some 60, op := Op.fieldAddr 26 (Operand.tmp 5) 0, type := 0, pos := _, after := _, guard := none }) (v := ?_) rfl (by kernel_rfl) (by kernel_rfl) (by kernel_rfl) (fun _ _ _ h => h) (Or.inl ⟨by kernel_rfl, ?_⟩) (by assumption) ?_
        case refine_2 => (intro w hSw; go_simp <;> with_reducible rfl)
        simp only [Act.put, List.setIfInBounds_toArray, List.set_cons_zero, List.set_cons_succ]
        refine wpAnyH_take (i := 10) (oi := { dst := some 61, op := Op.fieldAddr 24 (Operand.tmp 60) 3, type := 0, pos := _, after := _, guard := none }) (v := ?_) rfl (by kernel_rfl) (by kernel_rfl) (by kernel_rfl) (fun _ _ _ h => h) (Or.inl ⟨by kernel_rfl, ?_⟩) (by assumption) ?_
        case refine_2 => (intro w hSw; go_simp <;> with_reducible rfl)
        simp only [Act.put, List.setIfInBounds_toArray, List.set_cons_zero, List.set_cons_succ]
        refine wpAnyH_take (i := 11) (oi := { dst := some 62, op := Op.load 3 (Operand.tmp 61), type := 3, pos := _, after := _, guard := none }) (v := ?_) rfl (by kernel_rfl) (by kernel_rfl) (by kernel_rfl) (fun _ _ _ h => h) (Or.inl ⟨by kernel_rfl, ?_⟩) (by assumption) ?_
        case refine_2 => (intro w hSw; go_simp <;> with_reducible rfl)
        simp only [Act.put, List.setIfInBounds_toArray, List.set_cons_zero, List.set_cons_succ]
        refine wpAnyH_take (i := 12) (oi := { dst := some 63, op := Op.build 36 #[(0, Operand.tmp 53), (1, Operand.tmp 56), (2, Operand.tmp 59), (3, Operand.tmp 62)], type := 36, pos := _, after := _, guard := none }) (v := ?_) rfl (by kernel_rfl) (by kernel_rfl) (by kernel_rfl) (fun _ _ _ h => h) (Or.inl ⟨by kernel_rfl, ?_⟩) (by assumption) ?_
        case refine_2 => (intro w hSw; go_simp <;> with_reducible rfl)
        simp only [Act.put, List.setIfInBounds_toArray, List.set_cons_zero, List.set_cons_succ]
        refine wpAnyH_take (i := 13) (oi := { dst := some 64, op := Op.move (Operand.tmp 15), type := 3, pos := _, after := _, guard := none }) (v := ?_) rfl (by kernel_rfl) (by kernel_rfl) (by kernel_rfl) (fun _ _ _ h => h) (Or.inl ⟨by kernel_rfl, ?_⟩) (by assumption) ?_
        case refine_2 => (intro w hSw; go_simp <;> with_reducible rfl)
        simp only [Act.put, List.setIfInBounds_toArray, List.set_cons_zero, List.set_cons_succ]
        refine wpAnyH_take (i := 14) (oi := { dst := some 65, op := Op.move (Operand.tmp 7), type := 3, pos := _, after := _, guard := none }) (v := ?_) rfl (by kernel_rfl) (by kernel_rfl) (by kernel_rfl) (fun _ _ _ h => h) (Or.inl ⟨by kernel_rfl, ?_⟩) (by assumption) ?_
        case refine_2 => (intro w hSw; go_simp <;> with_reducible rfl)
        simp only [Act.put, List.setIfInBounds_toArray, List.set_cons_zero, List.set_cons_succ]
        refine wpAnyH_take (i := 15) (oi := { dst := some 66, op := Op.binOp BinOp.rem 3 (Operand.tmp 64) (Operand.tmp 65) 3, type := 3, pos := _, after := _, guard := none }) (v := ?_) rfl (by kernel_rfl) (by kernel_rfl) (by kernel_rfl) (fun _ _ _ h => h) (Or.inl ⟨by kernel_rfl, ?_⟩) (by assumption) ?_
        case refine_2 => (intro w hSw; go_simp <;> with_reducible rfl)
        simp only [Act.put, List.setIfInBounds_toArray, List.set_cons_zero, List.set_cons_succ]
        refine wpAnyH_take (i := 16) (oi := { dst := some 67, op := Op.move (Operand.tmp 15), type := 3, pos := _, after := _, guard := none }) (v := ?_) rfl (by kernel_rfl) (by kernel_rfl) (by kernel_rfl) (fun _ _ _ h => h) (Or.inl ⟨by kernel_rfl, ?_⟩) (by assumption) ?_
        case refine_2 => (intro w hSw; go_simp <;> with_reducible rfl)
        simp only [Act.put, List.setIfInBounds_toArray, List.set_cons_zero, List.set_cons_succ]
        refine wpAnyH_take (i := 17) (oi := { dst := some 68, op := Op.move (Operand.tmp 7), type := 3, pos := _, after := _, guard := none }) (v := ?_) rfl (by kernel_rfl) (by kernel_rfl) (by kernel_rfl) (fun _ _ _ h => h) (Or.inl ⟨by kernel_rfl, ?_⟩) (by assumption) ?_
        case refine_2 => (intro w hSw; go_simp <;> with_reducible rfl)
        simp only [Act.put, List.setIfInBounds_toArray, List.set_cons_zero, List.set_cons_succ]
        refine wpAnyH_take (i := 18) (oi := { dst := some 69, op := Op.binOp BinOp.quo 3 (Operand.tmp 67) (Operand.tmp 68) 3, type := 3, pos := _, after := _, guard := none }) (v := ?_) rfl (by kernel_rfl) (by kernel_rfl) (by kernel_rfl) (fun _ _ _ h => h) (Or.inl ⟨by kernel_rfl, ?_⟩) (by assumption) ?_
        case refine_2 => (intro w hSw; go_simp <;> with_reducible rfl)
        simp only [Act.put, List.setIfInBounds_toArray, List.set_cons_zero, List.set_cons_succ]
        refine wpAnyH_ready (rs := [19]) (by kernel_rfl) (by simp) ?_
        refine AllReadyH.cons (o := { dst := some 70, op := Op.call { callee := Callee.value (Operand.func 11), args := #[Operand.tmp 63, Operand.tmp 66, Operand.tmp 69], argTypes := #[36, 3, 3] }, type := 4, pos := _, after := _, guard := none }) rfl (fun K hK => ?_) AllReadyH.nil
        go_simp
        go_at_call 11
        refine (refHolds_any x y m h a0 r0 _ (by omega) (by omega)).mono ?_
        rintro e wq ⟨rfl, hbq⟩
        rw [HHO.out]
        have hbq2 : Below wr.heap.size wr wq := (Below.drew (Below.refl _ _)).trans hbq
        refine hK.out _ _ ⟨((bcell hbq2).1 _ _ (by omega)).trans y0, ((bcell hbq2).1 _ _ (by omega)).trans y1, ((bcell hbq2).1 _ _ (by omega)).trans y2, ((bcell hbq2).1 _ _ (by omega)).trans y3⟩ (fun hHeld2 => ?_)
        clear hK K
        try simp only [Act.put, List.setIfInBounds_toArray, List.set_cons_zero, List.set_cons_succ]
        refine wpAnyH_take (i := 20) (oi := { dst := some 71, op := Op.unOp UnOp.not 4 (Operand.tmp 70), type := 4, pos := _, after := _, guard := none }) (v := ?_) rfl (by kernel_rfl) (by kernel_rfl) (by kernel_rfl) (fun _ _ _ h => h) (Or.inl ⟨by kernel_rfl, ?_⟩) (by assumption) ?_
        case refine_2 => (intro w hSw; go_simp <;> with_reducible rfl)
        simp only [Act.put, List.setIfInBounds_toArray, List.set_cons_zero, List.set_cons_succ]
        refine wpAnyH_done (by kernel_rfl) ?_ _
        refine NoPanic.normal ?_
        have hBq : Below W3.heap.size W3 wq := bthrough hB hbq2 hsr
        have v4 : wq.cell? ⟨w.heap.size, 4, none⟩ = some (.int .i64 z) := ((bcell hbq2).1 _ _ (by omega)).trans y4
        clear hbq hbq2 hHeld hHeld2 y0 y1 y2 y3 y4 zr ec
        cases H with
        | false =>
          go_wp2_with fail
          go_roundw
          case rel => exact ⟨i + 1, by omega, by go_num, by rw [HA.out]; simp [], by rw [HC.out]; simp [hfz2], by rw [HS.out]; simp [], by rw [HS.out]; simp [], by rw [HS.out]; simp [], hBq⟩
          case measure => simp [intOf]; omega
        | true =>
          cases an with
          | true =>
            cases o3 with
            | false =>
              go_wp2_with fail
              go_roundw
              case rel => exact ⟨i + 1, by omega, by go_num, by rw [HA.out]; simp [hfz2], by rw [HC.out]; simp [hfz2], by rw [HS.out]; simp [hfz2], by rw [HS.out]; simp [hfz2], by rw [HS.out]; simp [hfz2], hBq⟩
              case measure => simp [intOf]; omega
            | true =>
              cases o2 with
              | false =>
                go_wp2_with fail
                go_roundw
                case rel => exact ⟨i + 1, by omega, by go_num, by rw [HA.out]; simp [hfz2], by rw [HC.out]; simp [hfz2], by rw [HS.out]; simp [hfz2], by rw [HS.out]; simp [hfz2], by rw [HS.out]; simp [hfz2], hBq⟩
                case measure => simp [intOf]; omega
              | true =>
                cases hfo : Fi == o1 with
                | true =>
                  have hfo2 : Fi = o1 := by simpa using hfo
                  go_wp2_with fail
                  go_roundw
                  case rel => exact ⟨i + 1, by omega, by go_num, by rw [HA.out]; simp [hfz2, hfo2] <;> exact beq_dec _ _, by rw [HC.out]; simp [hfz2], by rw [HS.out]; simp [hfz2, hfo2] <;> exact beq_dec _ _, by rw [HS.out]; simp [hfz2, hfo2] <;> exact beq_dec _ _, by rw [HS.out]; simp [hfz2, hfo2] <;> exact beq_dec _ _, hBq⟩
                  case measure => simp [intOf]; omega
                | false =>
                  have hfo2 : ¬ Fi = o1 := by simpa using hfo
                  go_wp2_with fail
                  go_roundw
                  case rel => exact ⟨i + 1, by omega, by go_num, by rw [HA.out]; simp [hfz2, hfo2] <;> exact beq_dec _ _, by rw [HC.out]; simp [hfz2], by rw [HS.out]; simp [hfz2, hfo2] <;> exact beq_dec _ _, by rw [HS.out]; simp [hfz2, hfo2] <;> exact beq_dec _ _, by rw [HS.out]; simp [hfz2, hfo2] <;> exact beq_dec _ _, hBq⟩
                  case measure => simp [intOf]; omega
          | false =>
            cases o3 with
            | false =>
              go_wp2_with fail
              go_roundw
              case rel => exact ⟨i + 1, by omega, by go_num, by rw [HA.out]; simp [hfz2], by rw [HC.out]; simp [hfz2], by rw [HS.out]; simp [hfz2], by rw [HS.out]; simp [hfz2], by rw [HS.out]; simp [hfz2], hBq⟩
              case measure => simp [intOf]; omega
            | true =>
              cases o2 with
              | false =>
                go_wp2_with fail
                go_roundw
                case rel => exact ⟨i + 1, by omega, by go_num, by rw [HA.out]; simp [hfz2], by rw [HC.out]; simp [hfz2], by rw [HS.out]; simp [hfz2], by rw [HS.out]; simp [hfz2], by rw [HS.out]; simp [hfz2], hBq⟩
                case measure => simp [intOf]; omega
              | true =>
                cases hfo : Fi == o1 with
                | true =>
                  have hfo2 : Fi = o1 := by simpa using hfo
                  go_wp2_with fail
                  go_roundw
                  case rel => exact ⟨i + 1, by omega, by go_num, by rw [HA.out]; simp [hfz2, hfo2] <;> exact beq_dec _ _, by rw [HC.out]; simp [hfz2], by rw [HS.out]; simp [hfz2, hfo2] <;> exact beq_dec _ _, by rw [HS.out]; simp [hfz2, hfo2] <;> exact beq_dec _ _, by rw [HS.out]; simp [hfz2, hfo2] <;> exact beq_dec _ _, hBq⟩
                  case measure => simp [intOf]; omega
                | false =>
                  have hfo2 : ¬ Fi = o1 := by simpa using hfo
                  go_wp2_with fail
                  go_roundw
                  case rel => exact ⟨i + 1, by omega, by go_num, by rw [HA.out]; simp [hfz2, hfo2] <;> exact beq_dec _ _, by rw [HC.out]; simp [hfz2], by rw [HS.out]; simp [hfz2, hfo2] <;> exact beq_dec _ _, by rw [HS.out]; simp [hfz2, hfo2] <;> exact beq_dec _ _, by rw [HS.out]; simp [hfz2, hfo2] <;> exact beq_dec _ _, hBq⟩
                  case measure => simp [intOf]; omega
    · obtain rfl : i = T := by omega
      have HQr := hid (HQ3.out.below hB)
      have hO := only_seen (k := k) hk8 hsame.out HF.out x y m h
      have hA := any_seen (k := k) hk8 hsame.out HF.out x y m h z
      have hC := count_seen (k := k) hk8 hsame.out HF.out z
      rw [← hS.out] at hO hA hC
      rw [← HT.out] at hO hA hC
      generalize seenF (playF k l) (tileH s x y m h) i = S at hO ⊢
      generalize anyF (playF k l) (tileH s x y m h) z i = an at hA ⊢
      generalize cntF (playF k l) z i = cn at hC ⊢
      have HA := hid hA
      have HC := hid hC
      have hn : (playT k l).nodes < 1000000000 := nodes_small HF.out hk8
      have HN := hid hn
      clear hA hC hn
      obtain ⟨o1, o2, o3⟩ := S
      dsimp only at hO ⊢
      cases o2 with
      | false =>
          have hO2 : onlyV (lvs k 0 0 x y m h (playT k l)) = (0, false) := by simpa using hO
          clear hO
          go_wp2_with fail
          refine (only_any _ g k _ x y m h wr HQr.out HF.out hk8).mono ?_
          rintro e w4 ⟨rfl, hb4⟩
          rw [hO2]
          have HQ4 := hid (HQr.out.below hb4)
          have hB4 := bthrough hB hb4 hsr
          have u0 := ((bcell hb4).1 w.heap.size 0 (by omega)).trans y0
          have u1 := ((bcell hb4).1 w.heap.size 1 (by omega)).trans y1
          have u2 := ((bcell hb4).1 w.heap.size 2 (by omega)).trans y2
          have u3 := ((bcell hb4).1 w.heap.size 3 (by omega)).trans y3
          have u4 := ((bcell hb4).1 w.heap.size 4 (by omega)).trans y4
          have hs4 := hb4.size
          clear y0 y1 y2 y3 y4
          go_wp2_with fail
          refine (any_any _ g k _ x y m h z w4 HQ4.out HF.out hk8).mono ?_
          rintro e w5 ⟨rfl, hb5⟩
          rw [HA.out]
          have HQ5 := hid (HQ4.out.below hb5)
          have hB5 := bthrough hB4 hb5 hB4.size
          have y0 := ((bcell hb5).1 w.heap.size 0 (by omega)).trans u0
          have y1 := ((bcell hb5).1 w.heap.size 1 (by omega)).trans u1
          have y2 := ((bcell hb5).1 w.heap.size 2 (by omega)).trans u2
          have y3 := ((bcell hb5).1 w.heap.size 3 (by omega)).trans u3
          have y4 := ((bcell hb5).1 w.heap.size 4 (by omega)).trans u4
          clear u0 u1 u2 u3 u4
          have hs5 := hb5.size
          go_wp2_with fail
          refine (count_any _ g k _ z w5 HQ5.out HF.out hk8 HN.out).mono ?_
          rintro e w6 ⟨rfl, hb6⟩
          rw [HC.out]
          have hB6 := bthrough hB5 hb6 hB5.size
          go_wp2_with fail
          refine (awake_any w6).mono ?_
          rintro e w7 ⟨rfl, hb7⟩
          have hB7 := bthrough hB6 hb7 hB6.size
          go_wp2
          go_ret
          exact ⟨rfl, bthrough hbb3 hB7 hbb3.size⟩
      | true =>
        cases o3 with
        | false =>
          have hO2 : onlyV (lvs k 0 0 x y m h (playT k l)) = (0, false) := by simpa using hO
          clear hO
          go_wp2_with fail
          refine (only_any _ g k _ x y m h wr HQr.out HF.out hk8).mono ?_
          rintro e w4 ⟨rfl, hb4⟩
          rw [hO2]
          have HQ4 := hid (HQr.out.below hb4)
          have hB4 := bthrough hB hb4 hsr
          have u0 := ((bcell hb4).1 w.heap.size 0 (by omega)).trans y0
          have u1 := ((bcell hb4).1 w.heap.size 1 (by omega)).trans y1
          have u2 := ((bcell hb4).1 w.heap.size 2 (by omega)).trans y2
          have u3 := ((bcell hb4).1 w.heap.size 3 (by omega)).trans y3
          have u4 := ((bcell hb4).1 w.heap.size 4 (by omega)).trans y4
          have hs4 := hb4.size
          clear y0 y1 y2 y3 y4
          go_wp2_with fail
          refine (any_any _ g k _ x y m h z w4 HQ4.out HF.out hk8).mono ?_
          rintro e w5 ⟨rfl, hb5⟩
          rw [HA.out]
          have HQ5 := hid (HQ4.out.below hb5)
          have hB5 := bthrough hB4 hb5 hB4.size
          have y0 := ((bcell hb5).1 w.heap.size 0 (by omega)).trans u0
          have y1 := ((bcell hb5).1 w.heap.size 1 (by omega)).trans u1
          have y2 := ((bcell hb5).1 w.heap.size 2 (by omega)).trans u2
          have y3 := ((bcell hb5).1 w.heap.size 3 (by omega)).trans u3
          have y4 := ((bcell hb5).1 w.heap.size 4 (by omega)).trans u4
          clear u0 u1 u2 u3 u4
          have hs5 := hb5.size
          go_wp2_with fail
          refine (count_any _ g k _ z w5 HQ5.out HF.out hk8 HN.out).mono ?_
          rintro e w6 ⟨rfl, hb6⟩
          rw [HC.out]
          have hB6 := bthrough hB5 hb6 hB5.size
          go_wp2_with fail
          refine (awake_any w6).mono ?_
          rintro e w7 ⟨rfl, hb7⟩
          have hB7 := bthrough hB6 hb7 hB6.size
          go_wp2
          go_ret
          exact ⟨rfl, bthrough hbb3 hB7 hbb3.size⟩
        | true =>
          have hO2 : onlyV (lvs k 0 0 x y m h (playT k l)) = (o1, true) := by simpa using hO
          clear hO
          go_wp2_with fail
          refine (only_any _ g k _ x y m h wr HQr.out HF.out hk8).mono ?_
          rintro e w4 ⟨rfl, hb4⟩
          rw [hO2]
          have HQ4 := hid (HQr.out.below hb4)
          have hB4 := bthrough hB hb4 hsr
          have u0 := ((bcell hb4).1 w.heap.size 0 (by omega)).trans y0
          have u1 := ((bcell hb4).1 w.heap.size 1 (by omega)).trans y1
          have u2 := ((bcell hb4).1 w.heap.size 2 (by omega)).trans y2
          have u3 := ((bcell hb4).1 w.heap.size 3 (by omega)).trans y3
          have u4 := ((bcell hb4).1 w.heap.size 4 (by omega)).trans y4
          have hs4 := hb4.size
          clear y0 y1 y2 y3 y4
          go_wp2_with fail
          refine (any_any _ g k _ x y m h z w4 HQ4.out HF.out hk8).mono ?_
          rintro e w5 ⟨rfl, hb5⟩
          rw [HA.out]
          have HQ5 := hid (HQ4.out.below hb5)
          have hB5 := bthrough hB4 hb5 hB4.size
          have y0 := ((bcell hb5).1 w.heap.size 0 (by omega)).trans u0
          have y1 := ((bcell hb5).1 w.heap.size 1 (by omega)).trans u1
          have y2 := ((bcell hb5).1 w.heap.size 2 (by omega)).trans u2
          have y3 := ((bcell hb5).1 w.heap.size 3 (by omega)).trans u3
          have y4 := ((bcell hb5).1 w.heap.size 4 (by omega)).trans u4
          clear u0 u1 u2 u3 u4
          have hs5 := hb5.size
          go_wp2_with fail
          refine (count_any _ g k _ z w5 HQ5.out HF.out hk8 HN.out).mono ?_
          rintro e w6 ⟨rfl, hb6⟩
          rw [HC.out]
          have hB6 := bthrough hB5 hb6 hB5.size
          go_wp2_with fail
          refine (awake_any w6).mono ?_
          rintro e w7 ⟨rfl, hb7⟩
          have hB7 := bthrough hB6 hb7 hB6.size
          go_wp2
          go_ret
          exact ⟨rfl, bthrough hbb3 hB7 hbb3.size⟩
end Go.Proofs.Ytdpdkjpkehgdnaa
