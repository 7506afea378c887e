/-
  The walk of the statement QuadPlays: it returns true, for every side and every list of calls.
-/
import Derived.Test.YtdpdkjpkehgdnaaQuQ
import Derived.Test.YtdpdkjpkehgdnaaQuZ
import Derived.Test.YtdpdkjpkehgdnaaQuYa
import Derived.Test.YtdpdkjpkehgdnaaQuBy
import Derived.Test.YtdpdkjpkehgdnaaQuN
import Derived.Test.YtdpdkjpkehgdnaaQuBt
import Derived.Test.YtdpdkjpkehgdnaaRound
namespace Go.Proofs.Ytdpdkjpkehgdnaa
open Go.RowKit Go.Shelf

attribute [local go_sem] Oper.semAt_some

set_option maxRecDepth 100000 in
set_option maxHeartbeats 2000000 in
theorem plays_short (n : Int) (A : Option Addr) (len cap : Nat) (w : World) (hs : (n < 0 ∨ 5 < n) ∨ ((0 ≤ n ∧ n ≤ 5) ∧ 25 < len)) (hlen : len ≤ 9223372036854775807) :
    Calls Try.prog 5 #[.int .i64 n, .slice A len cap] w fun e w' => e = .returned (.bool true) ∧ Below w.heap.size w w' := by
  have fin : ∀ (w2 : World), Below (w.heap.size + 1) (w.alloc (.cells #[.bool false] 4)) w2 → (w2.setCell ⟨w.heap.size, 0, none⟩ (.bool true)).cell? ⟨w.heap.size, 0, none⟩ = some (.bool true) ∧ w2.cell? ⟨w.heap.size, 0, none⟩ = some (.bool false) ∧ w2.frozen? ⟨w.heap.size, 0, none⟩ = false ∧ Below w.heap.size w (w2.setCell ⟨w.heap.size, 0, none⟩ (.bool true)) := fun w2 hb => by
    have c := (hb.cell (p := ⟨w.heap.size, 0, none⟩) (Nat.lt_succ_self _)).trans (World.cell?_alloc_new _ _ _ _)
    have f := (hb.frozen (p := ⟨w.heap.size, 0, none⟩) (Nat.lt_succ_self _)).trans (World.frozen?_alloc_new _ _ _ _)
    exact ⟨World.cell?_setCell_same _ _ _ c, c, f, ((balloc (Below.refl _ _) _).trans (hb.mono (by omega))).setCell (p := ⟨w.heap.size, 0, none⟩) (Nat.le_refl _) _⟩
  have hsz : (w.alloc (.cells #[.bool false] 4)).heap.size = w.heap.size + 1 := by simp
  rcases hs with hs | ⟨hn, hs⟩
  ·
    go_enter Try.func5, Try.ntmps5
    go_wp2_with fail
    refine (sides_no n _ hs).mono ?_
    rintro e w1 ⟨rfl, hb1⟩
    rw [hsz] at hb1
    go_wp2_with fail
    refine (awake_any _).mono ?_
    rintro e w2 ⟨rfl, hb2⟩
    obtain ⟨h1, h2, h3, h4⟩ := fin w2 (bthrough hb1 hb2 (by have := hb1.size; omega))
    go_wp2
    refine bodyPost_ret (v := .bool true) (by simp [results, Try.f5, go_sem, h1]) rfl ⟨rfl, h4⟩
  · obtain ⟨k, rfl⟩ : ∃ k : Nat, n = k := ⟨n.toNat, by omega⟩
    have hk : k ≤ 5 := by omega
    have hp := sd_pos k
    have hne : (sd k == 0) = false := by simp; omega
    have hgt : decide ((25 : Int) < (len : Int)) = true := by simp; omega
    go_enter Try.func5, Try.ntmps5
    go_wp2_with fail
    refine (sides_yes k _ hk).mono ?_
    rintro e w1 ⟨rfl, hb1⟩
    rw [hsz] at hb1
    go_wp2_with fail
    refine (awake_any _).mono ?_
    rintro e w2 ⟨rfl, hb2⟩
    obtain ⟨h1, h2, h3, h4⟩ := fin w2 (bthrough hb1 hb2 (by have := hb1.size; omega))
    go_wp2
    refine bodyPost_ret (v := .bool true) (by simp [results, Try.f5, go_sem, h1]) rfl ⟨rfl, h4⟩

set_option maxRecDepth 100000 in
set_option maxHeartbeats 8000000 in
theorem plays_long (k : Nat) (hk : k ≤ 5) (A : Option Addr) (cap : Nat) (l : List Op5) (w : World) (ho : OpsAt w.heap.size w A l) (hl : l.length ≤ 25) :
    Calls Try.prog 5 #[.int .i64 (k : Int), .slice A l.length cap] w fun e w' => e = .returned (.bool true) ∧ Below w.heap.size w w' := by
  have hp32 := pow_32 hk
  have hk8 : k ≤ 8 := by omega
  have hsame := hid (sameG_play (k := k) l)
  have hsides := sides_yes k
  have hplay := fun (w' : World) (b : Below w.heap.size w w') => played_any (B := w.heap.size) k hk A cap l w' b.size (ho.later b) (by omega)
  obtain ⟨s, hs⟩ : ∃ s, s = 2 ^ k := ⟨_, rfl⟩
  have hS := hid hs
  have hsd : sd k = (s : Int) := by rw [hs]; rfl
  have HSD := hid hsd
  obtain ⟨T, hT⟩ : ∃ T, T = s * s := ⟨_, rfl⟩
  have HT := hid hT
  have hsides' : ∀ w', Calls Try.prog 8 #[.int .i64 (k : Int)] w' fun e w'' => e = .returned (.int .i64 (s : Int)) ∧ Below w'.heap.size w' w'' := fun w' => by
    rw [← hsd]
    exact hsides w' hk
  have hplay' : ∀ w', Below w.heap.size w w' → Calls Try.prog 10 #[.int .i64 (s : Int), .slice A l.length cap] w' fun e w'' => ∃ g g' cap', e = .returned (.tuple #[.pointer (some ⟨g, 0, none⟩), .agg #[.int .i64 (s : Int), .slice (some ⟨g', 0, none⟩) T cap']]) ∧
      QuadAt w'' w'.heap.size g (sd k) (playT k l) ∧ (playT k l).fits k ∧ IntsAt w'' w'.heap.size g' T (playF k l) ∧ Below w'.heap.size w' w'' := fun w' b => by
    rw [← hsd]
    refine (hplay w' b).mono ?_
    rintro e w'' ⟨g, vg, e1, e2, e3, ⟨g', cap', e4, e5⟩, e6⟩
    refine ⟨g, g', cap', ?_, e2, e3, by rw [hT, hs]; exact e5, e6⟩
    rw [e1, e4, hT, hs]
    rfl
  have HP := hid hplay'
  have HSI := hid hsides'
  rw [← hs] at hp32
  have hall := plays_all (k := k) (by omega) (sameG_play l) (canon_play k l)
  have hsq : ∀ (w' : World) (N g' cap' : Nat), (playT k l).fits k → IntsAt w' N g' T (playF k l) → Calls Try.prog 19 #[.agg #[.int .i64 (s : Int), .slice (some ⟨g', 0, none⟩) T cap'], .int .i64 0, .int .i64 0, .int .i64 (s : Int)] w' fun e w'' =>
      ∃ v, e = .returned v ∧ w''.ownsRow w'.heap.size 53 4 v (lvs k 0 0 0 0 (sd k) (sd k) (playT k l)).length (sqCells (lvs k 0 0 0 0 (sd k) (sd k) (playT k l))) ∧ Below w'.heap.size w' w'' := fun w' N g' cap' hf hI => by
    rw [hT, hs] at hI
    have h := refSq_any (2 ^ k) g' cap' N (playF k l) (pow_32 hk).2 k 0 0 w' hk (by omega) (by omega) hI
    rw [(hall hf).1] at h
    rw [hT, hs]
    exact h
  have hby : ∀ (w' : World) (N g' cap' : Nat), (playT k l).fits k → IntsAt w' N g' T (playF k l) → Calls Try.prog 22 #[.agg #[.int .i64 (s : Int), .slice (some ⟨g', 0, none⟩) T cap'], .int .i64 0, .int .i64 0, .int .i64 (s : Int)] w' fun e w'' =>
      e = .returned (.string (baOf (bytesT (playT k l)))) ∧ Below w'.heap.size w' w'' := fun w' N g' cap' hf hI => by
    rw [hT, hs] at hI
    have h := refBy_any (2 ^ k) g' cap' N (playF k l) (pow_32 hk).2 (fun i _ => playF_bd k l i) k 0 0 w' hk (by omega) (by omega) hI
    rw [(hall hf).2] at h
    rw [hT, hs]
    exact h
  have hbl : (playT k l).fits k → (bytesT (playT k l)).length ≤ 1000000000 := fun hf => by
    rw [← (hall hf).2]
    have h1 := byG_le (2 ^ k) (playF k l) k 0 0
    have h2 : 4 ^ k ≤ 4 ^ 5 := Nat.pow_le_pow_right (by decide) hk
    have h3 : 4 ^ 5 = 1024 := by decide
    omega
  have HBL := hid hbl
  clear hbl
  have HSQ := hid hsq
  have HBY := hid hby
  clear hall hsq hby
  clear hplay hplay' hsides hsides' hs hsd ho
  have hss : T ≤ 1024 := by rw [hT]; exact Nat.mul_le_mul hp32.2 hp32.2
  clear hT
  refine (callsIn_wide (n := 9)).1 ?_
  refine callsIn_of_wp_marks Try.func5 rfl trivial ?_ rfl
  simp only [Try.ntmps5, List.size_toArray, List.length_cons, List.length_nil, Nat.reduceAdd, Nat.reduceSub, Array.replicate_succ, Array.replicate_zero, List.push_toArray, List.append_toArray, List.nil_append, List.cons_append]
  refine wpIn_wide.2 ?_
  go_wp2_with fail
  refine (HSI.out _).mono ?_
  rintro e w1 ⟨rfl, hb1⟩
  have hbb1 : Below w.heap.size w w1 := bstep (balloc (Below.refl _ _) _) hb1
  have hs1 := hb1.size
  simp at hs1
  have z0 : w1.cell? ⟨w.heap.size, 0, none⟩ = some (.bool false) ∧ w1.frozen? ⟨w.heap.size, 0, none⟩ = false := by
    rw [(bcell hb1).1 _ _ (by simp), (bcell hb1).2 _ _ (by simp)]
    exact ⟨World.cell?_alloc_new _ _ _ _, World.frozen?_alloc_new _ _ _ _⟩
  have hne : ((s : Int) == 0) = false := by simp; omega
  have hgt : decide ((25 : Int) < (l.length : Int)) = false := by simp; omega
  go_wp2_with fail
  refine (HP.out w1 hbb1).mono ?_
  rintro e w2 ⟨g, g', cap', rfl, hq, hfit, hI, hb2⟩
  have HQ := hid hq
  have HF := hid hfit
  have HI := hid hI
  have hs2 := hb2.size
  have hsside : w2.cell? ⟨g, 0, none⟩ = some (.int .i64 (s : Int)) := by rw [← HSD.out]; exact hq.side
  clear hq hfit hI
  have hb3 : Below w1.heap.size w1 (w2.alloc (.cells #[.int .i64 (s : Int), .slice (some ⟨g', 0, none⟩) T cap'] 32)) := bthrough hb2 (balloc (Below.refl _ _) _) hs2
  have hb23 : Below w2.heap.size w2 (w2.alloc (.cells #[.int .i64 (s : Int), .slice (some ⟨g', 0, none⟩) T cap'] 32)) := balloc (Below.refl _ _) _
  have hc7 : ∀ j, (w2.alloc (.cells #[.int .i64 (s : Int), .slice (some ⟨g', 0, none⟩) T cap'] 32)).cell? ⟨w2.heap.size, j, none⟩ = (#[Value.int .i64 (s : Int), .slice (some ⟨g', 0, none⟩) T cap'] : Array Value)[j]? := fun j => World.cell?_alloc_new _ _ _ _
  have hsz7 : w2.heap.size < (w2.alloc (.cells #[.int .i64 (s : Int), .slice (some ⟨g', 0, none⟩) T cap'] 32)).heap.size := by simp
  go_wp2_with fail
  generalize w2.alloc (.cells #[.int .i64 (s : Int), .slice (some ⟨g', 0, none⟩) T cap'] 32) = W3 at hb3 hb23 hc7 hsz7 ⊢
  obtain ⟨B7, hB7⟩ : ∃ B7, B7 = w2.heap.size := ⟨_, rfl⟩
  have HQ3 := hid (HQ.out.below hb23)
  have HI3 := hid (HI.out.below hb23)
  have hs3 := hb3.size
  have z3 : W3.cell? ⟨w.heap.size, 0, none⟩ = some (.bool false) ∧ W3.frozen? ⟨w.heap.size, 0, none⟩ = false := ⟨((bcell hb3).1 _ _ (by omega)).trans z0.1, ((bcell hb3).2 _ _ (by omega)).trans z0.2⟩
  have hbb3 : Below w.heap.size w W3 := bthrough hbb1 hb3 hbb1.size
  have hside3 : W3.cell? ⟨g, 0, none⟩ = some (.int .i64 (s : Int)) := ((bcell hb23).1 _ _ HQ.out.lt).trans hsside
  have c70 := hc7 0
  have c71 := hc7 1
  simp at c70 c71
  clear HQ HI hb1 hb2 hb3 hb23 hbb1 z0 hsside hc7 hB7 B7
  refine (side_get g (s : Int) W3 hside3).mono ?_
  rintro e W4 ⟨rfl, hb4⟩
  have HQ4 := hid (HQ3.out.below hb4)
  have HI4 := hid (HI3.out.below hb4)
  have z4 : W4.cell? ⟨w.heap.size, 0, none⟩ = some (.bool false) ∧ W4.frozen? ⟨w.heap.size, 0, none⟩ = false := ⟨((bcell hb4).1 _ _ (by omega)).trans z3.1, ((bcell hb4).2 _ _ (by omega)).trans z3.2⟩
  have hbb4 : Below w.heap.size w W4 := bthrough hbb3 hb4 hbb3.size
  have hs4 := hb4.size
  have d70 := ((bcell hb4).1 _ _ hsz7).trans c70
  have d71 := ((bcell hb4).1 _ _ hsz7).trans c71
  have hsz4 : w2.heap.size < W4.heap.size := by omega
  have hwl : w.heap.size < W4.heap.size := by omega
  clear HQ3 HI3 hb4 z3 hbb3 hside3 c70 c71 hsz7
  generalize hW : W4 = W3x
  obtain rfl := hW
  go_wp2_with fail
  go_loopw [47] (fun s47 wr => ∃ i : Nat, i ≤ T ∧ s47 = .int .i64 (i : Int) ∧ Below W4.heap.size W4 wr) (fun s47 _ => T - (intOf s47).toNat)
  case atStart => exact ⟨0, Nat.zero_le _, rfl, Below.refl _ _⟩
  case round =>
    obtain ⟨i, hi, rfl, hB⟩ := hrel
    have hsr := hB.size
    have HQr := hid (HQ4.out.below hB)
    by_cases hlt : i < T
    · have ec := (HI4.out.below hB).cell i hlt
      obtain ⟨a0, ha0⟩ : ∃ a0 : Int, a0 = ((i % s : Nat) : Int) := ⟨_, rfl⟩
      obtain ⟨r0, hr0⟩ : ∃ r0 : Int, r0 = ((i / s : Nat) : Int) := ⟨_, rfl⟩
      have hrem : (i : Int) % (s : Int) = a0 := by rw [ha0]; simp
      have hquo : (i : Int) / (s : Int) = r0 := by rw [hr0]; simp
      have hr1 : 0 ≤ r0 ∧ r0 ≤ 1024 := by
        have h9 := Nat.div_le_self i s
        generalize i / s = z9 at hr0 h9
        omega
      have hw3 : wrap64 r0 = r0 := by
        unfold wrap64
        omega
      have hsp : (s : Int) ≠ 0 := by omega
      have hs0 : ¬ s = 0 := by omega
      have hrem2 : (i : Int).tmod (s : Int) = a0 := by rw [Int.tmod_eq_emod_of_nonneg (by omega)]; exact hrem
      have hquo2 : (i : Int).tdiv (s : Int) = r0 := by rw [Int.tdiv_eq_ediv_of_nonneg (by omega)]; exact hquo
      have hw4 : IntKind.i64.wrap r0 = r0 := IntWalk.i64_in _ (by omega)
      have hat := at_tile hk hsame.out HF.out (i := i) (by rw [← hS.out, ← HT.out]; exact hlt)
      rw [← hS.out, ← ha0, ← hr0] at hat
      have HAT := hid hat
      clear ha0 hr0 hat
      generalize playF k l i = Fi at ec HAT
      go_upto_region 10 with fail
      refine wp_region_noPanic ?_
      refine wp_region_held_drew (S := fun _ => True) (by kernel_rfl) trivial (fun hHeld => ?_)
      refine wpAnyH_take (i := 0) (oi := { dst := some 53, op := Op.move (Operand.tmp 6), type := 29, pos := _, after := _, guard := none }) (v := ?_) rfl (by kernel_rfl) (by kernel_rfl) (by kernel_rfl) (fun _ _ _ h => h) (Or.inl ⟨by kernel_rfl, ?_⟩) (by assumption) ?_
      case refine_2 => (intro w hSw; go_simp <;> with_reducible rfl)
      simp only [Act.put, List.setIfInBounds_toArray, List.set_cons_zero, List.set_cons_succ]
      refine wpAnyH_take (i := 1) (oi := { dst := some 54, op := Op.move (Operand.tmp 8), type := 3, pos := _, after := _, guard := none }) (v := ?_) rfl (by kernel_rfl) (by kernel_rfl) (by kernel_rfl) (fun _ _ _ h => h) (Or.inl ⟨by kernel_rfl, ?_⟩) (by assumption) ?_
      case refine_2 => (intro w hSw; go_simp <;> with_reducible rfl)
      simp only [Act.put, List.setIfInBounds_toArray, List.set_cons_zero, List.set_cons_succ]
      refine wpAnyH_take (i := 2) (oi := { dst := some 55, op := Op.move (Operand.tmp 5), type := 3, pos := _, after := _, guard := none }) (v := ?_) rfl (by kernel_rfl) (by kernel_rfl) (by kernel_rfl) (fun _ _ _ h => h) (Or.inl ⟨by kernel_rfl, ?_⟩) (by assumption) ?_
      case refine_2 => (intro w hSw; go_simp <;> with_reducible rfl)
      simp only [Act.put, List.setIfInBounds_toArray, List.set_cons_zero, List.set_cons_succ]
      refine wpAnyH_take (i := 3) (oi := { dst := some 56, op := Op.binOp BinOp.rem 3 (Operand.tmp 54) (Operand.tmp 55) 3, type := 3, pos := _, after := _, guard := none }) (v := ?_) rfl (by kernel_rfl) (by kernel_rfl) (by kernel_rfl) (fun _ _ _ h => h) (Or.inl ⟨by kernel_rfl, ?_⟩) (by assumption) ?_
      case refine_2 => (intro w hSw; go_simp <;> with_reducible rfl)
      simp only [Act.put, List.setIfInBounds_toArray, List.set_cons_zero, List.set_cons_succ]
      refine wpAnyH_take (i := 4) (oi := { dst := some 57, op := Op.move (Operand.tmp 8), type := 3, pos := _, after := _, guard := none }) (v := ?_) rfl (by kernel_rfl) (by kernel_rfl) (by kernel_rfl) (fun _ _ _ h => h) (Or.inl ⟨by kernel_rfl, ?_⟩) (by assumption) ?_
      case refine_2 => (intro w hSw; go_simp <;> with_reducible rfl)
      simp only [Act.put, List.setIfInBounds_toArray, List.set_cons_zero, List.set_cons_succ]
      refine wpAnyH_take (i := 5) (oi := { dst := some 58, op := Op.move (Operand.tmp 5), type := 3, pos := _, after := _, guard := none }) (v := ?_) rfl (by kernel_rfl) (by kernel_rfl) (by kernel_rfl) (fun _ _ _ h => h) (Or.inl ⟨by kernel_rfl, ?_⟩) (by assumption) ?_
      case refine_2 => (intro w hSw; go_simp <;> with_reducible rfl)
      simp only [Act.put, List.setIfInBounds_toArray, List.set_cons_zero, List.set_cons_succ]
      refine wpAnyH_take (i := 6) (oi := { dst := some 59, op := Op.binOp BinOp.quo 3 (Operand.tmp 57) (Operand.tmp 58) 3, type := 3, pos := _, after := _, guard := none }) (v := ?_) rfl (by kernel_rfl) (by kernel_rfl) (by kernel_rfl) (fun _ _ _ h => h) (Or.inl ⟨by kernel_rfl, ?_⟩) (by assumption) ?_
      case refine_2 => (intro w hSw; go_simp <;> with_reducible rfl)
      simp only [Act.put, List.setIfInBounds_toArray, List.set_cons_zero, List.set_cons_succ]
      refine wpAnyH_ready (rs := [7]) (by kernel_rfl) (by simp) ?_
      refine AllReadyH.cons (o := { dst := some 60, op := Op.call { callee := Callee.value (Operand.func 18), args := #[Operand.tmp 53, Operand.tmp 56, Operand.tmp 59], argTypes := #[29, 3, 3] }, type := 37, pos := _, after := _, guard := none }) rfl (fun K hK => ?_) AllReadyH.nil
      go_simp
      go_at_call 18
      refine (at_any _ g k _ a0 r0 wr.drew (HQr.out.below (Below.drew (Below.refl _ _))) HF.out hk8).mono ?_
      rintro e wq ⟨rfl, hbq⟩
      rw [HAT.out]
      refine hK.out _ _ trivial (fun _ => ?_)
      clear hK K
      refine wpAnyH_take (i := 8) (oi := { dst := some 52, op := Op.move (Operand.tmp 60), type := 37, pos := _, after := _, guard := none }) (v := ?_) rfl (by kernel_rfl) (by kernel_rfl) (by kernel_rfl) (fun _ _ _ h => h) (Or.inl ⟨by kernel_rfl, ?_⟩) (by assumption) ?_
      case refine_2 => (intro w hSw; go_simp <;> with_reducible rfl)
      simp only [Act.put, List.setIfInBounds_toArray, List.set_cons_zero, List.set_cons_succ]
      refine wpAnyH_take (i := 9) (oi := { dst := some 61, op := Op.extract (Operand.tmp 52) 0, type := 3, pos := _, after := _, guard := none }) (v := ?_) rfl (by kernel_rfl) (by kernel_rfl) (by kernel_rfl) (fun _ _ _ h => h) (Or.inl ⟨by kernel_rfl, ?_⟩) (by assumption) ?_
      case refine_2 => (intro w hSw; go_simp <;> with_reducible rfl)
      simp only [Act.put, List.setIfInBounds_toArray, List.set_cons_zero, List.set_cons_succ]
      refine wpAnyH_take (i := 10) (oi := { dst := some 62, op := Op.extract (Operand.tmp 52) 1, type := 4, pos := _, after := _, guard := none }) (v := ?_) rfl (by kernel_rfl) (by kernel_rfl) (by kernel_rfl) (fun _ _ _ h => h) (Or.inl ⟨by kernel_rfl, ?_⟩) (by assumption) ?_
      case refine_2 => (intro w hSw; go_simp <;> with_reducible rfl)
      simp only [Act.put, List.setIfInBounds_toArray, List.set_cons_zero, List.set_cons_succ]
      refine wpAnyH_take (i := 11) (oi := { dst := some 10, op := Op.assign (Operand.tmp 61), type := 3, pos := _, after := _, guard := none }) (v := ?_) rfl (by kernel_rfl) (by kernel_rfl) (by kernel_rfl) (fun _ _ _ h => h) (Or.inl ⟨by kernel_rfl, ?_⟩) (by assumption) ?_
      case refine_2 => (intro w hSw; go_simp <;> with_reducible rfl)
      simp only [Act.put, List.setIfInBounds_toArray, List.set_cons_zero, List.set_cons_succ]
      refine wpAnyH_take (i := 12) (oi := { dst := some 11, op := Op.assign (Operand.tmp 62), type := 4, pos := _, after := _, guard := none }) (v := ?_) rfl (by kernel_rfl) (by kernel_rfl) (by kernel_rfl) (fun _ _ _ h => h) (Or.inl ⟨by kernel_rfl, ?_⟩) (by assumption) ?_
      case refine_2 => (intro w hSw; go_simp <;> with_reducible rfl)
      simp only [Act.put, List.setIfInBounds_toArray, List.set_cons_zero, List.set_cons_succ]
      refine wpAnyH_done (by kernel_rfl) ?_ _
      refine NoPanic.normal ?_
      have hBq : Below W4.heap.size W4 wq := bthrough hB ((Below.drew (Below.refl _ _)).trans hbq) hsr
      go_wp2_with fail
      go_roundw
      case rel => exact ⟨i + 1, by omega, by go_num, hBq⟩
      case measure => simp [intOf]; omega
    · have hiT : i = T := by omega
      subst i
      go_wp2_with fail
      have hc5 : ∀ j, (wr.alloc (.cells #[.int .i64 (-1), .int .i64 0, .int .i64 0, .int .i64 (-1), .int .i64 (s : Int), .int .i64 0, .int .i64 0, .int .i64 (s : Int)] 45)).cell? ⟨wr.heap.size, j, none⟩ = (#[Value.int .i64 (-1), .int .i64 0, .int .i64 0, .int .i64 (-1), .int .i64 (s : Int), .int .i64 0, .int .i64 0, .int .i64 (s : Int)] : Array Value)[j]? := fun j => World.cell?_alloc_new _ _ _ _
      have hb5 : Below W4.heap.size W4 (wr.alloc (.cells #[.int .i64 (-1), .int .i64 0, .int .i64 0, .int .i64 (-1), .int .i64 (s : Int), .int .i64 0, .int .i64 0, .int .i64 (s : Int)] 45)) := bthrough hB (balloc (Below.refl _ _) _) hsr
      have hsz5 : wr.heap.size < (wr.alloc (.cells #[.int .i64 (-1), .int .i64 0, .int .i64 0, .int .i64 (-1), .int .i64 (s : Int), .int .i64 0, .int .i64 0, .int .i64 (s : Int)] 45)).heap.size := by simp
      generalize wr.alloc (.cells #[.int .i64 (-1), .int .i64 0, .int .i64 0, .int .i64 (-1), .int .i64 (s : Int), .int .i64 0, .int .i64 0, .int .i64 (s : Int)] 45) = W5 at hc5 hb5 hsz5 ⊢
      generalize wr.heap.size = bx at hc5 hsz5 ⊢
      have q0 := hc5 0
      have q1 := hc5 1
      have q2 := hc5 2
      have q3 := hc5 3
      have q4 := hc5 4
      have q5 := hc5 5
      have q6 := hc5 6
      have q7 := hc5 7
      simp at q0 q1 q2 q3 q4 q5 q6 q7
      have HQ5 := hid (HQ4.out.below hb5)
      have HI5 := hid (HI4.out.below hb5)
      have hbb5 := bthrough hbb4 hb5 hbb4.size
      have hs5 := hb5.size
      have z5 : W5.cell? ⟨w.heap.size, 0, none⟩ = some (.bool false) ∧ W5.frozen? ⟨w.heap.size, 0, none⟩ = false := ⟨((bcell hb5).1 _ _ hwl).trans z4.1, ((bcell hb5).2 _ _ hwl).trans z4.2⟩
      have f70 := ((bcell hb5).1 _ _ hsz4).trans d70
      have f71 := ((bcell hb5).1 _ _ hsz4).trans d71
      clear hc5 hb5 z4 d70 d71 HQ4 HI4 hbb4
      go_loopw [79] (fun s79 wr => ∃ i : Nat, i ≤ 4 ∧ s79 = .int .i64 (i : Int) ∧ Below W5.heap.size W5 wr) (fun s79 _ => 4 - (intOf s79).toNat)
      case atStart => exact ⟨0, Nat.zero_le _, rfl, Below.refl _ _⟩
      case round =>
        obtain ⟨i, hi4, rfl, hBr⟩ := hrel
        have hsr := hBr.size
        have HQr := hid (HQ5.out.below hBr)
        have x0 := ((bcell hBr).1 bx 0 hsz5).trans q0
        have x1 := ((bcell hBr).1 bx 1 hsz5).trans q1
        have x2 := ((bcell hBr).1 bx 2 hsz5).trans q2
        have x3 := ((bcell hBr).1 bx 3 hsz5).trans q3
        have x4 := ((bcell hBr).1 bx 4 hsz5).trans q4
        have x5 := ((bcell hBr).1 bx 5 hsz5).trans q5
        have x6 := ((bcell hBr).1 bx 6 hsz5).trans q6
        have x7 := ((bcell hBr).1 bx 7 hsz5).trans q7
        obtain rfl | rfl | rfl | rfl | rfl : i = 0 ∨ i = 1 ∨ i = 2 ∨ i = 3 ∨ i = 4 := by omega
        ·
          go_wp2_with fail
          refine (at_any _ g k _ (-1) (0) _ (HQr.out.below (balloc (Below.refl _ _) _)) HF.out hk8).mono ?_
          rintro e wq ⟨rfl, hbq⟩
          rw [at_none hsame.out HF.out (by rw [HSD.out]; omega)]
          have hBq : Below W5.heap.size W5 wq := bthrough hBr (bthrough (balloc (Below.refl _ _) _) hbq (by simp)) hBr.size
          go_wp2_with fail
          go_roundw
          case rel => exact ⟨1, by omega, by go_num, hBq⟩
          case measure => simp [intOf]
        ·
          go_wp2_with fail
          refine (at_any _ g k _ (0) (-1) _ (HQr.out.below (balloc (Below.refl _ _) _)) HF.out hk8).mono ?_
          rintro e wq ⟨rfl, hbq⟩
          rw [at_none hsame.out HF.out (by rw [HSD.out]; omega)]
          have hBq : Below W5.heap.size W5 wq := bthrough hBr (bthrough (balloc (Below.refl _ _) _) hbq (by simp)) hBr.size
          go_wp2_with fail
          go_roundw
          case rel => exact ⟨2, by omega, by go_num, hBq⟩
          case measure => simp [intOf]
        ·
          go_wp2_with fail
          refine (at_any _ g k _ ((s : Int)) (0) _ (HQr.out.below (balloc (Below.refl _ _) _)) HF.out hk8).mono ?_
          rintro e wq ⟨rfl, hbq⟩
          rw [at_none hsame.out HF.out (by rw [HSD.out]; omega)]
          have hBq : Below W5.heap.size W5 wq := bthrough hBr (bthrough (balloc (Below.refl _ _) _) hbq (by simp)) hBr.size
          go_wp2_with fail
          go_roundw
          case rel => exact ⟨3, by omega, by go_num, hBq⟩
          case measure => simp [intOf]
        ·
          go_wp2_with fail
          refine (at_any _ g k _ (0) ((s : Int)) _ (HQr.out.below (balloc (Below.refl _ _) _)) HF.out hk8).mono ?_
          rintro e wq ⟨rfl, hbq⟩
          rw [at_none hsame.out HF.out (by rw [HSD.out]; omega)]
          have hBq : Below W5.heap.size W5 wq := bthrough hBr (bthrough (balloc (Below.refl _ _) _) hbq (by simp)) hBr.size
          go_wp2_with fail
          go_roundw
          case rel => exact ⟨4, by omega, by go_num, hBq⟩
          case measure => simp [intOf]
        ·
          have g70 := ((bcell hBr).1 w2.heap.size 0 (by omega)).trans f70
          have g71 := ((bcell hBr).1 w2.heap.size 1 (by omega)).trans f71
          have z6 : wr.cell? ⟨w.heap.size, 0, none⟩ = some (.bool false) ∧ wr.frozen? ⟨w.heap.size, 0, none⟩ = false := ⟨((bcell hBr).1 _ _ (by omega)).trans z5.1, ((bcell hBr).2 _ _ (by omega)).trans z5.2⟩
          have hbb6 := bthrough hbb5 hBr hbb5.size
          have HI6 := hid (HI5.out.below hBr)
          have l7 : w2.heap.size < wr.heap.size := by omega
          have l0 : w.heap.size < wr.heap.size := by omega
          clear x0 x1 x2 x3 x4 x5 x6 x7 q0 q1 q2 q3 q4 q5 q6 q7 f70 f71 z5 hbb5 HI5 HQ5 hBr hsz5 hsz4 hwl
          obtain ⟨all, hall⟩ : ∃ all, all = lvs k 0 0 0 0 (sd k) (sd k) (playT k l) := ⟨_, rfl⟩
          have HALL := hid hall
          have hpos : 0 < all.length := by rw [hall]; exact lvs_pos hk8 HF.out
          have hmany : all.length ≤ 1000000000 := by rw [hall]; exact Nat.le_trans (lvs_len _ _ _ _ _ _ _ _) (Nat.le_of_lt (nodes_small HF.out hk8))
          have hsq6 := HSQ.out wr _ g' cap' HF.out HI6.out
          rw [← hall] at hsq6
          clear hall
          have HSQ6 := hid hsq6
          clear hsq6
          go_wp2_with fail
          refine HSQ6.out.mono ?_
          rintro e u1 ⟨vs, rfl, hos, hbs⟩
          obtain ⟨gs, caps, rfl, _, hgs, hget⟩ := own_get hos hpos
          have HGET := hid hget
          have hz7 : u1.cell? ⟨w.heap.size, 0, none⟩ = some (.bool false) ∧ u1.frozen? ⟨w.heap.size, 0, none⟩ = false := ⟨((bcell hbs).1 _ _ l0).trans z6.1, ((bcell hbs).2 _ _ l0).trans z6.2⟩
          have h70 := ((bcell hbs).1 w2.heap.size 0 l7).trans g70
          have h71 := ((bcell hbs).1 w2.heap.size 1 l7).trans g71
          have HQ7 := hid (HQr.out.below hbs)
          have HI7 := hid (HI6.out.below hbs)
          have hbb7 := bthrough hbb6 hbs hbb6.size
          have hsu := hbs.size
          have hside7 : u1.cell? ⟨g, 0, none⟩ = some (.int .i64 (s : Int)) := by rw [← HSD.out]; exact HQ7.out.side
          have hg7 := HQ7.out.lt
          have l70 : w2.heap.size < u1.heap.size := by omega
          have l00 : w.heap.size < u1.heap.size := by omega
          clear hos hget hbs z6 g70 g71 HQr HI6 hbb6 HSQ6
          go_wp2_with fail
          have hg71 : g < u1.heap.size + 1 := by omega
          refine (squares_iter g (s : Int) _ (by simp; omega) (by simp [go_sem, hside7, hg7, hg71])).mono ?_
          rintro e w9 ⟨w8, hb8, rfl, rfl⟩
          have hs8 := hb8.size
          simp at hs8
          have c16 : w8.cell? ⟨u1.heap.size, 0, none⟩ = some (.slice (some ⟨gs, 0, none⟩) all.length caps) := by rw [(bcell hb8).1 _ _ (by simp; try omega)]; simp [go_sem]
          have c17 : w8.cell? ⟨u1.heap.size + 1, 0, none⟩ = some (.int .i64 0) := by rw [(bcell hb8).1 _ _ (by simp; try omega)]; simp [go_sem]
          have f17 : w8.frozen? ⟨u1.heap.size + 1, 0, none⟩ = false := by rw [(bcell hb8).2 _ _ (by simp; try omega)]; simp [go_sem]
          have hB8 : Below u1.heap.size u1 w8 := bstep (balloc (balloc (Below.refl _ _) _) _) hb8
          clear hb8 hside7 hg7 hg71
          go_wp2_with fail
          obtain ⟨W0, hW0⟩ : ∃ W0, W0 = ((w8.alloc (.cells #[.pointer (some ⟨g, 0, none⟩)] 29)).alloc (.cells #[.int .i64 0, .int .i64 0, .int .i64 (s : Int), .int .i64 (s : Int)] 24)) := ⟨_, rfl⟩
          rw [← hW0]
          have hB0 : Below u1.heap.size u1 W0 := hW0 ▸ hB8.trans ((balloc (balloc (Below.refl _ _) _) _).mono (by omega))
          have hsz0 : W0.heap.size = w8.heap.size + 2 := by rw [hW0]; simp
          have hH := meets_hands 8 _ g w8.heap.size (w8.heap.size + 1) k (playT k l) 0 0 (sd k) (sd k) (w8.heap.size + 2) u1 W0 hB0 HQ7.out HF.out hk8 (by omega) (by omega) (by omega) (by rw [hW0]; simp [go_sem]) (by rw [hW0]; simp [go_sem]) (by rw [hW0]; simp [go_sem]) (by rw [hW0, HSD.out]; simp [go_sem]) (by rw [hW0, HSD.out]; simp [go_sem])
          rw [← HALL.out] at hH
          have i0 : W0.cell? ⟨u1.heap.size, 0, none⟩ = some (.slice (some ⟨gs, 0, none⟩) all.length caps) ∧ W0.cell? ⟨u1.heap.size + 1, 0, none⟩ = some (.int .i64 0) ∧ W0.frozen? ⟨u1.heap.size + 1, 0, none⟩ = false := by
            rw [hW0]
            have l0 : u1.heap.size < w8.heap.size := by omega
            have l1 : u1.heap.size + 1 < w8.heap.size := by omega
            simp [go_sem, c16, c17, f17, l0, l1]
          clear hW0 c16 c17 f17 hB8
          refine (wpIn_wide (n := 9)).1 ?_
          refine' wpIn_rangeFunc_made rfl (by omega) (gf := 43) (lb := #[.pointer (some ⟨w8.heap.size, 0, none⟩), .pointer (some ⟨w8.heap.size + 1, 0, none⟩)]) rfl trivial (enters_of Try.func43 (by kernel_rfl) rfl)
            hH (fun h k => h.trans k) (fun W l o o' hl h1 h2 h3 => keepL_b (by omega) W l o o' hl h1 h2 h3) (Below.refl _ _) (fun _ => rfl)
            (fun pre W => (W.cell? ⟨u1.heap.size, 0, none⟩ = some (.slice (some ⟨gs, 0, none⟩) all.length caps) ∧ W.cell? ⟨u1.heap.size + 1, 0, none⟩ = some (.int .i64 (pre.length : Int)) ∧ W.frozen? ⟨u1.heap.size + 1, 0, none⟩ = false) ∧ Below u1.heap.size u1 W)
            (fun _ _ _ => False)
            (OwnFrom.and (Own.from (fun s A B row hs hg hr => ⟨cell_kept hs.1 hg hr, cell_kept hs.2.1 hg hr, (frozen_kept hs.2.1 hg hr).trans hs.2.2⟩) _) (ownFrom_below (Nat.le_refl _) (by omega)))
            (fun _ _ _ _ _ hs _ _ => hs)
            (nextG_own _)
            ⟨i0, hB0⟩
            _ (fun p => .cells #[.int .i64 p.1, .int .i64 p.2.1, .int .i64 p.2.2.1, .int .i64 p.2.2.1] 24) (fun W o hl => KpL.of_below (balloc (Below.refl _ _) _) (by omega)) ?assign ?body ?done ?stop
          case assign =>
            intro lp p W m K hm hK
            gi_wp2
            rw [← hm]
            exact hK
          case body =>
            rintro lp pre p W m ⟨⟨c16, c17, f17⟩, hB⟩ hlt hn2 hm1 hm2 hmx
            have hallp : all[pre.length]? = some p := by
              obtain ⟨r, hr⟩ := hn2
              rw [← hr]
              simp
            obtain ⟨e0, e1, e2, e3⟩ := sqCells_get hallp
            have f0 := HGET.out _ _ e0
            have f1 := HGET.out _ _ e1
            have f2 := HGET.out _ _ e2
            have f3 := HGET.out _ _ e3
            rw [Addr.add_lit, Nat.zero_add] at f0 f1 f2 f3
            have y0 := (hB.cell (p := ⟨gs, pre.length * 4, none⟩) hgs).trans f0
            have y1 := (hB.cell (p := ⟨gs, pre.length * 4 + 1, none⟩) hgs).trans f1
            have y2 := (hB.cell (p := ⟨gs, pre.length * 4 + 2, none⟩) hgs).trans f2
            have y3 := (hB.cell (p := ⟨gs, pre.length * 4 + 3, none⟩) hgs).trans f3
            have x0 : W.cell? ⟨m, 0, none⟩ = some (.int .i64 p.1) := cell_of_heap hmx
            have x1 : W.cell? ⟨m, 1, none⟩ = some (.int .i64 p.2.1) := cell_of_heap hmx
            have x2 : W.cell? ⟨m, 2, none⟩ = some (.int .i64 p.2.2.1) := cell_of_heap hmx
            have x3 : W.cell? ⟨m, 3, none⟩ = some (.int .i64 p.2.2.1) := cell_of_heap hmx
            have hlt2 : (pre.length : Int) < (all.length : Int) := by omega
            have d1 : decide ((pre.length : Int) ≥ (all.length : Int)) = false := decide_eq_false (by omega)
            have d2 : decide ((all.length : Int) ≤ (pre.length : Int)) = false := decide_eq_false (by omega)
            have d3 : decide (all.length ≤ pre.length) = false := decide_eq_false (by omega)
            have hwn : IntKind.i64.wrap ((pre.length : Int) + 1) = ((pre.length + 1 : Nat) : Int) := by rw [IntWalk.i64_in _ (by omega)]; omega
            have hsW := hB.size
            clear f0 f1 f2 f3 e0 e1 e2 e3 hallp
            gi_wp2_with fail
            refine region_quiet_round (by kernel_rfl) (by kernel_rfl) (by kernel_rfl) ?_
            repeat (gi_big_quiet_step (fail))
            refine wpQuietIn_nil ?_
            intro _ hw'
            obtain ⟨nq, hw''⟩ := hw'
            subst hw''
            have v17 : (W.drewN nq).cell? ⟨u1.heap.size + 1, 0, none⟩ = some (.int .i64 (pre.length : Int)) := by simpa using c17
            have w17 : (W.drewN nq).frozen? ⟨u1.heap.size + 1, 0, none⟩ = false := by simpa using f17
            have v16 : (W.drewN nq).cell? ⟨u1.heap.size, 0, none⟩ = some (.slice (some ⟨gs, 0, none⟩) all.length caps) := by simpa using c16
            have hBd : Below W.heap.size W (W.drewN nq) := below_drewN (Below.refl _ _) nq
            clear x0 x1 x2 x3 y0 y1 y2 y3 d1 d2 d3
            gi_wp2
            refine ⟨((keepsOthers_below hBd).trans (KeepsOthers.setCell _ _ _)).from _, (KpL.of_below hBd (by omega)).trans (keepL_set _ _ _ _ (by omega) (by omega)), ⟨?_, ?_, ?_⟩, (hB.trans (hBd.mono hsW)).setCell (p := ⟨u1.heap.size + 1, 0, none⟩) (by simp) _⟩
            · rw [World.cell?_setCell_other _ _ _ _ (by simp)]; exact v16
            · rw [World.cell?_setCell_same _ _ _ v17]; simp
            · rw [World.frozen?_setCell]; exact w17
          case done =>
            rintro D ys W hD hys ⟨⟨c16, c17, f17⟩, hB⟩ hKD
            subst ys
            rw [hsz0] at hD
            have hDl : D < W.heap.size := (Array.getElem?_eq_some_iff.1 hKD).1
            have hsW := hB.size
            have hbbW := hid (bthrough hbb7 hB hbb7.size)
            have HQW := hid (HQ7.out.below hB)
            have HIW := hid (HI7.out.below hB)
            have zW : W.cell? ⟨w.heap.size, 0, none⟩ = some (.bool false) ∧ W.frozen? ⟨w.heap.size, 0, none⟩ = false := ⟨((bcell hB).1 _ _ l00).trans hz7.1, ((bcell hB).2 _ _ l00).trans hz7.2⟩
            have e70 := ((bcell hB).1 w2.heap.size 0 l70).trans h70
            have e71 := ((bcell hB).1 w2.heap.size 1 l70).trans h71
            have hwW : w.heap.size ≤ W.heap.size := by omega
            have hu1 : u1.heap.size + 1 < W.heap.size := World.block_lt_of_cell? _ _ c17
            have hnod : (playT k l).nodes < 1000000000 := nodes_small HF.out hk8
            have hr0 := right_own hk8
            have hnq := nodes_lvs k 0 0 0 0 (sd k) (sd k) (playT k l) HF.out hr0 (by simp [inB, hr0])
            rw [← HALL.out] at hnq
            have HNOD := hid hnq
            have hbyl := HBL.out HF.out
            clear hnq hr0 hbb7 h70 h71
            have l17 : ∀ w', But w.heap.size w.heap.size W w' → w'.cell? ⟨u1.heap.size + 1, 0, none⟩ = some (.int .i64 (all.length : Int)) := fun w' hw' => (hw'.cell _ _ hu1 (by omega)).trans c17
            have l16 : ∀ w', But w.heap.size w.heap.size W w' → w'.cell? ⟨u1.heap.size, 0, none⟩ = some (.slice (some ⟨gs, 0, none⟩) all.length caps) := fun w' hw' => (hw'.cell _ _ (by omega) (by omega)).trans c16
            have l50 : ∀ w', But w.heap.size w.heap.size W w' → w'.cell? ⟨w2.heap.size, 0, none⟩ = some (.int .i64 (s : Int)) := fun w' hw' => (hw'.cell _ _ (by omega) (by omega)).trans e70
            have l51 : ∀ w', But w.heap.size w.heap.size W w' → w'.cell? ⟨w2.heap.size, 1, none⟩ = some (.slice (some ⟨g', 0, none⟩) T cap') := fun w' hw' => (hw'.cell _ _ (by omega) (by omega)).trans e71
            clear c16 c17 f17
            go_wp2_with fail
            refine wp_region_noPanic ?_
            refine wp_region_held_drew (S := fun w' => But w.heap.size w.heap.size W w') (by kernel_rfl) (But.of_below (Below.drew (Below.refl _ _)) hwW) (fun hHeld => ?_)
            refine wpAnyH_take (i := 0) (oi := { dst := some 145, op := Op.load 3 (Operand.tmp 17), type := 3, pos := _, after := _, guard := none }) (v := ?_) rfl (by kernel_rfl) (by kernel_rfl) (by kernel_rfl) (fun _ _ _ h => h) (Or.inl ⟨by kernel_rfl, ?_⟩) (by assumption) ?_
            case refine_2 => (intro w hSw; go_simp <;> with_reducible rfl)
            simp only [Act.put, List.setIfInBounds_toArray, List.set_cons_zero, List.set_cons_succ]
            refine wpAnyH_take (i := 1) (oi := { dst := some 146, op := Op.load 47 (Operand.tmp 16), type := 47, pos := _, after := _, guard := none }) (v := ?_) rfl (by kernel_rfl) (by kernel_rfl) (by kernel_rfl) (fun _ _ _ h => h) (Or.inl ⟨by kernel_rfl, ?_⟩) (by assumption) ?_
            case refine_2 => (intro w hSw; go_simp <;> with_reducible rfl)
            simp only [Act.put, List.setIfInBounds_toArray, List.set_cons_zero, List.set_cons_succ]
            refine wpAnyH_take (i := 2) (oi := { dst := some 147, op := Op.call { callee := Callee.builtin Builtin.len, args := #[Operand.tmp 146], argTypes := #[47] }, type := 3, pos := _, after := _, guard := none }) (v := ?_) rfl (by kernel_rfl) (by kernel_rfl) (by kernel_rfl) (fun _ _ _ h => h) (Or.inl ⟨by kernel_rfl, ?_⟩) (by assumption) ?_
            case refine_2 => (intro w hSw; go_simp <;> with_reducible rfl)
            simp only [Act.put, List.setIfInBounds_toArray, List.set_cons_zero, List.set_cons_succ]
            refine wpAnyH_take (i := 3) (oi := { dst := some 148, op := Op.binOp BinOp.eql 3 (Operand.tmp 145) (Operand.tmp 147) 3, type := 4, pos := _, after := _, guard := none }) (v := ?_) rfl (by kernel_rfl) (by kernel_rfl) (by kernel_rfl) (fun _ _ _ h => h) (Or.inl ⟨by kernel_rfl, ?_⟩) (by assumption) ?_
            case refine_2 => (intro w hSw; go_simp <;> with_reducible rfl)
            simp only [Act.put, List.setIfInBounds_toArray, List.set_cons_zero, List.set_cons_succ]
            refine wpAnyH_take (i := 4) (oi := { dst := some 149, op := Op.move (Operand.tmp 148), type := 4, pos := _, after := _, guard := none }) (v := ?_) rfl (by kernel_rfl) (by kernel_rfl) (by kernel_rfl) (fun _ _ _ h => h) (Or.inl ⟨by kernel_rfl, ?_⟩) (by assumption) ?_
            case refine_2 => (intro w hSw; go_simp <;> with_reducible rfl)
            simp only [Act.put, List.setIfInBounds_toArray, List.set_cons_zero, List.set_cons_succ]
            refine wpAnyH_take (i := 5) (oi := { dst := some 150, op := Op.move (Operand.tmp 6), type := 29, pos := _, after := _, guard := some (4, true) }) (v := ?_) rfl (by kernel_rfl) (by kernel_rfl) (by kernel_rfl) (fun _ _ _ h => h) (Or.inl ⟨by kernel_rfl, ?_⟩) (by assumption) ?_
            case refine_2 => (intro w hSw; go_simp <;> with_reducible rfl)
            simp only [Act.put, List.setIfInBounds_toArray, List.set_cons_zero, List.set_cons_succ]
            obtain ⟨qu1, qu2, qu3, qu4⟩ := quartS HNOD.out hmany
            refine wpAnyH_take (i := 7) (oi := { dst := some 152, op := Op.load 3 (Operand.tmp 17), type := 3, pos := _, after := _, guard := some (4, true) }) (v := ?_) rfl (by kernel_rfl) (by kernel_rfl) (by kernel_rfl) (fun _ _ _ h => h) (Or.inl ⟨by kernel_rfl, ?_⟩) (by assumption) ?_
            case refine_2 => (intro w hSw; go_simp <;> with_reducible rfl)
            simp only [Act.put, List.setIfInBounds_toArray, List.set_cons_zero, List.set_cons_succ]
            refine wpAnyH_take (i := 8) (oi := { dst := some 153, op := Op.binOp BinOp.mul 3 (Operand.const (Value.int IntKind.i64 4)) (Operand.tmp 152) 3, type := 3, pos := _, after := _, guard := some (4, true) }) (v := ?_) rfl (by kernel_rfl) (by kernel_rfl) (by kernel_rfl) (fun _ _ _ h => h) (Or.inl ⟨by kernel_rfl, ?_⟩) (by assumption) ?_
            case refine_2 => (intro w hSw; go_simp <;> with_reducible rfl)
            simp only [Act.put, List.setIfInBounds_toArray, List.set_cons_zero, List.set_cons_succ]
            refine wpAnyH_take (i := 9) (oi := { dst := some 154, op := Op.binOp BinOp.sub 3 (Operand.tmp 153) (Operand.const (Value.int IntKind.i64 1)) 3, type := 3, pos := _, after := _, guard := some (4, true) }) (v := ?_) rfl (by kernel_rfl) (by kernel_rfl) (by kernel_rfl) (fun _ _ _ h => h) (Or.inl ⟨by kernel_rfl, ?_⟩) (by assumption) ?_
            case refine_2 => (intro w hSw; go_simp <;> with_reducible rfl)
            simp only [Act.put, List.setIfInBounds_toArray, List.set_cons_zero, List.set_cons_succ]
            refine wpAnyH_take (i := 10) (oi := { dst := some 155, op := Op.binOp BinOp.quo 3 (Operand.tmp 154) (Operand.const (Value.int IntKind.i64 3)) 3, type := 3, pos := _, after := _, guard := some (4, true) }) (v := ?_) rfl (by kernel_rfl) (by kernel_rfl) (by kernel_rfl) (fun _ _ _ h => h) (Or.inl ⟨by kernel_rfl, ?_⟩) (by assumption) ?_
            case refine_2 => (intro w hSw; go_simp <;> with_reducible rfl)
            simp only [Act.put, List.setIfInBounds_toArray, List.set_cons_zero, List.set_cons_succ]
            clear qu1 qu2 qu3 qu4
            refine wpAnyH_ready (rs := [6]) (by kernel_rfl) (by simp) ?_
            refine AllReadyH.cons (o := { dst := some 151, op := Op.call { callee := Callee.value (Operand.func 17), args := #[Operand.tmp 150], argTypes := #[29] }, type := 3, pos := _, after := _, guard := some (4, true) }) rfl (fun K hK => ?_) AllReadyH.nil
            go_simp
            go_at_call 17
            refine (nodes_get _ g _ _ _ (HQW.out.below (Below.drew (Below.refl _ _))) hnod).mono ?_
            rintro e w4 ⟨rfl, hb4⟩
            have hB4 : Below W.heap.size W w4 := bthrough (Below.drew (Below.refl _ _)) hb4 (Nat.le_refl _)
            have hs4 : But w.heap.size w.heap.size W w4 := But.of_below hB4 hwW
            refine hK.out _ _ hs4 (fun _ => ?_)
            clear hK K hHeld hb4
            try simp only [Act.put, List.setIfInBounds_toArray, List.set_cons_zero, List.set_cons_succ]
            refine wpAnyH_take (i := 11) (oi := { dst := some 156, op := Op.binOp BinOp.eql 3 (Operand.tmp 151) (Operand.tmp 155) 3, type := 4, pos := _, after := _, guard := some (4, true) }) (v := ?_) rfl (by kernel_rfl) (by kernel_rfl) (by kernel_rfl) (fun _ _ _ h => h) (Or.inl ⟨by kernel_rfl, ?_⟩) (by assumption) ?_
            case refine_2 => (intro w hSw; go_simp <;> with_reducible rfl)
            simp only [Act.put, List.setIfInBounds_toArray, List.set_cons_zero, List.set_cons_succ]
            refine wpAnyH_take (i := 12) (oi := { dst := some 157, op := Op.pick (Operand.tmp 149) (Operand.tmp 156) (Operand.const (Value.bool false)), type := 4, pos := _, after := _, guard := none }) (v := ?_) rfl (by kernel_rfl) (by kernel_rfl) (by kernel_rfl) (fun _ _ _ h => h) (Or.inl ⟨by kernel_rfl, ?_⟩) (by assumption) ?_
            case refine_2 => (intro w hSw; go_simp <;> with_reducible rfl)
            simp only [Act.put, List.setIfInBounds_toArray, List.set_cons_zero, List.set_cons_succ]
            refine wpAnyH_take (i := 13) (oi := { dst := some 158, op := Op.move (Operand.tmp 157), type := 4, pos := _, after := _, guard := none }) (v := ?_) rfl (by kernel_rfl) (by kernel_rfl) (by kernel_rfl) (fun _ _ _ h => h) (Or.inl ⟨by kernel_rfl, ?_⟩) (by assumption) ?_
            case refine_2 => (intro w hSw; go_simp <;> with_reducible rfl)
            simp only [Act.put, List.setIfInBounds_toArray, List.set_cons_zero, List.set_cons_succ]
            refine wpAnyH_take (i := 14) (oi := { dst := some 159, op := Op.move (Operand.tmp 6), type := 29, pos := _, after := _, guard := some (13, true) }) (v := ?_) rfl (by kernel_rfl) (by kernel_rfl) (by kernel_rfl) (fun _ _ _ h => h) (Or.inl ⟨by kernel_rfl, ?_⟩) (by assumption) ?_
            case refine_2 => (intro w hSw; go_simp <;> with_reducible rfl)
            simp only [Act.put, List.setIfInBounds_toArray, List.set_cons_zero, List.set_cons_succ]
            refine wpAnyH_take (i := 17) (oi := { dst := some 162, op := Op.load 32 (Operand.tmp 7), type := 32, pos := _, after := _, guard := some (13, true) }) (v := ?_) rfl (by kernel_rfl) (by kernel_rfl) (by kernel_rfl) (fun _ _ _ h => h) (Or.inl ⟨by kernel_rfl, ?_⟩) (by assumption) ?_
            case refine_2 => (intro w hSw; go_simp <;> with_reducible rfl)
            simp only [Act.put, List.setIfInBounds_toArray, List.set_cons_zero, List.set_cons_succ]
            refine wpAnyH_take (i := 18) (oi := { dst := some 163, op := Op.move (Operand.tmp 5), type := 3, pos := _, after := _, guard := some (13, true) }) (v := ?_) rfl (by kernel_rfl) (by kernel_rfl) (by kernel_rfl) (fun _ _ _ h => h) (Or.inl ⟨by kernel_rfl, ?_⟩) (by assumption) ?_
            case refine_2 => (intro w hSw; go_simp <;> with_reducible rfl)
            simp only [Act.put, List.setIfInBounds_toArray, List.set_cons_zero, List.set_cons_succ]
            refine wpAnyH_ready (rs := [15]) (by kernel_rfl) (by simp) ?_
            refine AllReadyH.cons (o := { dst := some 160, op := Op.call { callee := Callee.value (Operand.func 21), args := #[Operand.tmp 159], argTypes := #[29] }, type := 54, pos := _, after := _, guard := some (13, true) }) rfl (fun K hK => ?_) AllReadyH.nil
            go_simp
            go_at_call 21
            refine (bytes_quad _ g _ _ _ (HQW.out.below hB4) hbyl).mono ?_
            rintro e w5 ⟨v5, rfl, ho5, hb5⟩
            have hB5 : Below W.heap.size W w5 := bthrough hB4 hb5 hB4.size
            have hcv : ∀ w', But w.heap.size w.heap.size w5 w' → (convert 54 9 v5).run Try.prog w' = .ok (.string (baOf (bytesT (playT k l)))) w' := conv_held ho5 (bytesT_pos _) (by have := hB4.size; omega)
            have hs5 : But w.heap.size w.heap.size w5 w5 := But.of_below (Below.refl _ _) (by have := hB5.size; omega)
            refine hK.out _ _ (But.of_below hB5 hwW) (fun _ => wpAnyH_mono (S' := fun w' => But w.heap.size w.heap.size w5 w') (fun w' hw' => But.after hB5 hw' hwW) _ _ _ _ ?_)
            clear hK K hs4 hb5 ho5 hB4
            try simp only [Act.put, List.setIfInBounds_toArray, List.set_cons_zero, List.set_cons_succ]
            refine wpAnyH_take (i := 16) (oi := { dst := some 161, op := Op.convert 54 9 (Operand.tmp 160), type := 9, pos := _, after := _, guard := some (13, true) }) (v := ?_) rfl (by kernel_rfl) (by kernel_rfl) (by kernel_rfl) (fun _ _ _ h => h) (Or.inl ⟨by kernel_rfl, ?_⟩) (by assumption) ?_
            case refine_2 => (intro w hSw; go_simp <;> with_reducible rfl)
            simp only [Act.put, List.setIfInBounds_toArray, List.set_cons_zero, List.set_cons_succ]
            refine wpAnyH_ready (rs := [19]) (by kernel_rfl) (by simp) ?_
            refine AllReadyH.cons (o := { dst := some 164, op := Op.call { callee := Callee.value (Operand.func 22), args := #[Operand.tmp 162, Operand.const (Value.int IntKind.i64 0), Operand.const (Value.int IntKind.i64 0), Operand.tmp 163], argTypes := #[32, 3, 3, 3] }, type := 9, pos := _, after := _, guard := some (13, true) }) rfl (fun K hK => ?_) AllReadyH.nil
            go_simp
            go_at_call 22
            refine (HBY.out _ _ g' cap' HF.out (HIW.out.below hB5)).mono ?_
            rintro e w6 ⟨rfl, hb6⟩
            have hs6 : But w.heap.size w.heap.size w5 w6 := But.of_below hb6 (by have := hB5.size; omega)
            refine hK.out _ _ hs6 (fun _ => ?_)
            clear hK K hs5
            try simp only [Act.put, List.setIfInBounds_toArray, List.set_cons_zero, List.set_cons_succ]
            refine wpAnyH_take (i := 20) (oi := { dst := some 165, op := Op.binOp BinOp.eql 9 (Operand.tmp 161) (Operand.tmp 164) 9, type := 4, pos := _, after := _, guard := some (13, true) }) (v := ?_) rfl (by kernel_rfl) (by kernel_rfl) (by kernel_rfl) (fun _ _ _ h => h) (Or.inl ⟨by kernel_rfl, ?_⟩) (by assumption) ?_
            case refine_2 => (intro w hSw; go_simp <;> with_reducible rfl)
            simp only [Act.put, List.setIfInBounds_toArray, List.set_cons_zero, List.set_cons_succ]
            refine wpAnyH_take (i := 21) (oi := { dst := some 166, op := Op.pick (Operand.tmp 158) (Operand.tmp 165) (Operand.const (Value.bool false)), type := 4, pos := _, after := _, guard := none }) (v := ?_) rfl (by kernel_rfl) (by kernel_rfl) (by kernel_rfl) (fun _ _ _ h => h) (Or.inl ⟨by kernel_rfl, ?_⟩) (by assumption) ?_
            case refine_2 => (intro w hSw; go_simp <;> with_reducible rfl)
            simp only [Act.put, List.setIfInBounds_toArray, List.set_cons_zero, List.set_cons_succ]
            refine wpAnyH_take (i := 22) (oi := { dst := some 167, op := Op.move (Operand.tmp 166), type := 4, pos := _, after := _, guard := none }) (v := ?_) rfl (by kernel_rfl) (by kernel_rfl) (by kernel_rfl) (fun _ _ _ h => h) (Or.inl ⟨by kernel_rfl, ?_⟩) (by assumption) ?_
            case refine_2 => (intro w hSw; go_simp <;> with_reducible rfl)
            simp only [Act.put, List.setIfInBounds_toArray, List.set_cons_zero, List.set_cons_succ]
            refine wpAnyH_ready (rs := [23]) (by kernel_rfl) (by simp) ?_
            refine AllReadyH.cons (o := { dst := some 168, op := Op.call { callee := Callee.value (Operand.func 9), args := #[], argTypes := #[] }, type := 4, pos := _, after := _, guard := some (22, true) }) rfl (fun K hK => ?_) AllReadyH.nil
            go_simp
            go_at_call 9
            refine (awake_any _).mono ?_
            rintro e w7 ⟨rfl, hb7⟩
            have hb57 := bthrough hb6 hb7 hb6.size
            have hs7 : But w.heap.size w.heap.size w5 w7 := But.of_below hb57 (by have := hB5.size; omega)
            have hb8 : Below W.heap.size W w7 := bthrough hB5 hb57 hB5.size
            refine hK.out _ _ hs7 (fun _ => ?_)
            clear hK K hs6
            try simp only [Act.put, List.setIfInBounds_toArray, List.set_cons_zero, List.set_cons_succ]
            refine wpAnyH_take (i := 24) (oi := { dst := some 169, op := Op.pick (Operand.tmp 167) (Operand.tmp 168) (Operand.const (Value.bool false)), type := 4, pos := _, after := _, guard := none }) (v := ?_) rfl (by kernel_rfl) (by kernel_rfl) (by kernel_rfl) (fun _ _ _ h => h) (Or.inl ⟨by kernel_rfl, ?_⟩) (by assumption) ?_
            case refine_2 => (intro w hSw; go_simp <;> with_reducible rfl)
            simp only [Act.put, List.setIfInBounds_toArray, List.set_cons_zero, List.set_cons_succ]
            have hrc7 : w7.cell? ⟨w.heap.size, 0, none⟩ = some (.bool false) := ((bcell hb8).1 _ _ (by omega)).trans zW.1
            have hrf7 : w7.frozen? ⟨w.heap.size, 0, none⟩ = false := ((bcell hb8).2 _ _ (by omega)).trans zW.2
            refine wpAnyH_ready (rs := [25]) (by kernel_rfl) (by simp) ?_
            refine AllReadyH.cons (o := { dst := none, op := Op.store 4 (Operand.tmp 4) (Operand.tmp 169), type := 0, pos := _, after := _, guard := none }) rfl (fun K hK => ?_) AllReadyH.nil
            go_simp
            have hs8 : But w.heap.size w.heap.size w5 (w7.setCell ⟨w.heap.size, 0, none⟩ (.bool true)) := But.set hb57 (Nat.le_refl _) (by have := hB5.size; omega) 0 (.bool true)
            have HS8 := hid (show But w.heap.size w.heap.size W (w7.setCell ⟨w.heap.size, 0, none⟩ (.bool true)) from But.set hb8 (Nat.le_refl _) hwW 0 (.bool true))
            refine hK.out _ _ hs8 (fun _ => ?_)
            clear hK K hs7 hs8
            try simp only [Act.put, List.setIfInBounds_toArray, List.set_cons_zero, List.set_cons_succ]
            refine wpAnyH_done (by kernel_rfl) ?_ _
            refine NoPanic.normal ?_
            have hK8 := (HS8.out.block D hDl (by omega)).trans hKD
            have hc8 : (w7.setCell ⟨w.heap.size, 0, none⟩ (.bool true)).cell? ⟨w.heap.size, 0, none⟩ = some (.bool true) := World.cell?_setCell_same' w7 ⟨w.heap.size, 0, none⟩ (.bool true) (by rw [hrc7]; rfl)
            have HB8 := hid (hbbW.out.trans HS8.out.below)
            generalize w7.setCell ⟨w.heap.size, 0, none⟩ (.bool true) = wz at hK8 hc8 HB8 ⊢
            clear HS8 hrc7 hrf7 hb57 hb8 hb6 hb7 hB5 hcv
            go_wp2
            refine ⟨by simp, .inl ⟨_, _, rfl, run_takeDeferred hK8, ?_⟩⟩
            have hc9 := cell_kept hc8 (grownBy_putObj' _ D (.deferred none)) (fun r e => by cases e; exact ⟨_, hK8, rfl⟩)
            refine ⟨.bool true, ?_, rfl, HB8.out.trans (belowK_b (w := w) (Nat.le_refl _) _ D _ _ (by omega) hK8 rfl rfl)⟩
            simp [results, Try.f5, go_sem, hc9]
          case stop =>
            rintro D c pre W _ _ h _
            exact h.elim
end Go.Proofs.Ytdpdkjpkehgdnaa
