/-
  The walk of the statement QuadParses: it returns true, for all bytes and every side.
-/
import Derived.Test.YtdpdkjpkehgdnaaQuPg
import Derived.Test.YtdpdkjpkehgdnaaQuQ
import Derived.Test.YtdpdkjpkehgdnaaQuZ
import Derived.Test.YtdpdkjpkehgdnaaQuBy
import Derived.Test.YtdpdkjpkehgdnaaQuN
import Derived.Test.YtdpdkjpkehgdnaaQuBt
import Derived.Test.YtdpdkjpkehgdnaaRound
namespace Go.Proofs.Ytdpdkjpkehgdnaa
open Go.RowKit Go.Shelf

attribute [local go_sem] Oper.semAt_some

set_option maxRecDepth 100000 in
set_option maxHeartbeats 1000000 in
theorem parses_short (n : Int) (A : Option Addr) (len cap : Nat) (w : World) (hs : (n < 0 ∨ 5 < n) ∨ 2000 < len) :
    Calls Try.prog 6 #[.slice A len cap, .int .i64 n] w fun e w' => e = .returned (.bool true) ∧ Below w.heap.size w w' := by
  have go : ∀ (z : Int) (w1 : World), Below w.heap.size w w1 → ((z == 0) = true ∨ 2000 < len) → True := fun _ _ _ _ => trivial
  have hsz : ∀ w1 : World, (w1.alloc (.cells #[.int .u8 0, .int .u8 0] 5)).heap.size = w1.heap.size + 1 := fun w1 => by simp
  by_cases hlen : 2000 < len
  · have hgt : decide ((2000 : Int) < (len : Int)) = true := by simp; omega
    by_cases hn : n < 0 ∨ 5 < n
    ·
      go_enter Try.func6, Try.ntmps6
      go_wp2_with fail
      refine (sides_no n _ hn).mono ?_
      rintro e w1 ⟨rfl, hb1⟩
      go_wp2_with fail
      refine (qparse_no 3 _ _ (by rfl)).mono ?_
      rintro e w2 ⟨rfl, hb2⟩
      go_wp2_with fail
      refine (awake_any _).mono ?_
      rintro e w3 ⟨rfl, hb3⟩
      go_wp2
      go_ret
      refine ⟨rfl, bthrough (bthrough (balloc hb1 _) hb2 ?_) hb3 ?_⟩
      · have := hb1.size; simp; omega
      · have := hb1.size; have := hb2.size; simp at this; omega
    · obtain ⟨k, rfl⟩ : ∃ k : Nat, n = k := ⟨n.toNat, by omega⟩
      have hk : k ≤ 5 := by omega
      go_enter Try.func6, Try.ntmps6
      go_wp2_with fail
      refine (sides_yes k _ hk).mono ?_
      rintro e w1 ⟨rfl, hb1⟩
      generalize sd k = s
      go_wp2_with fail
      refine (qparse_no 3 _ _ (by rfl)).mono ?_
      rintro e w2 ⟨rfl, hb2⟩
      go_wp2_with fail
      refine (awake_any _).mono ?_
      rintro e w3 ⟨rfl, hb3⟩
      go_wp2
      go_ret
      refine ⟨rfl, bthrough (bthrough (balloc hb1 _) hb2 ?_) hb3 ?_⟩
      · have := hb1.size; simp; omega
      · have := hb1.size; have := hb2.size; simp at this; omega
  · have hn : n < 0 ∨ 5 < n := by omega
    have hgt : decide ((2000 : Int) < (len : Int)) = false := by simp; omega
    go_enter Try.func6, Try.ntmps6
    go_wp2_with fail
    refine (sides_no n _ hn).mono ?_
    rintro e w1 ⟨rfl, hb1⟩
    go_wp2_with fail
    refine (qparse_no 3 _ _ (by rfl)).mono ?_
    rintro e w2 ⟨rfl, hb2⟩
    go_wp2_with fail
    refine (awake_any _).mono ?_
    rintro e w3 ⟨rfl, hb3⟩
    go_wp2
    go_ret
    refine ⟨rfl, bthrough (bthrough (balloc hb1 _) hb2 ?_) hb3 ?_⟩
    · have := hb1.size; simp; omega
    · have := hb1.size; have := hb2.size; simp at this; omega

set_option maxRecDepth 100000 in
set_option maxHeartbeats 2000000 in
theorem parses_long (k : Nat) (hk : k ≤ 5) (l : List UInt8) (v : Value) (w : World) (hb : BAt w w.heap.size v l) (hl : l.length ≤ 2000) :
    Calls Try.prog 6 #[v, .int .i64 (k : Int)] w fun e w' => e = .returned (.bool true) ∧ Below w.heap.size w w' := by
  have hk8 : k ≤ 8 := by omega
  have hp32 := pow_32 hk
  obtain ⟨Ao, cap, rfl⟩ : ∃ Ao cap, v = .slice Ao l.length cap := by
    rcases hb with ⟨rfl, rfl⟩ | ⟨A, cap, rfl, _⟩
    · exact ⟨none, 0, rfl⟩
    · exact ⟨some A, cap, rfl⟩
  have HB := hid hb
  clear hb
  obtain ⟨s, hs⟩ : ∃ s, s = 2 ^ k := ⟨_, rfl⟩
  have hsd : sd k = (s : Int) := by rw [hs]; rfl
  have hsides : ∀ w', Calls Try.prog 8 #[.int .i64 (k : Int)] w' fun e w'' => e = .returned (.int .i64 (s : Int)) ∧ Below w'.heap.size w' w'' := fun w' => by
    rw [← hsd]
    exact sides_yes k w' hk
  have hparse : ∀ w', Below w.heap.size w w' → Calls Try.prog 23 #[.slice Ao l.length cap, .int .i64 (s : Int)] w' (ParseQ k l w') := fun w' b => by
    rw [← hsd]
    exact qparse_any k hk8 l _ w.heap.size w' (by omega) (HB.out.below b) b.size
  rw [← hs] at hp32
  have HS := hid hs
  have HSD := hid hsd
  have HSI := hid hsides
  have HPA := hid hparse
  have hne : ((s : Int) == 0) = false := by simp; omega
  have hgt : decide ((2000 : Int) < (l.length : Int)) = false := by simp; omega
  clear hs hsd hsides hparse
  refine (callsIn_wide (n := 9)).1 ?_
  refine callsIn_of_wp_marks Try.func6 rfl trivial ?_ rfl
  simp only [Try.ntmps6, List.size_toArray, List.length_cons, List.length_nil, Nat.reduceAdd, Nat.reduceSub, Array.replicate_succ, Array.replicate_zero, List.push_toArray, List.append_toArray, List.nil_append, List.cons_append]
  refine wpIn_wide.2 ?_
  go_wp2_with fail
  refine (HSI.out _).mono ?_
  rintro e w1 ⟨rfl, hb1⟩
  have hs1 := hb1.size
  go_wp2_with fail
  refine (HPA.out _ hb1).mono ?_
  rintro e w2 ⟨hb2, hpost⟩
  have hbb2 : Below w.heap.size w w2 := bthrough hb1 hb2 hs1
  have hs12 := hb2.size
  rcases hpost with ⟨g, t, rfl, hq, hfit, hcan, hok, hlt⟩ | ⟨rfl, hno⟩
  · subst hlt
    have hbl : (bytesT t).length ≤ 1000000000 := by omega
    have HQ2 := hid hq
    have hside : w2.cell? ⟨g, 0, none⟩ = some (.int .i64 (s : Int)) := by rw [← HSD.out]; exact hq.side
    have hgl := hq.lt
    clear hq
    obtain ⟨A, hAo, hA1, hcl⟩ : ∃ A, Ao = some A ∧ A.block < w.heap.size ∧ ∀ j u, (cellsB (bytesT t))[j]? = some u → w.cell? (A.add j) = some u := by
      have hp := bytesT_pos t
      rcases HB.out with ⟨_, h⟩ | ⟨A, cap', h1, h2, h3, h4⟩
      · rw [h] at hp; simp at hp
      · cases h1
        exact ⟨A, rfl, h3 (fun e => by rw [e] at hp; simp at hp), h4⟩
    subst hAo
    have HCL := hid hcl
    have lb8 : ∀ w', Below w2.heap.size w2 w' → (convert 54 9 (.slice (some A) (bytesT t).length cap)).run Try.prog w' = .ok (.string (baOf (bytesT t))) w' := fun w' k => run_string_b fun j u hj => ((hbb2.trans (k.mono hbb2.size)).cell (p := A.add j) (by rw [block_add]; exact hA1)).trans (HCL.out j u hj)
    have LB := hid lb8
    clear lb8 hcl HB
    go_wp2_with fail
    refine wp_region_noPanic ?_
    refine wp_region_held_drew (S := fun w' => Below w2.heap.size w2 w') (by kernel_rfl) (Below.drew (Below.refl _ _)) (fun hHeld => ?_)
    refine wpAnyH_take (i := 0) (oi := { dst := some 45, op := Op.move (Operand.tmp 8), type := 29, pos := _, after := _, guard := none }) (v := ?_) rfl (by kernel_rfl) (by kernel_rfl) (by kernel_rfl) (fun _ _ _ h => h) (Or.inl ⟨by kernel_rfl, ?_⟩) (by assumption) ?_
    case refine_2 => (intro w hSw; go_simp <;> with_reducible rfl)
    simp only [Act.put, List.setIfInBounds_toArray, List.set_cons_zero, List.set_cons_succ]
    refine wpAnyH_take (i := 1) (oi := { dst := some 46, op := Op.binOp BinOp.eql 29 (Operand.tmp 45) (Operand.const (Value.pointer none)) 29, type := 4, pos := _, after := _, guard := none }) (v := ?_) rfl (by kernel_rfl) (by kernel_rfl) (by kernel_rfl) (fun _ _ _ h => h) (Or.inl ⟨by kernel_rfl, ?_⟩) (by assumption) ?_
    case refine_2 => (intro w hSw; go_simp <;> with_reducible rfl)
    simp only [Act.put, List.setIfInBounds_toArray, List.set_cons_zero, List.set_cons_succ]
    refine wpAnyH_take (i := 2) (oi := { dst := some 47, op := Op.move (Operand.tmp 46), type := 4, pos := _, after := _, guard := none }) (v := ?_) rfl (by kernel_rfl) (by kernel_rfl) (by kernel_rfl) (fun _ _ _ h => h) (Or.inl ⟨by kernel_rfl, ?_⟩) (by assumption) ?_
    case refine_2 => (intro w hSw; go_simp <;> with_reducible rfl)
    simp only [Act.put, List.setIfInBounds_toArray, List.set_cons_zero, List.set_cons_succ]
    refine wpAnyH_take (i := 3) (oi := { dst := some 48, op := Op.move (Operand.tmp 8), type := 29, pos := _, after := _, guard := some (2, false) }) (v := ?_) rfl (by kernel_rfl) (by kernel_rfl) (by kernel_rfl) (fun _ _ _ h => h) (Or.inl ⟨by kernel_rfl, ?_⟩) (by assumption) ?_
    case refine_2 => (intro w hSw; go_simp <;> with_reducible rfl)
    simp only [Act.put, List.setIfInBounds_toArray, List.set_cons_zero, List.set_cons_succ]
    refine wpAnyH_take (i := 5) (oi := { dst := some 50, op := Op.move (Operand.tmp 5), type := 3, pos := _, after := _, guard := some (2, false) }) (v := ?_) rfl (by kernel_rfl) (by kernel_rfl) (by kernel_rfl) (fun _ _ _ h => h) (Or.inl ⟨by kernel_rfl, ?_⟩) (by assumption) ?_
    case refine_2 => (intro w hSw; go_simp <;> with_reducible rfl)
    simp only [Act.put, List.setIfInBounds_toArray, List.set_cons_zero, List.set_cons_succ]
    refine wpAnyH_ready (rs := [4]) (by kernel_rfl) (by simp) ?_
    refine AllReadyH.cons (o := { dst := some 49, op := Op.call { callee := Callee.value (Operand.func 16), args := #[Operand.tmp 48], argTypes := #[29] }, type := 3, pos := _, after := _, guard := some (2, false) }) rfl (fun K hK => ?_) AllReadyH.nil
    go_simp
    go_at_call 16
    refine (side_get g s _ (by rw [World.cell?_drew]; exact hside)).mono ?_
    rintro e w3 ⟨rfl, hb3⟩
    have hB3 : Below w2.heap.size w2 w3 := bthrough (Below.drew (Below.refl _ _)) hb3 (Nat.le_refl _)
    refine hK.out _ _ hB3 (fun _ => ?_)
    clear hK K hHeld hb3
    try simp only [Act.put, List.setIfInBounds_toArray, List.set_cons_zero, List.set_cons_succ]
    refine wpAnyH_take (i := 6) (oi := { dst := some 51, op := Op.binOp BinOp.neq 3 (Operand.tmp 49) (Operand.tmp 50) 3, type := 4, pos := _, after := _, guard := some (2, false) }) (v := ?_) rfl (by kernel_rfl) (by kernel_rfl) (by kernel_rfl) (fun _ _ _ h => h) (Or.inl ⟨by kernel_rfl, ?_⟩) (by assumption) ?_
    case refine_2 => (intro w hSw; go_simp <;> with_reducible rfl)
    simp only [Act.put, List.setIfInBounds_toArray, List.set_cons_zero, List.set_cons_succ]
    refine wpAnyH_take (i := 7) (oi := { dst := some 52, op := Op.pick (Operand.tmp 47) (Operand.const (Value.bool true)) (Operand.tmp 51), type := 4, pos := _, after := _, guard := none }) (v := ?_) rfl (by kernel_rfl) (by kernel_rfl) (by kernel_rfl) (fun _ _ _ h => h) (Or.inl ⟨by kernel_rfl, ?_⟩) (by assumption) ?_
    case refine_2 => (intro w hSw; go_simp <;> with_reducible rfl)
    simp only [Act.put, List.setIfInBounds_toArray, List.set_cons_zero, List.set_cons_succ]
    refine wpAnyH_take (i := 8) (oi := { dst := some 53, op := Op.move (Operand.tmp 52), type := 4, pos := _, after := _, guard := none }) (v := ?_) rfl (by kernel_rfl) (by kernel_rfl) (by kernel_rfl) (fun _ _ _ h => h) (Or.inl ⟨by kernel_rfl, ?_⟩) (by assumption) ?_
    case refine_2 => (intro w hSw; go_simp <;> with_reducible rfl)
    simp only [Act.put, List.setIfInBounds_toArray, List.set_cons_zero, List.set_cons_succ]
    refine wpAnyH_take (i := 9) (oi := { dst := some 54, op := Op.move (Operand.tmp 8), type := 29, pos := _, after := _, guard := some (8, false) }) (v := ?_) rfl (by kernel_rfl) (by kernel_rfl) (by kernel_rfl) (fun _ _ _ h => h) (Or.inl ⟨by kernel_rfl, ?_⟩) (by assumption) ?_
    case refine_2 => (intro w hSw; go_simp <;> with_reducible rfl)
    simp only [Act.put, List.setIfInBounds_toArray, List.set_cons_zero, List.set_cons_succ]
    refine wpAnyH_take (i := 12) (oi := { dst := some 57, op := Op.move (Operand.tmp 0), type := 54, pos := _, after := _, guard := some (8, false) }) (v := ?_) rfl (by kernel_rfl) (by kernel_rfl) (by kernel_rfl) (fun _ _ _ h => h) (Or.inl ⟨by kernel_rfl, ?_⟩) (by assumption) ?_
    case refine_2 => (intro w hSw; go_simp <;> with_reducible rfl)
    simp only [Act.put, List.setIfInBounds_toArray, List.set_cons_zero, List.set_cons_succ]
    have lb9 := LB.out
    refine wpAnyH_take (i := 13) (oi := { dst := some 58, op := Op.convert 54 9 (Operand.tmp 57), type := 9, pos := _, after := _, guard := some (8, false) }) (v := ?_) rfl (by kernel_rfl) (by kernel_rfl) (by kernel_rfl) (fun _ _ _ h => h) (Or.inl ⟨by kernel_rfl, ?_⟩) (by assumption) ?_
    case refine_2 => (intro w hSw; go_simp <;> with_reducible rfl)
    simp only [Act.put, List.setIfInBounds_toArray, List.set_cons_zero, List.set_cons_succ]
    clear lb9
    refine wpAnyH_ready (rs := [10]) (by kernel_rfl) (by simp) ?_
    refine AllReadyH.cons (o := { dst := some 55, op := Op.call { callee := Callee.value (Operand.func 21), args := #[Operand.tmp 54], argTypes := #[29] }, type := 54, pos := _, after := _, guard := some (8, false) }) rfl (fun K hK => ?_) AllReadyH.nil
    go_simp
    go_at_call 21
    refine (bytes_quad _ g _ _ _ (HQ2.out.below hB3) hbl).mono ?_
    rintro e w4 ⟨v4, rfl, ho4, hb4⟩
    have hB4 : Below w2.heap.size w2 w4 := bthrough hB3 hb4 hB3.size
    have hcv : ∀ w', Below w4.heap.size w4 w' → (convert 54 9 v4).run Try.prog w' = .ok (.string (baOf (bytesT t))) w' := fun w' k => conv_held ho4 (bytesT_pos _) (B := 0) (r := g) (Nat.lt_of_lt_of_le hgl hB3.size) w' (But.of_below k (Nat.zero_le _))
    refine hK.out _ _ hB4 (fun _ => wpAnyH_mono (S' := fun w' => Below w4.heap.size w4 w') (fun w' hw' => bthrough hB4 hw' hB4.size) _ _ _ _ ?_)
    have hs4 : Below w4.heap.size w4 w4 := Below.refl _ _
    clear hK K hb4 ho4
    try simp only [Act.put, List.setIfInBounds_toArray, List.set_cons_zero, List.set_cons_succ]
    refine wpAnyH_take (i := 11) (oi := { dst := some 56, op := Op.convert 54 9 (Operand.tmp 55), type := 9, pos := _, after := _, guard := some (8, false) }) (v := ?_) rfl (by kernel_rfl) (by kernel_rfl) (by kernel_rfl) (fun _ _ _ h => h) (Or.inl ⟨by kernel_rfl, ?_⟩) (by assumption) ?_
    case refine_2 => (intro w hSw; go_simp <;> with_reducible rfl)
    simp only [Act.put, List.setIfInBounds_toArray, List.set_cons_zero, List.set_cons_succ]
    refine wpAnyH_take (i := 14) (oi := { dst := some 59, op := Op.binOp BinOp.neq 9 (Operand.tmp 56) (Operand.tmp 58) 9, type := 4, pos := _, after := _, guard := some (8, false) }) (v := ?_) rfl (by kernel_rfl) (by kernel_rfl) (by kernel_rfl) (fun _ _ _ h => h) (Or.inl ⟨by kernel_rfl, ?_⟩) (by assumption) ?_
    case refine_2 => (intro w hSw; go_simp <;> with_reducible rfl)
    simp only [Act.put, List.setIfInBounds_toArray, List.set_cons_zero, List.set_cons_succ]
    refine wpAnyH_take (i := 15) (oi := { dst := some 60, op := Op.pick (Operand.tmp 53) (Operand.const (Value.bool true)) (Operand.tmp 59), type := 4, pos := _, after := _, guard := none }) (v := ?_) rfl (by kernel_rfl) (by kernel_rfl) (by kernel_rfl) (fun _ _ _ h => h) (Or.inl ⟨by kernel_rfl, ?_⟩) (by assumption) ?_
    case refine_2 => (intro w hSw; go_simp <;> with_reducible rfl)
    simp only [Act.put, List.setIfInBounds_toArray, List.set_cons_zero, List.set_cons_succ]
    refine wpAnyH_done (by kernel_rfl) ?_ _
    refine NoPanic.normal ?_
    clear hcv hs4 hB3
    have hbb4 : Below w.heap.size w w4 := bthrough hbb2 hB4 hbb2.size
    have HQ4 := hid (HQ2.out.below hB4)
    have hg4 : g < w4.heap.size := Nat.lt_of_lt_of_le hgl hB4.size
    have hside4 : w4.cell? ⟨g, 0, none⟩ = some (.int .i64 (s : Int)) := ((bcell hB4).1 _ _ hgl).trans hside
    have LB4 := hid (fun (w' : World) (k : Below w4.heap.size w4 w') => LB.out w' (bthrough hB4 k hB4.size))
    have hs24 := hB4.size
    clear LB HQ2 hside hB4
    go_wp2_with fail
    obtain ⟨T, hT⟩ : ∃ T, T = s * s := ⟨_, rfl⟩
    have hT4 : T ≤ 1024 := by rw [hT]; exact Nat.mul_le_mul hp32.2 hp32.2
    have hnew : ∀ w', Calls Try.prog 24 #[.int .i64 (s : Int)] w' fun e w'' => ∃ g1 cap1, e = .returned (.agg #[.int .i64 (s : Int), .slice (some ⟨g1, 0, none⟩) T cap1]) ∧ IntsAt w'' w'.heap.size g1 T (fun _ => 0) ∧ Below w'.heap.size w' w'' := fun w' => by
      refine (refNew_any s w' (by omega)).mono ?_
      rintro e w'' ⟨vg, e1, ⟨g1, cap1, e2, hI⟩, hb⟩
      exact ⟨g1, cap1, by rw [e1, e2, hT], by rw [hT]; exact hI, hb⟩
    have hset : ∀ (p : Lf) (gg cc : Nat) (f : Nat → Int) (w' : World), IntsAt w' 0 gg T f → 0 ≤ p.1 ∧ 0 ≤ p.2.1 ∧ 0 ≤ p.2.2.1 ∧ p.1 + p.2.2.1 ≤ 256 ∧ p.2.1 + p.2.2.1 ≤ 256 →
        Calls Try.prog 25 #[.agg #[.int .i64 (s : Int), .slice (some ⟨gg, 0, none⟩) T cc], .int .i64 p.1, .int .i64 p.2.1, .int .i64 p.2.2.1, .int .i64 p.2.2.1, .int .i64 p.2.2.2] w' fun e w'' => ∃ g2 cap2, e = .returned (.agg #[.int .i64 (s : Int), .slice (some ⟨g2, 0, none⟩) T cap2]) ∧ IntsAt w'' w'.heap.size g2 T (setF s p.1 p.2.1 p.2.2.1 p.2.2.1 p.2.2.2 f) ∧ Below w'.heap.size w' w'' := fun p gg cc f w' hI hp => by
      rw [hT] at hI
      rw [hT]
      refine (refSet_any s p.1 p.2.1 p.2.2.1 p.2.2.1 p.2.2.2 0 gg cc f w' (by omega) hI (by omega) (by omega) (by omega) (by omega)).mono ?_
      rintro e w'' ⟨vg, e1, ⟨g2, cap2, e2, hI2⟩, hb⟩
      exact ⟨g2, cap2, by rw [e1, e2], hI2, hb⟩
    have hbox : ∀ p, p ∈ lvs k 0 0 0 0 (sd k) (sd k) t → 0 ≤ p.1 ∧ 0 ≤ p.2.1 ∧ 0 ≤ p.2.2.1 ∧ p.1 + p.2.2.1 ≤ 256 ∧ p.2.1 + p.2.2.1 ≤ 256 := fun p hp => by
      have := sd_le8 hk8
      exact lvs_box k 0 0 0 0 (sd k) (sd k) t p hfit (by omega) (by omega) (by omega) (by omega) hp
    have hend : ∀ (gg cc : Nat) (w' : World), IntsAt w' 0 gg T (foldL s (lvs k 0 0 0 0 (sd k) (sd k) t) fun _ => 0) →
        Calls Try.prog 22 #[.agg #[.int .i64 (s : Int), .slice (some ⟨gg, 0, none⟩) T cc], .int .i64 0, .int .i64 0, .int .i64 (s : Int)] w' fun e w'' => e = .returned (.string (baOf (bytesT t))) ∧ Below w'.heap.size w' w'' := fun gg cc w' hI => by
      have hsame := same_fold hk8 hfit (fun _ => 0)
      have hall := (plays_all hk8 hsame hcan hfit).2
      rw [hT, HS.out] at hI
      rw [hT, HS.out]
      have h := refBy_any (2 ^ k) gg cc 0 _ (by rw [← HS.out]; exact hp32.2) (fun i hi => ?_) k 0 0 w' hk (by omega) (by omega) hI
      · rw [hall] at h
        exact h
      · have hr := right_own hk8
        rw [fold_lvs (2 ^ k) k 0 0 0 0 (sd k) (sd k) t _ i hfit hr (by simp [inB, hr]), if_pos (tile_in hi)]
        exact val_ok k 0 0 t _ _ hok
    have HEND := hid hend
    obtain ⟨all, hall⟩ : ∃ all, all = lvs k 0 0 0 0 (sd k) (sd k) t := ⟨_, rfl⟩
    have HALL := hid hall
    rw [← hall] at hbox
    have HBOX := hid hbox
    have HSET := hid hset
    have HNEW := hid hnew
    have HT := hid hT
    clear hT hnew hset hbox hend hall
    refine (HNEW.out _).mono ?_
    rintro e w5 ⟨g1, cap1, rfl, hI, hb5⟩
    have hs5 := hb5.size
    have hHI := hid hI
    clear hI
    have hbb5 : Below w.heap.size w w5 := bthrough hbb4 hb5 hbb4.size
    have HQ5 := hid (HQ4.out.below hb5)
    have LB5 := hid (fun (w' : World) (k : Below w5.heap.size w5 w') => LB4.out w' (bthrough hb5 k hb5.size))
    have hg5 : g < w5.heap.size := Nat.lt_of_lt_of_le hg4 hb5.size
    have hside5 : w5.cell? ⟨g, 0, none⟩ = some (.int .i64 (s : Int)) := ((bcell hb5).1 _ _ hg4).trans hside4
    clear LB4 HQ4 hside4 hb5 hbb4 hg4 hb1 hb2 hbb2 hgl hA1 HCL
    go_wp2_with fail
    refine (squares_iter g (s : Int) _ (by simp; omega) (by simp [go_sem, hside5, hg5])).mono ?_
    rintro e w9 ⟨w8, hb8, rfl, rfl⟩
    have hs8 := hb8.size
    simp at hs8
    have c0 : w8.cell? ⟨w5.heap.size, 0, none⟩ = some (.int .i64 (s : Int)) := by rw [(bcell hb8).1 _ _ (by simp; try omega)]; simp [go_sem]
    have c1 : w8.cell? ⟨w5.heap.size, 1, none⟩ = some (.slice (some ⟨g1, 0, none⟩) T cap1) := by rw [(bcell hb8).1 _ _ (by simp; try omega)]; simp [go_sem]
    have f0 : w8.frozen? ⟨w5.heap.size, 0, none⟩ = false := by rw [(bcell hb8).2 _ _ (by simp; try omega)]; simp [go_sem]
    have f1 : w8.frozen? ⟨w5.heap.size, 1, none⟩ = false := by rw [(bcell hb8).2 _ _ (by simp; try omega)]; simp [go_sem]
    have hB8 : Below w5.heap.size w5 w8 := bstep (balloc (Below.refl _ _) _) hb8
    clear hb8 hside5
    go_wp2_with fail
    obtain ⟨W0, hW0⟩ : ∃ W0, W0 = ((w8.alloc (.cells #[.pointer (some ⟨g, 0, none⟩)] 29)).alloc (.cells #[.int .i64 0, .int .i64 0, .int .i64 (s : Int), .int .i64 (s : Int)] 24)) := ⟨_, rfl⟩
    rw [← hW0]
    have hB0 : Below w5.heap.size w5 W0 := hW0 ▸ hB8.trans ((balloc (balloc (Below.refl _ _) _) _).mono (by omega))
    have hsz0 : W0.heap.size = w8.heap.size + 2 := by rw [hW0]; simp
    have hH := meets_hands 8 _ g w8.heap.size (w8.heap.size + 1) k t 0 0 (sd k) (sd k) (w8.heap.size + 2) w5 W0 hB0 HQ5.out hfit hk8 (by omega) (by omega) (by omega) (by rw [hW0]; simp [go_sem]) (by rw [hW0]; simp [go_sem]) (by rw [hW0]; simp [go_sem]) (by rw [hW0, HSD.out]; simp [go_sem]) (by rw [hW0, HSD.out]; simp [go_sem])
    rw [← HALL.out] at hH
    have i0 : W0.cell? ⟨w5.heap.size, 0, none⟩ = some (.int .i64 (s : Int)) ∧ W0.cell? ⟨w5.heap.size, 1, none⟩ = some (.slice (some ⟨g1, 0, none⟩) T cap1) ∧ W0.frozen? ⟨w5.heap.size, 0, none⟩ = false ∧ W0.frozen? ⟨w5.heap.size, 1, none⟩ = false := by
      rw [hW0]
      have l0 : w5.heap.size < w8.heap.size := by omega
      simp [go_sem, c0, c1, f0, f1, l0]
    have i1 : IntsAt W0 0 g1 T (foldL s [] fun _ => 0) := (hHI.out.below hB0).imp' (Nat.zero_le _)
    clear hW0 c0 c1 f0 f1 hB8 hHI
    refine (wpIn_wide (n := 9)).1 ?_
    refine' wpIn_rangeFunc_made rfl (by omega) (gf := 43) (lb := #[.pointer (some ⟨w8.heap.size, 0, none⟩), .pointer (some ⟨w8.heap.size + 1, 0, none⟩)]) rfl trivial (enters_of Try.func43 (by kernel_rfl) rfl)
      hH (fun h k => h.trans k) (fun W l o o' hl h1 h2 h3 => keepL_b (by omega) W l o o' hl h1 h2 h3) (Below.refl _ _) (fun _ => rfl)
      (fun pre W => (∃ gg cc, W.cell? ⟨w5.heap.size, 0, none⟩ = some (.int .i64 (s : Int)) ∧ W.cell? ⟨w5.heap.size, 1, none⟩ = some (.slice (some ⟨gg, 0, none⟩) T cc) ∧ W.frozen? ⟨w5.heap.size, 0, none⟩ = false ∧ W.frozen? ⟨w5.heap.size, 1, none⟩ = false ∧ IntsAt W 0 gg T (foldL s pre fun _ => 0)) ∧ Below w5.heap.size w5 W)
      (fun _ _ _ => False)
      (OwnFrom.and (Own.from (fun pre A B row hs hg hr => by
        obtain ⟨gg, cc, h0, h1, h2, h3, h4⟩ := hs
        exact ⟨gg, cc, cell_kept h0 hg hr, cell_kept h1 hg hr, (frozen_kept h0 hg hr).trans h2, (frozen_kept h1 hg hr).trans h3, ⟨h4.low, Nat.lt_of_lt_of_le h4.lt hg.size, fun j hj => cell_kept (h4.cell j hj) hg hr⟩⟩) _) (ownFrom_below (Nat.le_refl _) (by omega)))
      (fun _ _ _ _ _ hs _ _ => hs)
      (nextG_own _)
      ⟨⟨g1, cap1, i0.1, i0.2.1, i0.2.2.1, i0.2.2.2, i1⟩, hB0⟩
      _ (fun p => .cells #[.int .i64 p.1, .int .i64 p.2.1, .int .i64 p.2.2.1, .int .i64 p.2.2.1] 24) (fun W o hl => KpL.of_below (balloc (Below.refl _ _) _) (by omega)) ?assign ?body ?done ?stop
    case assign =>
      intro lp p W m K hm hK
      gi_wp2
      rw [← hm]
      exact hK
    case body =>
      rintro lp pre p W m ⟨⟨gg, cc, c0, c1, f0, f1, hin⟩, hB⟩ hlt hn2 hm1 hm2 hmx
      have hmem : p ∈ all := hn2.subset (by simp)
      have hbx := HBOX.out p hmem
      have x0 : W.cell? ⟨m, 0, none⟩ = some (.int .i64 p.1) := cell_of_heap hmx
      have x1 : W.cell? ⟨m, 1, none⟩ = some (.int .i64 p.2.1) := cell_of_heap hmx
      have x2 : W.cell? ⟨m, 2, none⟩ = some (.int .i64 p.2.2.1) := cell_of_heap hmx
      have x3 : W.cell? ⟨m, 3, none⟩ = some (.int .i64 p.2.2.1) := cell_of_heap hmx
      have hsW := hB.size
      have hHI := hid hin
      have hl1 : w5.heap.size < W.heap.size := World.block_lt_of_cell? _ _ c0
      clear hin
      gi_wp2_with fail
      refine ⟨trivial, (callsIn_wide.2 (HSET.out p gg cc _ W hHI.out hbx)).mono ?_⟩
      rintro e w6 ⟨g2, cap2, rfl, hI2, hb6⟩
      have hs6 := hb6.size
      have hHI2 := hid hI2
      have d0 := ((bcell hb6).1 _ 0 hl1).trans c0
      have d1 := ((bcell hb6).1 _ 1 hl1).trans c1
      have e0 := ((bcell hb6).2 _ 0 hl1).trans f0
      have e1 := ((bcell hb6).2 _ 1 hl1).trans f1
      clear hI2 hHI x0 x1 x2 x3 c0 c1 f0 f1
      gi_wp2
      refine ⟨(((keepsOthers_below hb6).trans (KeepsOthers.setCell _ _ _)).trans (KeepsOthers.setCell _ _ _)).from _, ((KpL.of_below hb6 hsW).trans (keepL_set _ _ _ _ (Nat.le_refl _) (by omega))).trans (keepL_set _ _ _ _ (Nat.le_refl _) (by omega)), ⟨g2, cap2, ?_, ?_, ?_, ?_, ?_⟩, ((hB.trans (hb6.mono hsW)).setCell (p := ⟨w5.heap.size, 0, none⟩) (Nat.le_refl _) _).setCell (p := ⟨w5.heap.size, 1, none⟩) (Nat.le_refl _) _⟩
      · rw [World.cell?_setCell_other _ _ _ _ (by simp)]
        exact World.cell?_setCell_same _ _ _ d0
      · exact World.cell?_setCell_same _ _ _ (by rw [World.cell?_setCell_other _ _ _ _ (by simp)]; exact d1)
      · simp only [World.frozen?_setCell]
        exact e0
      · simp only [World.frozen?_setCell]
        exact e1
      · have h9 := hHI2.out
        have hlw := h9.low
        rw [foldL_one]
        refine ⟨Nat.zero_le _, by simpa using h9.lt, fun j hj => ?_⟩
        rw [World.cell?_setCell_other _ _ _ _ (fun e => by injection e with e; omega), World.cell?_setCell_other _ _ _ _ (fun e => by injection e with e; omega)]
        exact h9.cell j hj
    case done =>
      rintro D ys W hD hys ⟨⟨gg, cc, c0, c1, f0, f1, hin⟩, hB⟩ hKD
      subst ys
      rw [hsz0] at hD
      have hDl : D < W.heap.size := (Array.getElem?_eq_some_iff.1 hKD).1
      have hsW := hB.size
      have hl1 : w5.heap.size < W.heap.size := World.block_lt_of_cell? _ _ c0
      have hbbW := hid (bthrough hbb5 hB hbb5.size)
      rw [HALL.out] at hin
      have hHI := hid hin
      have lb15 : ∀ w', Below W.heap.size W w' → (convert 54 9 (.slice (some A) (bytesT t).length cap)).run Try.prog w' = .ok (.string (baOf (bytesT t))) w' := fun w' k => LB5.out w' (bthrough hB k hsW)
      have l0 : ∀ w', Below W.heap.size W w' → w'.cell? ⟨w5.heap.size, 0, none⟩ = some (.int .i64 (s : Int)) := fun w' k => (k.cell (p := ⟨w5.heap.size, 0, none⟩) hl1).trans c0
      have l1 : ∀ w', Below W.heap.size W w' → w'.cell? ⟨w5.heap.size, 1, none⟩ = some (.slice (some ⟨gg, 0, none⟩) T cc) := fun w' k => (k.cell (p := ⟨w5.heap.size, 1, none⟩) hl1).trans c1
      clear hin f0 f1 c0 c1
      go_wp2_with fail
      refine wp_region_noPanic ?_
      refine wp_region_held_drew (S := fun w' => Below W.heap.size W w') (by kernel_rfl) (Below.drew (Below.refl _ _)) (fun hHeld => ?_)
      refine wpAnyH_take (i := 0) (oi := { dst := some 78, op := Op.move (Operand.tmp 0), type := 54, pos := _, after := _, guard := none }) (v := ?_) rfl (by kernel_rfl) (by kernel_rfl) (by kernel_rfl) (fun _ _ _ h => h) (Or.inl ⟨by kernel_rfl, ?_⟩) (by assumption) ?_
      case refine_2 => (intro w hSw; go_simp <;> with_reducible rfl)
      simp only [Act.put, List.setIfInBounds_toArray, List.set_cons_zero, List.set_cons_succ]
      refine wpAnyH_take (i := 1) (oi := { dst := some 79, op := Op.convert 54 9 (Operand.tmp 78), type := 9, pos := _, after := _, guard := none }) (v := ?_) rfl (by kernel_rfl) (by kernel_rfl) (by kernel_rfl) (fun _ _ _ h => h) (Or.inl ⟨by kernel_rfl, ?_⟩) (by assumption) ?_
      case refine_2 => (intro w hSw; go_simp <;> with_reducible rfl)
      simp only [Act.put, List.setIfInBounds_toArray, List.set_cons_zero, List.set_cons_succ]
      refine wpAnyH_take (i := 2) (oi := { dst := some 80, op := Op.load 32 (Operand.tmp 10), type := 32, pos := _, after := _, guard := none }) (v := ?_) rfl (by kernel_rfl) (by kernel_rfl) (by kernel_rfl) (fun _ _ _ h => h) (Or.inl ⟨by kernel_rfl, ?_⟩) (by assumption) ?_
      case refine_2 => (intro w hSw; go_simp <;> with_reducible rfl)
      simp only [Act.put, List.setIfInBounds_toArray, List.set_cons_zero, List.set_cons_succ]
      refine wpAnyH_take (i := 3) (oi := { dst := some 81, op := Op.move (Operand.tmp 5), type := 3, pos := _, after := _, guard := none }) (v := ?_) rfl (by kernel_rfl) (by kernel_rfl) (by kernel_rfl) (fun _ _ _ h => h) (Or.inl ⟨by kernel_rfl, ?_⟩) (by assumption) ?_
      case refine_2 => (intro w hSw; go_simp <;> with_reducible rfl)
      simp only [Act.put, List.setIfInBounds_toArray, List.set_cons_zero, List.set_cons_succ]
      clear lb15 l0 l1
      refine wpAnyH_ready (rs := [4]) (by kernel_rfl) (by simp) ?_
      refine AllReadyH.cons (o := { dst := some 82, op := Op.call { callee := Callee.value (Operand.func 22), args := #[Operand.tmp 80, Operand.const (Value.int IntKind.i64 0), Operand.const (Value.int IntKind.i64 0), Operand.tmp 81], argTypes := #[32, 3, 3, 3] }, type := 9, pos := _, after := _, guard := none }) rfl (fun K hK => ?_) AllReadyH.nil
      go_simp
      go_at_call 22
      refine (HEND.out gg cc _ (hHI.out.below (Below.drew (Below.refl _ _)))).mono ?_
      rintro e w6 ⟨rfl, hb6⟩
      have hB6 : Below W.heap.size W w6 := bthrough (Below.drew (Below.refl _ _)) hb6 (Nat.le_refl _)
      refine hK.out _ _ hB6 (fun _ => ?_)
      clear hK K hHeld hb6
      try simp only [Act.put, List.setIfInBounds_toArray, List.set_cons_zero, List.set_cons_succ]
      refine wpAnyH_take (i := 5) (oi := { dst := some 83, op := Op.binOp BinOp.eql 9 (Operand.tmp 79) (Operand.tmp 82) 9, type := 4, pos := _, after := _, guard := none }) (v := ?_) rfl (by kernel_rfl) (by kernel_rfl) (by kernel_rfl) (fun _ _ _ h => h) (Or.inl ⟨by kernel_rfl, ?_⟩) (by assumption) ?_
      case refine_2 => (intro w hSw; go_simp <;> with_reducible rfl)
      simp only [Act.put, List.setIfInBounds_toArray, List.set_cons_zero, List.set_cons_succ]
      refine wpAnyH_take (i := 6) (oi := { dst := some 84, op := Op.move (Operand.tmp 83), type := 4, pos := _, after := _, guard := none }) (v := ?_) rfl (by kernel_rfl) (by kernel_rfl) (by kernel_rfl) (fun _ _ _ h => h) (Or.inl ⟨by kernel_rfl, ?_⟩) (by assumption) ?_
      case refine_2 => (intro w hSw; go_simp <;> with_reducible rfl)
      simp only [Act.put, List.setIfInBounds_toArray, List.set_cons_zero, List.set_cons_succ]
      refine wpAnyH_ready (rs := [7]) (by kernel_rfl) (by simp) ?_
      refine AllReadyH.cons (o := { dst := some 85, op := Op.call { callee := Callee.value (Operand.func 9), args := #[], argTypes := #[] }, type := 4, pos := _, after := _, guard := some (6, true) }) rfl (fun K hK => ?_) AllReadyH.nil
      go_simp
      go_at_call 9
      refine (awake_any _).mono ?_
      rintro e w7 ⟨rfl, hb7⟩
      have hB7 : Below W.heap.size W w7 := bthrough hB6 hb7 hB6.size
      refine hK.out _ _ hB7 (fun _ => ?_)
      clear hK K hb7
      try simp only [Act.put, List.setIfInBounds_toArray, List.set_cons_zero, List.set_cons_succ]
      refine wpAnyH_take (i := 8) (oi := { dst := some 86, op := Op.pick (Operand.tmp 84) (Operand.tmp 85) (Operand.const (Value.bool false)), type := 4, pos := _, after := _, guard := none }) (v := ?_) rfl (by kernel_rfl) (by kernel_rfl) (by kernel_rfl) (fun _ _ _ h => h) (Or.inl ⟨by kernel_rfl, ?_⟩) (by assumption) ?_
      case refine_2 => (intro w hSw; go_simp <;> with_reducible rfl)
      simp only [Act.put, List.setIfInBounds_toArray, List.set_cons_zero, List.set_cons_succ]
      refine wpAnyH_take (i := 9) (oi := { dst := some 4, op := Op.assign (Operand.tmp 86), type := 4, pos := _, after := _, guard := none }) (v := ?_) rfl (by kernel_rfl) (by kernel_rfl) (by kernel_rfl) (fun _ _ _ h => h) (Or.inl ⟨by kernel_rfl, ?_⟩) (by assumption) ?_
      case refine_2 => (intro w hSw; go_simp <;> with_reducible rfl)
      simp only [Act.put, List.setIfInBounds_toArray, List.set_cons_zero, List.set_cons_succ]
      refine wpAnyH_done (by kernel_rfl) ?_ _
      refine NoPanic.normal ?_
      have hK7 := (hB7.block D hDl).trans hKD
      have HB7 := hid (bthrough hbbW.out hB7 hbbW.out.size)
      go_wp2
      refine ⟨by simp, .inl ⟨_, _, rfl, run_takeDeferred hK7, ?_⟩⟩
      refine ⟨.bool true, ?_, rfl, HB7.out.trans (belowK_b (w := w) (Nat.le_refl _) _ D _ _ (by omega) hK7 rfl rfl)⟩
      simp [results, Try.f6, go_sem]
    case stop =>
      rintro D c pre W _ _ h _
      exact h.elim
  · clear hno
    go_wp2_with fail
    refine (awake_any _).mono ?_
    rintro e w3 ⟨rfl, hb3⟩
    go_wp2
    have hb3' : Below w.heap.size w w3 := bthrough hbb2 hb3 hbb2.size
    refine ⟨.bool true, ?_, rfl, hb3'⟩
    simp [results, Try.f6, go_sem]
end Go.Proofs.Ytdpdkjpkehgdnaa
