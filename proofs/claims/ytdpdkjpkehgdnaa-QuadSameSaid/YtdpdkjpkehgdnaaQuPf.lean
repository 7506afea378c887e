/-
  Package quad: parse: a square that is parted, of one byte alone.
-/
import Derived.Test.YtdpdkjpkehgdnaaQuPd
namespace Go.Proofs.Ytdpdkjpkehgdnaa
open Go.RowKit

set_option maxRecDepth 100000 in
set_option maxHeartbeats 4000000 in
theorem parse_node1a (k : Nat) (ih : ParseOk k) (r : List UInt8) (v : Value) (N : Nat) (w : World) (hl : (1 :: r).length ≤ 1000000000) (hb : BAt w N v (1 :: r)) (hN : N ≤ w.heap.size) (hsk : sd k ≤ 1000000000) (hn2 : (1 :: r).length = 1) (hcp : ∀ A len cap, v = .slice A len cap → cap = 1) :
    Calls Try.prog 38 #[v, .int .i64 (sd (k + 1))] w (ParsePost (k + 1) (1 :: r) N w) := by
  obtain ⟨A, cap, hv, hcap, hA⟩ : ∃ A cap, v = .slice (some A) (1 :: r : List UInt8).length cap ∧ (1 :: r : List UInt8).length ≤ cap ∧ A.block < N := by
    rcases hb with ⟨_, h⟩ | ⟨A, cap, h1, h2, h3, _⟩
    · cases h
    · exact ⟨A, cap, h1, h2, h3 (by simp)⟩
  subst hv
  have h0 := hb.get (j := 0) rfl
  rw [show A.add 0 = A by simp [Addr.add]] at h0
  have hcut := hb.cut (T := 1) (by simp)
  rw [show A.add 1 = ⟨A.block, A.off + 1, none⟩ by simp [Addr.add]] at hcut
  have hcap1 : (cap = 1) = True := eq_true (hcp _ _ _ rfl)
  rw [if_pos (of_eq_true hcap1)] at hcut
  have hsd := sd_succ k
  have hpos := sd_pos k
  have hq : sd (k + 1) / 2 = sd k := by omega
  have hq2 : (sd (k + 1)).tdiv 2 = sd k := by rw [Int.tdiv_eq_ediv_of_nonneg (by omega)]; exact hq
  have hs1 : (sd (k + 1) == 1) = false := by simp; omega
  have hk256 : sd k ≤ 1000000000 := hsk
  have ihc : ∀ (c : Int), c = sd k → ∀ (l : List UInt8) (v : Value) (N : Nat) (w : World), l.length ≤ 1000000000 → BAt w N v l → N ≤ w.heap.size → Calls Try.prog 38 #[v, .int .i64 c] w (ParsePost k l N w) := fun c hc => hc ▸ ih
  obtain ⟨c, hc⟩ : ∃ c, c = sd k := ⟨_, rfl⟩
  have HIH := hid (ihc c hc)
  rw [← hc] at hq hq2 hpos hk256
  have hwc : IntKind.i64.wrap c = c := IntWalk.i64_in _ (by omega)
  have HQ := hid (And.intro hq (And.intro hq2 hwc))
  clear ihc
  obtain ⟨s, hs⟩ : ∃ s, s = sd (k + 1) := ⟨_, rfl⟩
  rw [← hs] at hs1 HQ ⊢
  clear hq hq2 hs ih hwc hsd hc hsk
  have hlr : r.length + 1 = (1 :: r : List UInt8).length := rfl
  obtain ⟨l, hld⟩ : ∃ l : List UInt8, l = 1 :: r := ⟨_, rfl⟩
  rw [← hld] at hl hb hn2 hcap hcut hlr ⊢
  have HLD := hid hld
  clear hld
  generalize hn : l.length = n at *
  have HN1 := hid hn
  clear hn
  have m0 : (0 : Int) < (n : Int) := by omega
  have m1 : (1 : Int) ≤ (n : Int) := by omega
  have m3 : (n : Int) ≤ (cap : Int) := by omega
  have n0 : ((n : Int) == 0) = false := by simp; omega
  have d0 : decide ((n : Int) ≥ 2) = false := decide_eq_false (by omega)
  have c0 : (w.alloc (.cells #[.pointer none, .int .u8 0] 72)).cell? A = some (.int .u8 1) := ((balloc (Below.refl _ _) _).cell (p := A) (by omega)).trans h0
  clear hn2
  clear hcp
  go_enter Try.func38, Try.ntmps38
  go_upto_region 6 with fail
  clear c0
  have HB := hid (hcut.below (N := N) ((balloc (balloc (balloc (Below.refl w.heap.size w) (.cells #[.pointer none, .int .u8 0] 72)) (.cells #[.pointer none, .int .u8 0, .pointer none, .int .u8 0, .pointer none, .int .u8 0, .pointer none, .int .u8 0] 86)) (.cells #[.pointer (some ⟨w.heap.size + 1, 0, none⟩), .int .u8 0] 72)).mono hN))
  have hsz : (((w.alloc (.cells #[.pointer none, .int .u8 0] 72)).alloc (.cells #[.pointer none, .int .u8 0, .pointer none, .int .u8 0, .pointer none, .int .u8 0, .pointer none, .int .u8 0] 86)).alloc (.cells #[.pointer (some ⟨w.heap.size + 1, 0, none⟩), .int .u8 0] 72)).heap.size = w.heap.size + 3 := by simp
  have hinv : ParAt w k N l (fun _ => .leaf 0) (fun _ _ => False) r 0 (.slice (some A) (n - 1) (cap - 1)) (((w.alloc (.cells #[.pointer none, .int .u8 0] 72)).alloc (.cells #[.pointer none, .int .u8 0, .pointer none, .int .u8 0, .pointer none, .int .u8 0, .pointer none, .int .u8 0] 86)).alloc (.cells #[.pointer (some ⟨w.heap.size + 1, 0, none⟩), .int .u8 0] 72)) := by
    refine ⟨⟨fun j hj => absurd hj (Nat.not_lt_zero _), fun a j c ha => absurd ha (Nat.not_lt_zero _), fun j c hj => absurd hj (Nat.not_lt_zero _), fun o ho => ?_, by omega⟩, fun j hj => absurd hj (Nat.not_lt_zero _), by rw [HLD.out]; rfl, ?_, ?_, ?_, ?_, ?_, ?_, ?_, by omega, balloc (balloc (balloc (Below.refl _ _) _) _) _⟩
    · obtain rfl | rfl | rfl | rfl | rfl | rfl | rfl | rfl : o = 0 ∨ o = 1 ∨ o = 2 ∨ o = 3 ∨ o = 4 ∨ o = 5 ∨ o = 6 ∨ o = 7 := by omega
      all_goals simp [go_sem]
    · have := HB.out
      rw [HLD.out] at this
      exact this
    all_goals simp [go_sem]
  have HI := hid hinv
  clear hinv HB hcut
  go_wp2_with fail
  generalize (Value.slice (some A) (n - 1) (cap - 1)) = v0 at HI ⊢
  generalize (((w.alloc (.cells #[.pointer none, .int .u8 0] 72)).alloc (.cells #[.pointer none, .int .u8 0, .pointer none, .int .u8 0, .pointer none, .int .u8 0, .pointer none, .int .u8 0] 86)).alloc (.cells #[.pointer (some ⟨w.heap.size + 1, 0, none⟩), .int .u8 0] 72)) = W1 at HI ⊢
  clear hb h0 hlr hsz hs1 n0 d0 m0 m1 m3 hcap
  go_loopw [8, 9, 48] (fun s8 s9 s48 wr => ∃ (i : Nat) (U : Nat → Sq) (G : Nat → Nat → Prop) (rr : List UInt8), i ≤ 4 ∧ s48 = .int .i64 (i : Int) ∧ s9 = .bool (oneB U i) ∧ ParAt w k N l U G rr i s8 wr) (fun _ _ s48 _ => 4 - (intOf s48).toNat)
  case atStart => exact ⟨0, _, _, _, Nat.zero_le _, rfl, rfl, HI.out⟩
  case round =>
    obtain ⟨i, U, G, rr, hi, rfl, rfl, hin⟩ := hrel
    have hsz := hin.size
    have hKl := hin.kids.lt
    have hrl : rr.length ≤ 1000000000 := by
      have h9 := congrArg List.length hin.eq
      rw [List.length_append, HN1.out] at h9
      omega
    have hq2 := HQ.out.2.1
    have hwc := HQ.out.2.2
    have hq := HQ.out.1
    by_cases hlt : i < 4
    · go_upto_region 12 with fail
      have hKs := hin.s0
      refine wp_region_noPanic ?_
      refine wp_region_held_drew (S := fun w' => w'.cell? ⟨w.heap.size + 1 + 1, 0, none⟩ = some (.pointer (some ⟨w.heap.size + 1, 0, none⟩))) (by kernel_rfl) (by rw [World.cell?_drew]; exact hKs) (fun hHeld => ?_)
      refine wpAnyH_take (i := 0) (oi := { dst := some 52, op := Op.fieldAddr 72 (Operand.tmp 7) 0, type := 0, pos := _, after := _, guard := none }) (v := ?_) rfl (by kernel_rfl) (by kernel_rfl) (by kernel_rfl) (fun _ _ _ h => h) (Or.inl ⟨by kernel_rfl, ?_⟩) (by assumption) ?_
      case refine_2 => (intro w hSw; go_simp <;> with_reducible rfl)
      simp only [Act.put, List.setIfInBounds_toArray, List.set_cons_zero, List.set_cons_succ]
      refine wpAnyH_take (i := 1) (oi := { dst := some 53, op := Op.load 70 (Operand.tmp 52), type := 70, pos := _, after := _, guard := none }) (v := ?_) rfl (by kernel_rfl) (by kernel_rfl) (by kernel_rfl) (fun _ _ _ h => h) (Or.inl ⟨by kernel_rfl, ?_⟩) (by assumption) ?_
      case refine_2 => (intro w hSw; go_simp <;> with_reducible rfl)
      simp only [Act.put, List.setIfInBounds_toArray, List.set_cons_zero, List.set_cons_succ]
      refine wpAnyH_take (i := 2) (oi := { dst := some 54, op := Op.move (Operand.tmp 10), type := 3, pos := _, after := _, guard := none }) (v := ?_) rfl (by kernel_rfl) (by kernel_rfl) (by kernel_rfl) (fun _ _ _ h => h) (Or.inl ⟨by kernel_rfl, ?_⟩) (by assumption) ?_
      case refine_2 => (intro w hSw; go_simp <;> with_reducible rfl)
      simp only [Act.put, List.setIfInBounds_toArray, List.set_cons_zero, List.set_cons_succ]
      refine wpAnyH_take (i := 3) (oi := { dst := some 55, op := Op.move (Operand.tmp 8), type := 54, pos := _, after := _, guard := none }) (v := ?_) rfl (by kernel_rfl) (by kernel_rfl) (by kernel_rfl) (fun _ _ _ h => h) (Or.inl ⟨by kernel_rfl, ?_⟩) (by assumption) ?_
      case refine_2 => (intro w hSw; go_simp <;> with_reducible rfl)
      simp only [Act.put, List.setIfInBounds_toArray, List.set_cons_zero, List.set_cons_succ]
      refine wpAnyH_take (i := 4) (oi := { dst := some 56, op := Op.move (Operand.tmp 1), type := 3, pos := _, after := _, guard := none }) (v := ?_) rfl (by kernel_rfl) (by kernel_rfl) (by kernel_rfl) (fun _ _ _ h => h) (Or.inl ⟨by kernel_rfl, ?_⟩) (by assumption) ?_
      case refine_2 => (intro w hSw; go_simp <;> with_reducible rfl)
      simp only [Act.put, List.setIfInBounds_toArray, List.set_cons_zero, List.set_cons_succ]
      refine wpAnyH_take (i := 5) (oi := { dst := some 57, op := Op.binOp BinOp.quo 3 (Operand.tmp 56) (Operand.const (Value.int IntKind.i64 2)) 3, type := 3, pos := _, after := _, guard := none }) (v := ?_) rfl (by kernel_rfl) (by kernel_rfl) (by kernel_rfl) (fun _ _ _ h => h) (Or.inl ⟨by kernel_rfl, ?_⟩) (by assumption) ?_
      case refine_2 => (intro w hSw; go_simp <;> with_reducible rfl)
      simp only [Act.put, List.setIfInBounds_toArray, List.set_cons_zero, List.set_cons_succ]
      refine wpAnyH_take (i := 11) (oi := { dst := some 62, op := Op.nilCheck (Operand.tmp 53), type := 0, pos := _, after := _, guard := none }) (v := ?_) rfl (by kernel_rfl) (by kernel_rfl) (by kernel_rfl) (fun _ _ _ h => h) (Or.inl ⟨by kernel_rfl, ?_⟩) (by assumption) ?_
      case refine_2 => (intro w hSw; go_simp <;> with_reducible rfl)
      simp only [Act.put, List.setIfInBounds_toArray, List.set_cons_zero, List.set_cons_succ]
      refine wpAnyH_ready (rs := [6]) (by kernel_rfl) (by simp) ?_
      refine AllReadyH.cons (o := { dst := some 58, op := Op.call { callee := Callee.value (Operand.func 38), args := #[Operand.tmp 55, Operand.tmp 57], argTypes := #[54, 3] }, type := 78, pos := _, after := _, guard := none }) rfl (fun K hK => ?_) AllReadyH.nil
      go_simp
      go_at_call 38
      refine (HIH.out rr u8 N wr.drew hrl (hin.rest.below (Below.drew (Below.refl _ _))) (by have := hin.below.size; have : wr.drew.heap.size = wr.heap.size := rfl; omega)).mono ?_
      rintro e w1 ⟨hb1, q, z, v', hpost⟩
      have hb1' : Below wr.heap.size wr w1 := (Below.drew (Below.refl _ _)).trans hb1
      have hl1 := hin.later hb1' hN
      have hs1z := hb1'.size
      obtain ⟨⟨u0, d0⟩, f0⟩ := hl1.kids.cells (i * 2) (by omega)
      obtain ⟨⟨u1, d1⟩, f1⟩ := hl1.kids.cells (i * 2 + 1) (by omega)
      have hKlt := hl1.kids.lt
      obtain ⟨ok, hok, hpp⟩ : ∃ ok, e = .returned (.tuple #[.agg #[.pointer q, .int .u8 z], v', .bool ok]) ∧ Hid ((ok = true ∧ ∃ t r', Front k rr t r' ∧ SqVal w1 t q z (fun c => wr.heap.size ≤ c ∧ c < w1.heap.size) ∧ BAt w1 N v' r') ∨ (ok = false ∧ ∀ t r', ¬ Front k rr t r')) := by
        rcases hpost with ⟨he, hp⟩ | ⟨he, hp⟩
        · exact ⟨true, he, hid (.inl ⟨rfl, hp⟩)⟩
        · exact ⟨false, he, hid (.inr ⟨rfl, hp⟩)⟩
      clear hpost
      subst hok
      refine hK.out _ _ hl1.s0 (fun _ => ?_)
      clear hK K
      try simp only [Act.put, List.setIfInBounds_toArray, List.set_cons_zero, List.set_cons_succ]
      refine wpAnyH_take (i := 7) (oi := { dst := some 51, op := Op.move (Operand.tmp 58), type := 78, pos := _, after := _, guard := none }) (v := ?_) rfl (by kernel_rfl) (by kernel_rfl) (by kernel_rfl) (fun _ _ _ h => h) (Or.inl ⟨by kernel_rfl, ?_⟩) (by assumption) ?_
      case refine_2 => (intro w hSw; go_simp <;> with_reducible rfl)
      simp only [Act.put, List.setIfInBounds_toArray, List.set_cons_zero, List.set_cons_succ]
      refine wpAnyH_take (i := 8) (oi := { dst := some 59, op := Op.extract (Operand.tmp 51) 0, type := 72, pos := _, after := _, guard := none }) (v := ?_) rfl (by kernel_rfl) (by kernel_rfl) (by kernel_rfl) (fun _ _ _ h => h) (Or.inl ⟨by kernel_rfl, ?_⟩) (by assumption) ?_
      case refine_2 => (intro w hSw; go_simp <;> with_reducible rfl)
      simp only [Act.put, List.setIfInBounds_toArray, List.set_cons_zero, List.set_cons_succ]
      refine wpAnyH_take (i := 9) (oi := { dst := some 60, op := Op.extract (Operand.tmp 51) 1, type := 54, pos := _, after := _, guard := none }) (v := ?_) rfl (by kernel_rfl) (by kernel_rfl) (by kernel_rfl) (fun _ _ _ h => h) (Or.inl ⟨by kernel_rfl, ?_⟩) (by assumption) ?_
      case refine_2 => (intro w hSw; go_simp <;> with_reducible rfl)
      simp only [Act.put, List.setIfInBounds_toArray, List.set_cons_zero, List.set_cons_succ]
      refine wpAnyH_take (i := 10) (oi := { dst := some 61, op := Op.extract (Operand.tmp 51) 2, type := 4, pos := _, after := _, guard := none }) (v := ?_) rfl (by kernel_rfl) (by kernel_rfl) (by kernel_rfl) (fun _ _ _ h => h) (Or.inl ⟨by kernel_rfl, ?_⟩) (by assumption) ?_
      case refine_2 => (intro w hSw; go_simp <;> with_reducible rfl)
      simp only [Act.put, List.setIfInBounds_toArray, List.set_cons_zero, List.set_cons_succ]
      refine wpAnyH_take (i := 12) (oi := { dst := some 63, op := Op.indexAddr 86 (Operand.tmp 62) (Operand.tmp 54), type := 0, pos := _, after := _, guard := none }) (v := ?_) rfl (by kernel_rfl) (by kernel_rfl) (by kernel_rfl) (fun _ _ _ h => h) (Or.inl ⟨by kernel_rfl, ?_⟩) (by assumption) ?_
      case refine_2 => (intro w hSw; go_simp <;> with_reducible rfl)
      simp only [Act.put, List.setIfInBounds_toArray, List.set_cons_zero, List.set_cons_succ]
      refine wpAnyH_ready (rs := [13]) (by kernel_rfl) (by simp) ?_
      refine AllReadyH.cons (o := { dst := none, op := Op.store 72 (Operand.tmp 63) (Operand.tmp 59), type := 0, pos := _, after := _, guard := none }) rfl (fun K hK => ?_) AllReadyH.nil
      go_simp
      have hsub := hl1.s0
      have hbelow2 : Below w.heap.size w ((w1.setCell ⟨w.heap.size + 1, i * 2, none⟩ (.pointer q)).setCell ⟨w.heap.size + 1, i * 2 + 1, none⟩ (.int .u8 z)) := (hl1.below.setCell (p := ⟨w.heap.size + 1, i * 2, none⟩) (by dsimp only; omega) _).setCell (p := ⟨w.heap.size + 1, i * 2 + 1, none⟩) (by dsimp only; omega) _
      have hoth : ∀ c o, c ≠ w.heap.size + 1 → ((w1.setCell ⟨w.heap.size + 1, i * 2, none⟩ (.pointer q)).setCell ⟨w.heap.size + 1, i * 2 + 1, none⟩ (.int .u8 z)).cell? ⟨c, o, none⟩ = w1.cell? ⟨c, o, none⟩ ∧ ((w1.setCell ⟨w.heap.size + 1, i * 2, none⟩ (.pointer q)).setCell ⟨w.heap.size + 1, i * 2 + 1, none⟩ (.int .u8 z)).frozen? ⟨c, o, none⟩ = w1.frozen? ⟨c, o, none⟩ := fun c o hc => by
        have hb := (Below.heap_setCell (w1.setCell ⟨w.heap.size + 1, i * 2, none⟩ (.pointer q)) ⟨w.heap.size + 1, i * 2 + 1, none⟩ (.int .u8 z) c hc).trans (Below.heap_setCell w1 ⟨w.heap.size + 1, i * 2, none⟩ (.pointer q) c hc)
        exact ⟨cell_of_block hb o, frozen_of_block hb o⟩
      refine hK.out _ _ (((hoth _ _ (by omega)).1).trans hsub) (fun _ => ?_)
      clear hK K
      try simp only [Act.put, List.setIfInBounds_toArray, List.set_cons_zero, List.set_cons_succ]
      refine wpAnyH_take (i := 14) (oi := { dst := some 8, op := Op.assign (Operand.tmp 60), type := 54, pos := _, after := _, guard := none }) (v := ?_) rfl (by kernel_rfl) (by kernel_rfl) (by kernel_rfl) (fun _ _ _ h => h) (Or.inl ⟨by kernel_rfl, ?_⟩) (by assumption) ?_
      case refine_2 => (intro w hSw; go_simp <;> with_reducible rfl)
      simp only [Act.put, List.setIfInBounds_toArray, List.set_cons_zero, List.set_cons_succ]
      refine wpAnyH_take (i := 15) (oi := { dst := some 11, op := Op.assign (Operand.tmp 61), type := 4, pos := _, after := _, guard := none }) (v := ?_) rfl (by kernel_rfl) (by kernel_rfl) (by kernel_rfl) (fun _ _ _ h => h) (Or.inl ⟨by kernel_rfl, ?_⟩) (by assumption) ?_
      case refine_2 => (intro w hSw; go_simp <;> with_reducible rfl)
      simp only [Act.put, List.setIfInBounds_toArray, List.set_cons_zero, List.set_cons_succ]
      refine wpAnyH_done (by kernel_rfl) ?_ _
      refine NoPanic.normal ?_
      clear HIH
      obtain ⟨w2, hw2⟩ : ∃ w2, w2 = (w1.setCell ⟨w.heap.size + 1, i * 2, none⟩ (.pointer q)).setCell ⟨w.heap.size + 1, i * 2 + 1, none⟩ (.int .u8 z) := ⟨_, rfl⟩
      rw [← hw2] at hbelow2 hoth ⊢
      cases ok with
      | false =>
        have hn9 : ∀ t r', ¬ Front k rr t r' := by
          rcases hpp.out with ⟨h, _⟩ | ⟨_, h⟩
          · cases h
          · exact h
        have HN2 := hid (no_kid hlt hin.ok hin.eq hn9)
        have c0 := ((hoth w.heap.size 0 (by omega)).1).trans hl1.c0
        have c1 := ((hoth w.heap.size 1 (by omega)).1).trans hl1.c1
        have f2 := ((hoth w.heap.size 0 (by omega)).2).trans hl1.f0
        have f3 := ((hoth w.heap.size 1 (by omega)).2).trans hl1.f1
        have e0 : ((w2.setCell ⟨w.heap.size, 0, none⟩ (.pointer none)).setCell ⟨w.heap.size, 1, none⟩ (.int .u8 0)).cell? ⟨w.heap.size, 0, none⟩ = some (.pointer none) := by rw [World.cell?_setCell_other _ _ _ _ (by simp)]; exact World.cell?_setCell_same (u := .pointer none) _ _ _ c0
        have e1 : ((w2.setCell ⟨w.heap.size, 0, none⟩ (.pointer none)).setCell ⟨w.heap.size, 1, none⟩ (.int .u8 0)).cell? ⟨w.heap.size, 1, none⟩ = some (.int .u8 0) := World.cell?_setCell_same (u := .int .u8 0) _ _ _ (by rw [World.cell?_setCell_other _ _ _ _ (by simp)]; exact c1)
        have hbe : Below w.heap.size w ((w2.setCell ⟨w.heap.size, 0, none⟩ (.pointer none)).setCell ⟨w.heap.size, 1, none⟩ (.int .u8 0)) := (hbelow2.setCell (p := ⟨w.heap.size, 0, none⟩) (Nat.le_refl _) _).setCell (p := ⟨w.heap.size, 1, none⟩) (Nat.le_refl _) _
        clear hpp hin hl1 hoth hw2 hHeld hn9 HI
        go_wp2_with fail
        refine bodyPost_ret (v := .tuple #[.agg #[.pointer none, .int .u8 0], .slice none 0 0, .bool false]) (by simp [results, Try.f38, go_sem, e0, e1]) rfl ⟨hbe, none, 0, _, .inr ⟨rfl, HN2.out⟩⟩
      | true =>
        obtain ⟨t, r', hf, hv, hr⟩ : ∃ t r', Front k rr t r' ∧ SqVal w1 t q z (fun c => wr.heap.size ≤ c ∧ c < w1.heap.size) ∧ BAt w1 N v' r' := by
          rcases hpp.out with ⟨_, h⟩ | ⟨h, _⟩
          · exact h
          · cases h
        have hst := hin.step hN hlt hb1' hf hv hr
        rw [← hw2] at hst
        obtain ⟨G', hG'⟩ : ∃ G', G' = (fun j => if j = i then fun c => wr.heap.size ≤ c ∧ c < w1.heap.size else G j) := ⟨_, rfl⟩
        obtain ⟨U', hU'⟩ : ∃ U', U' = (fun j => if j = i then t else U j) := ⟨_, rfl⟩
        rw [← hG', ← hU'] at hst
        have hone' : oneB U' i = oneB U i := oneB_lt fun j hj => by
          rw [hU']
          exact if_neg (by omega)
        have HST := hid hst
        have si := hst.kids.kids i (by omega)
        have sz := hst.kids.kids 0 (by omega)
        obtain ⟨pi, vi, ci0, ci1, _, _, ti, tn⟩ := si.cells
        obtain ⟨pz, vz, cz0, cz1, _, _, tz, _⟩ := sz.cells
        have p1 := hst.s0
        have hsz2 : w.heap.size + 3 ≤ w2.heap.size := hst.size
        have hdr := hst.later (below_drewN (Below.refl _ _) 0) hN
        have hlat := fun m : Nat => hst.later (below_drewN (Below.refl w2.heap.size w2) m) hN
        have HLA := hid hlat
        simp only [Nat.zero_mul, Nat.zero_add] at cz0 cz1
        clear hpp hf hv hr hl1 hoth hHeld hin hst si sz hdr hlat d0 d1 f0 f1 hKs hb1 hb1' hs1z hKlt HI hbelow2 hw2 hU' hG'
        rw [← hone']
        cases hone : oneB U' i with
        | false =>
          go_wp2_with fail
          go_quiet (fail)
          go_wp2_with fail
          refine ⟨⟨i + 1, _, _, _, by omega, by go_num, ?_, HLA.out _⟩, ?_⟩
          · simp [oneB, hone]
          · simp [intOf]; omega
        | true =>
          cases hti : (U' i).tag with
          | none =>
            obtain ⟨Ki, rfl⟩ := tn hti
            go_wp2_with fail
            go_quiet (fail)
            go_wp2_with fail
            refine ⟨⟨i + 1, _, _, _, by omega, by go_num, ?_, HLA.out _⟩, ?_⟩
            · simp [oneB, hone, hti]
            · simp [intOf]; omega
          | some u =>
            obtain ⟨rfl, rfl⟩ := ti u hti
            have htz : ∃ u0, (U' 0).tag = some u0 := by
              cases i with
              | zero => exact ⟨_, hti⟩
              | succ i => exact oneB_zero hone
            obtain ⟨u0, htz⟩ := htz
            obtain ⟨rfl, rfl⟩ := tz u0 htz
            cases huv : vi == vz with
            | false =>
              go_wp2_with fail
              go_quiet (fail)
              go_wp2_with fail
              refine ⟨⟨i + 1, _, _, _, by omega, by go_num, ?_, HLA.out _⟩, ?_⟩
              · simp [oneB, hone, hti, htz, by simpa using huv]
              · simp [intOf]; omega
            | true =>
              go_wp2_with fail
              go_quiet (fail)
              go_wp2_with fail
              refine ⟨⟨i + 1, _, _, _, by omega, by go_num, ?_, HLA.out _⟩, ?_⟩
              · simp [oneB, hone, hti, htz, by simpa using huv]
              · simp [intOf]; omega
    · obtain rfl : i = 4 := by omega
      have s0 := hin.s0
      have s1 := hin.s1
      have c0 := hin.c0
      have c1 := hin.c1
      have f0 := hin.f0
      have f1 := hin.f1
      have hfr := hid hin
      have hbel := hid hin.below
      clear hin HI
      have e0 : ((wr.setCell ⟨w.heap.size, 0, none⟩ (.pointer (some ⟨w.heap.size + 1, 0, none⟩))).setCell ⟨w.heap.size, 1, none⟩ (.int .u8 0)).cell? ⟨w.heap.size, 0, none⟩ = some (.pointer (some ⟨w.heap.size + 1, 0, none⟩)) := by rw [World.cell?_setCell_other _ _ _ _ (by simp)]; exact World.cell?_setCell_same (u := .pointer none) _ _ _ c0
      have e1 : ((wr.setCell ⟨w.heap.size, 0, none⟩ (.pointer (some ⟨w.heap.size + 1, 0, none⟩))).setCell ⟨w.heap.size, 1, none⟩ (.int .u8 0)).cell? ⟨w.heap.size, 1, none⟩ = some (.int .u8 0) := World.cell?_setCell_same (u := .int .u8 0) _ _ _ (by rw [World.cell?_setCell_other _ _ _ _ (by simp)]; exact c1)
      have hbe : Below w.heap.size w ((wr.setCell ⟨w.heap.size, 0, none⟩ (.pointer (some ⟨w.heap.size + 1, 0, none⟩))).setCell ⟨w.heap.size, 1, none⟩ (.int .u8 0)) := (hbel.out.setCell (p := ⟨w.heap.size, 0, none⟩) (Nat.le_refl _) _).setCell (p := ⟨w.heap.size, 1, none⟩) (Nat.le_refl _) _
      have hend := hid (parse_end hfr.out hN)
      go_wp2_with fail
      refine bodyPost_ret (v := .tuple #[.agg #[.pointer (some ⟨w.heap.size + 1, 0, none⟩), .int .u8 0], u8, .bool (!oneB U 4)]) (by simp [results, Try.f38, go_sem, e0, e1]) rfl ⟨hbe, some ⟨w.heap.size + 1, 0, none⟩, 0, u8, ?_⟩
      exact hend.out _ rfl

set_option maxRecDepth 100000 in
set_option maxHeartbeats 4000000 in
theorem parse_node1b (k : Nat) (ih : ParseOk k) (r : List UInt8) (v : Value) (N : Nat) (w : World) (hl : (1 :: r).length ≤ 1000000000) (hb : BAt w N v (1 :: r)) (hN : N ≤ w.heap.size) (hsk : sd k ≤ 1000000000) (hn2 : (1 :: r).length = 1) (hcp : ∀ A len cap, v = .slice A len cap → cap ≠ 1) :
    Calls Try.prog 38 #[v, .int .i64 (sd (k + 1))] w (ParsePost (k + 1) (1 :: r) N w) := by
  obtain ⟨A, cap, hv, hcap, hA⟩ : ∃ A cap, v = .slice (some A) (1 :: r : List UInt8).length cap ∧ (1 :: r : List UInt8).length ≤ cap ∧ A.block < N := by
    rcases hb with ⟨_, h⟩ | ⟨A, cap, h1, h2, h3, _⟩
    · cases h
    · exact ⟨A, cap, h1, h2, h3 (by simp)⟩
  subst hv
  have h0 := hb.get (j := 0) rfl
  rw [show A.add 0 = A by simp [Addr.add]] at h0
  have hcut := hb.cut (T := 1) (by simp)
  rw [show A.add 1 = ⟨A.block, A.off + 1, none⟩ by simp [Addr.add]] at hcut
  have hcap1 : cap ≠ 1 := hcp _ _ _ rfl
  rw [if_neg hcap1] at hcut
  have hsd := sd_succ k
  have hpos := sd_pos k
  have hq : sd (k + 1) / 2 = sd k := by omega
  have hq2 : (sd (k + 1)).tdiv 2 = sd k := by rw [Int.tdiv_eq_ediv_of_nonneg (by omega)]; exact hq
  have hs1 : (sd (k + 1) == 1) = false := by simp; omega
  have hk256 : sd k ≤ 1000000000 := hsk
  have ihc : ∀ (c : Int), c = sd k → ∀ (l : List UInt8) (v : Value) (N : Nat) (w : World), l.length ≤ 1000000000 → BAt w N v l → N ≤ w.heap.size → Calls Try.prog 38 #[v, .int .i64 c] w (ParsePost k l N w) := fun c hc => hc ▸ ih
  obtain ⟨c, hc⟩ : ∃ c, c = sd k := ⟨_, rfl⟩
  have HIH := hid (ihc c hc)
  rw [← hc] at hq hq2 hpos hk256
  have hwc : IntKind.i64.wrap c = c := IntWalk.i64_in _ (by omega)
  have HQ := hid (And.intro hq (And.intro hq2 hwc))
  clear ihc
  obtain ⟨s, hs⟩ : ∃ s, s = sd (k + 1) := ⟨_, rfl⟩
  rw [← hs] at hs1 HQ ⊢
  clear hq hq2 hs ih hwc hsd hc hsk
  have hlr : r.length + 1 = (1 :: r : List UInt8).length := rfl
  obtain ⟨l, hld⟩ : ∃ l : List UInt8, l = 1 :: r := ⟨_, rfl⟩
  rw [← hld] at hl hb hn2 hcap hcut hlr ⊢
  have HLD := hid hld
  clear hld
  generalize hn : l.length = n at *
  have HN1 := hid hn
  clear hn
  have m0 : (0 : Int) < (n : Int) := by omega
  have m1 : (1 : Int) ≤ (n : Int) := by omega
  have m3 : (n : Int) ≤ (cap : Int) := by omega
  have n0 : ((n : Int) == 0) = false := by simp; omega
  have d0 : decide ((n : Int) ≥ 2) = false := decide_eq_false (by omega)
  have c0 : (w.alloc (.cells #[.pointer none, .int .u8 0] 72)).cell? A = some (.int .u8 1) := ((balloc (Below.refl _ _) _).cell (p := A) (by omega)).trans h0
  clear hn2
  clear hcp
  go_enter Try.func38, Try.ntmps38
  go_upto_region 6 with fail
  clear c0
  have HB := hid (hcut.below (N := N) ((balloc (balloc (balloc (Below.refl w.heap.size w) (.cells #[.pointer none, .int .u8 0] 72)) (.cells #[.pointer none, .int .u8 0, .pointer none, .int .u8 0, .pointer none, .int .u8 0, .pointer none, .int .u8 0] 86)) (.cells #[.pointer (some ⟨w.heap.size + 1, 0, none⟩), .int .u8 0] 72)).mono hN))
  have hsz : (((w.alloc (.cells #[.pointer none, .int .u8 0] 72)).alloc (.cells #[.pointer none, .int .u8 0, .pointer none, .int .u8 0, .pointer none, .int .u8 0, .pointer none, .int .u8 0] 86)).alloc (.cells #[.pointer (some ⟨w.heap.size + 1, 0, none⟩), .int .u8 0] 72)).heap.size = w.heap.size + 3 := by simp
  have hinv : ParAt w k N l (fun _ => .leaf 0) (fun _ _ => False) r 0 (.slice (some ⟨A.block, A.off + 1, none⟩) (n - 1) (cap - 1)) (((w.alloc (.cells #[.pointer none, .int .u8 0] 72)).alloc (.cells #[.pointer none, .int .u8 0, .pointer none, .int .u8 0, .pointer none, .int .u8 0, .pointer none, .int .u8 0] 86)).alloc (.cells #[.pointer (some ⟨w.heap.size + 1, 0, none⟩), .int .u8 0] 72)) := by
    refine ⟨⟨fun j hj => absurd hj (Nat.not_lt_zero _), fun a j c ha => absurd ha (Nat.not_lt_zero _), fun j c hj => absurd hj (Nat.not_lt_zero _), fun o ho => ?_, by omega⟩, fun j hj => absurd hj (Nat.not_lt_zero _), by rw [HLD.out]; rfl, ?_, ?_, ?_, ?_, ?_, ?_, ?_, by omega, balloc (balloc (balloc (Below.refl _ _) _) _) _⟩
    · obtain rfl | rfl | rfl | rfl | rfl | rfl | rfl | rfl : o = 0 ∨ o = 1 ∨ o = 2 ∨ o = 3 ∨ o = 4 ∨ o = 5 ∨ o = 6 ∨ o = 7 := by omega
      all_goals simp [go_sem]
    · have := HB.out
      rw [HLD.out] at this
      exact this
    all_goals simp [go_sem]
  have HI := hid hinv
  clear hinv HB hcut
  go_wp2_with fail
  generalize (Value.slice (some ⟨A.block, A.off + 1, none⟩) (n - 1) (cap - 1)) = v0 at HI ⊢
  generalize (((w.alloc (.cells #[.pointer none, .int .u8 0] 72)).alloc (.cells #[.pointer none, .int .u8 0, .pointer none, .int .u8 0, .pointer none, .int .u8 0, .pointer none, .int .u8 0] 86)).alloc (.cells #[.pointer (some ⟨w.heap.size + 1, 0, none⟩), .int .u8 0] 72)) = W1 at HI ⊢
  clear hb h0 hlr hsz hs1 n0 d0 m0 m1 m3 hcap
  go_loopw [8, 9, 48] (fun s8 s9 s48 wr => ∃ (i : Nat) (U : Nat → Sq) (G : Nat → Nat → Prop) (rr : List UInt8), i ≤ 4 ∧ s48 = .int .i64 (i : Int) ∧ s9 = .bool (oneB U i) ∧ ParAt w k N l U G rr i s8 wr) (fun _ _ s48 _ => 4 - (intOf s48).toNat)
  case atStart => exact ⟨0, _, _, _, Nat.zero_le _, rfl, rfl, HI.out⟩
  case round =>
    obtain ⟨i, U, G, rr, hi, rfl, rfl, hin⟩ := hrel
    have hsz := hin.size
    have hKl := hin.kids.lt
    have hrl : rr.length ≤ 1000000000 := by
      have h9 := congrArg List.length hin.eq
      rw [List.length_append, HN1.out] at h9
      omega
    have hq2 := HQ.out.2.1
    have hwc := HQ.out.2.2
    have hq := HQ.out.1
    by_cases hlt : i < 4
    · go_upto_region 12 with fail
      have hKs := hin.s0
      refine wp_region_noPanic ?_
      refine wp_region_held_drew (S := fun w' => w'.cell? ⟨w.heap.size + 1 + 1, 0, none⟩ = some (.pointer (some ⟨w.heap.size + 1, 0, none⟩))) (by kernel_rfl) (by rw [World.cell?_drew]; exact hKs) (fun hHeld => ?_)
      refine wpAnyH_take (i := 0) (oi := { dst := some 52, op := Op.fieldAddr 72 (Operand.tmp 7) 0, type := 0, pos := _, after := _, guard := none }) (v := ?_) rfl (by kernel_rfl) (by kernel_rfl) (by kernel_rfl) (fun _ _ _ h => h) (Or.inl ⟨by kernel_rfl, ?_⟩) (by assumption) ?_
      case refine_2 => (intro w hSw; go_simp <;> with_reducible rfl)
      simp only [Act.put, List.setIfInBounds_toArray, List.set_cons_zero, List.set_cons_succ]
      refine wpAnyH_take (i := 1) (oi := { dst := some 53, op := Op.load 70 (Operand.tmp 52), type := 70, pos := _, after := _, guard := none }) (v := ?_) rfl (by kernel_rfl) (by kernel_rfl) (by kernel_rfl) (fun _ _ _ h => h) (Or.inl ⟨by kernel_rfl, ?_⟩) (by assumption) ?_
      case refine_2 => (intro w hSw; go_simp <;> with_reducible rfl)
      simp only [Act.put, List.setIfInBounds_toArray, List.set_cons_zero, List.set_cons_succ]
      refine wpAnyH_take (i := 2) (oi := { dst := some 54, op := Op.move (Operand.tmp 10), type := 3, pos := _, after := _, guard := none }) (v := ?_) rfl (by kernel_rfl) (by kernel_rfl) (by kernel_rfl) (fun _ _ _ h => h) (Or.inl ⟨by kernel_rfl, ?_⟩) (by assumption) ?_
      case refine_2 => (intro w hSw; go_simp <;> with_reducible rfl)
      simp only [Act.put, List.setIfInBounds_toArray, List.set_cons_zero, List.set_cons_succ]
      refine wpAnyH_take (i := 3) (oi := { dst := some 55, op := Op.move (Operand.tmp 8), type := 54, pos := _, after := _, guard := none }) (v := ?_) rfl (by kernel_rfl) (by kernel_rfl) (by kernel_rfl) (fun _ _ _ h => h) (Or.inl ⟨by kernel_rfl, ?_⟩) (by assumption) ?_
      case refine_2 => (intro w hSw; go_simp <;> with_reducible rfl)
      simp only [Act.put, List.setIfInBounds_toArray, List.set_cons_zero, List.set_cons_succ]
      refine wpAnyH_take (i := 4) (oi := { dst := some 56, op := Op.move (Operand.tmp 1), type := 3, pos := _, after := _, guard := none }) (v := ?_) rfl (by kernel_rfl) (by kernel_rfl) (by kernel_rfl) (fun _ _ _ h => h) (Or.inl ⟨by kernel_rfl, ?_⟩) (by assumption) ?_
      case refine_2 => (intro w hSw; go_simp <;> with_reducible rfl)
      simp only [Act.put, List.setIfInBounds_toArray, List.set_cons_zero, List.set_cons_succ]
      refine wpAnyH_take (i := 5) (oi := { dst := some 57, op := Op.binOp BinOp.quo 3 (Operand.tmp 56) (Operand.const (Value.int IntKind.i64 2)) 3, type := 3, pos := _, after := _, guard := none }) (v := ?_) rfl (by kernel_rfl) (by kernel_rfl) (by kernel_rfl) (fun _ _ _ h => h) (Or.inl ⟨by kernel_rfl, ?_⟩) (by assumption) ?_
      case refine_2 => (intro w hSw; go_simp <;> with_reducible rfl)
      simp only [Act.put, List.setIfInBounds_toArray, List.set_cons_zero, List.set_cons_succ]
      refine wpAnyH_take (i := 11) (oi := { dst := some 62, op := Op.nilCheck (Operand.tmp 53), type := 0, pos := _, after := _, guard := none }) (v := ?_) rfl (by kernel_rfl) (by kernel_rfl) (by kernel_rfl) (fun _ _ _ h => h) (Or.inl ⟨by kernel_rfl, ?_⟩) (by assumption) ?_
      case refine_2 => (intro w hSw; go_simp <;> with_reducible rfl)
      simp only [Act.put, List.setIfInBounds_toArray, List.set_cons_zero, List.set_cons_succ]
      refine wpAnyH_ready (rs := [6]) (by kernel_rfl) (by simp) ?_
      refine AllReadyH.cons (o := { dst := some 58, op := Op.call { callee := Callee.value (Operand.func 38), args := #[Operand.tmp 55, Operand.tmp 57], argTypes := #[54, 3] }, type := 78, pos := _, after := _, guard := none }) rfl (fun K hK => ?_) AllReadyH.nil
      go_simp
      go_at_call 38
      refine (HIH.out rr u8 N wr.drew hrl (hin.rest.below (Below.drew (Below.refl _ _))) (by have := hin.below.size; have : wr.drew.heap.size = wr.heap.size := rfl; omega)).mono ?_
      rintro e w1 ⟨hb1, q, z, v', hpost⟩
      have hb1' : Below wr.heap.size wr w1 := (Below.drew (Below.refl _ _)).trans hb1
      have hl1 := hin.later hb1' hN
      have hs1z := hb1'.size
      obtain ⟨⟨u0, d0⟩, f0⟩ := hl1.kids.cells (i * 2) (by omega)
      obtain ⟨⟨u1, d1⟩, f1⟩ := hl1.kids.cells (i * 2 + 1) (by omega)
      have hKlt := hl1.kids.lt
      obtain ⟨ok, hok, hpp⟩ : ∃ ok, e = .returned (.tuple #[.agg #[.pointer q, .int .u8 z], v', .bool ok]) ∧ Hid ((ok = true ∧ ∃ t r', Front k rr t r' ∧ SqVal w1 t q z (fun c => wr.heap.size ≤ c ∧ c < w1.heap.size) ∧ BAt w1 N v' r') ∨ (ok = false ∧ ∀ t r', ¬ Front k rr t r')) := by
        rcases hpost with ⟨he, hp⟩ | ⟨he, hp⟩
        · exact ⟨true, he, hid (.inl ⟨rfl, hp⟩)⟩
        · exact ⟨false, he, hid (.inr ⟨rfl, hp⟩)⟩
      clear hpost
      subst hok
      refine hK.out _ _ hl1.s0 (fun _ => ?_)
      clear hK K
      try simp only [Act.put, List.setIfInBounds_toArray, List.set_cons_zero, List.set_cons_succ]
      refine wpAnyH_take (i := 7) (oi := { dst := some 51, op := Op.move (Operand.tmp 58), type := 78, pos := _, after := _, guard := none }) (v := ?_) rfl (by kernel_rfl) (by kernel_rfl) (by kernel_rfl) (fun _ _ _ h => h) (Or.inl ⟨by kernel_rfl, ?_⟩) (by assumption) ?_
      case refine_2 => (intro w hSw; go_simp <;> with_reducible rfl)
      simp only [Act.put, List.setIfInBounds_toArray, List.set_cons_zero, List.set_cons_succ]
      refine wpAnyH_take (i := 8) (oi := { dst := some 59, op := Op.extract (Operand.tmp 51) 0, type := 72, pos := _, after := _, guard := none }) (v := ?_) rfl (by kernel_rfl) (by kernel_rfl) (by kernel_rfl) (fun _ _ _ h => h) (Or.inl ⟨by kernel_rfl, ?_⟩) (by assumption) ?_
      case refine_2 => (intro w hSw; go_simp <;> with_reducible rfl)
      simp only [Act.put, List.setIfInBounds_toArray, List.set_cons_zero, List.set_cons_succ]
      refine wpAnyH_take (i := 9) (oi := { dst := some 60, op := Op.extract (Operand.tmp 51) 1, type := 54, pos := _, after := _, guard := none }) (v := ?_) rfl (by kernel_rfl) (by kernel_rfl) (by kernel_rfl) (fun _ _ _ h => h) (Or.inl ⟨by kernel_rfl, ?_⟩) (by assumption) ?_
      case refine_2 => (intro w hSw; go_simp <;> with_reducible rfl)
      simp only [Act.put, List.setIfInBounds_toArray, List.set_cons_zero, List.set_cons_succ]
      refine wpAnyH_take (i := 10) (oi := { dst := some 61, op := Op.extract (Operand.tmp 51) 2, type := 4, pos := _, after := _, guard := none }) (v := ?_) rfl (by kernel_rfl) (by kernel_rfl) (by kernel_rfl) (fun _ _ _ h => h) (Or.inl ⟨by kernel_rfl, ?_⟩) (by assumption) ?_
      case refine_2 => (intro w hSw; go_simp <;> with_reducible rfl)
      simp only [Act.put, List.setIfInBounds_toArray, List.set_cons_zero, List.set_cons_succ]
      refine wpAnyH_take (i := 12) (oi := { dst := some 63, op := Op.indexAddr 86 (Operand.tmp 62) (Operand.tmp 54), type := 0, pos := _, after := _, guard := none }) (v := ?_) rfl (by kernel_rfl) (by kernel_rfl) (by kernel_rfl) (fun _ _ _ h => h) (Or.inl ⟨by kernel_rfl, ?_⟩) (by assumption) ?_
      case refine_2 => (intro w hSw; go_simp <;> with_reducible rfl)
      simp only [Act.put, List.setIfInBounds_toArray, List.set_cons_zero, List.set_cons_succ]
      refine wpAnyH_ready (rs := [13]) (by kernel_rfl) (by simp) ?_
      refine AllReadyH.cons (o := { dst := none, op := Op.store 72 (Operand.tmp 63) (Operand.tmp 59), type := 0, pos := _, after := _, guard := none }) rfl (fun K hK => ?_) AllReadyH.nil
      go_simp
      have hsub := hl1.s0
      have hbelow2 : Below w.heap.size w ((w1.setCell ⟨w.heap.size + 1, i * 2, none⟩ (.pointer q)).setCell ⟨w.heap.size + 1, i * 2 + 1, none⟩ (.int .u8 z)) := (hl1.below.setCell (p := ⟨w.heap.size + 1, i * 2, none⟩) (by dsimp only; omega) _).setCell (p := ⟨w.heap.size + 1, i * 2 + 1, none⟩) (by dsimp only; omega) _
      have hoth : ∀ c o, c ≠ w.heap.size + 1 → ((w1.setCell ⟨w.heap.size + 1, i * 2, none⟩ (.pointer q)).setCell ⟨w.heap.size + 1, i * 2 + 1, none⟩ (.int .u8 z)).cell? ⟨c, o, none⟩ = w1.cell? ⟨c, o, none⟩ ∧ ((w1.setCell ⟨w.heap.size + 1, i * 2, none⟩ (.pointer q)).setCell ⟨w.heap.size + 1, i * 2 + 1, none⟩ (.int .u8 z)).frozen? ⟨c, o, none⟩ = w1.frozen? ⟨c, o, none⟩ := fun c o hc => by
        have hb := (Below.heap_setCell (w1.setCell ⟨w.heap.size + 1, i * 2, none⟩ (.pointer q)) ⟨w.heap.size + 1, i * 2 + 1, none⟩ (.int .u8 z) c hc).trans (Below.heap_setCell w1 ⟨w.heap.size + 1, i * 2, none⟩ (.pointer q) c hc)
        exact ⟨cell_of_block hb o, frozen_of_block hb o⟩
      refine hK.out _ _ (((hoth _ _ (by omega)).1).trans hsub) (fun _ => ?_)
      clear hK K
      try simp only [Act.put, List.setIfInBounds_toArray, List.set_cons_zero, List.set_cons_succ]
      refine wpAnyH_take (i := 14) (oi := { dst := some 8, op := Op.assign (Operand.tmp 60), type := 54, pos := _, after := _, guard := none }) (v := ?_) rfl (by kernel_rfl) (by kernel_rfl) (by kernel_rfl) (fun _ _ _ h => h) (Or.inl ⟨by kernel_rfl, ?_⟩) (by assumption) ?_
      case refine_2 => (intro w hSw; go_simp <;> with_reducible rfl)
      simp only [Act.put, List.setIfInBounds_toArray, List.set_cons_zero, List.set_cons_succ]
      refine wpAnyH_take (i := 15) (oi := { dst := some 11, op := Op.assign (Operand.tmp 61), type := 4, pos := _, after := _, guard := none }) (v := ?_) rfl (by kernel_rfl) (by kernel_rfl) (by kernel_rfl) (fun _ _ _ h => h) (Or.inl ⟨by kernel_rfl, ?_⟩) (by assumption) ?_
      case refine_2 => (intro w hSw; go_simp <;> with_reducible rfl)
      simp only [Act.put, List.setIfInBounds_toArray, List.set_cons_zero, List.set_cons_succ]
      refine wpAnyH_done (by kernel_rfl) ?_ _
      refine NoPanic.normal ?_
      clear HIH
      obtain ⟨w2, hw2⟩ : ∃ w2, w2 = (w1.setCell ⟨w.heap.size + 1, i * 2, none⟩ (.pointer q)).setCell ⟨w.heap.size + 1, i * 2 + 1, none⟩ (.int .u8 z) := ⟨_, rfl⟩
      rw [← hw2] at hbelow2 hoth ⊢
      cases ok with
      | false =>
        have hn9 : ∀ t r', ¬ Front k rr t r' := by
          rcases hpp.out with ⟨h, _⟩ | ⟨_, h⟩
          · cases h
          · exact h
        have HN2 := hid (no_kid hlt hin.ok hin.eq hn9)
        have c0 := ((hoth w.heap.size 0 (by omega)).1).trans hl1.c0
        have c1 := ((hoth w.heap.size 1 (by omega)).1).trans hl1.c1
        have f2 := ((hoth w.heap.size 0 (by omega)).2).trans hl1.f0
        have f3 := ((hoth w.heap.size 1 (by omega)).2).trans hl1.f1
        have e0 : ((w2.setCell ⟨w.heap.size, 0, none⟩ (.pointer none)).setCell ⟨w.heap.size, 1, none⟩ (.int .u8 0)).cell? ⟨w.heap.size, 0, none⟩ = some (.pointer none) := by rw [World.cell?_setCell_other _ _ _ _ (by simp)]; exact World.cell?_setCell_same (u := .pointer none) _ _ _ c0
        have e1 : ((w2.setCell ⟨w.heap.size, 0, none⟩ (.pointer none)).setCell ⟨w.heap.size, 1, none⟩ (.int .u8 0)).cell? ⟨w.heap.size, 1, none⟩ = some (.int .u8 0) := World.cell?_setCell_same (u := .int .u8 0) _ _ _ (by rw [World.cell?_setCell_other _ _ _ _ (by simp)]; exact c1)
        have hbe : Below w.heap.size w ((w2.setCell ⟨w.heap.size, 0, none⟩ (.pointer none)).setCell ⟨w.heap.size, 1, none⟩ (.int .u8 0)) := (hbelow2.setCell (p := ⟨w.heap.size, 0, none⟩) (Nat.le_refl _) _).setCell (p := ⟨w.heap.size, 1, none⟩) (Nat.le_refl _) _
        clear hpp hin hl1 hoth hw2 hHeld hn9 HI
        go_wp2_with fail
        refine bodyPost_ret (v := .tuple #[.agg #[.pointer none, .int .u8 0], .slice none 0 0, .bool false]) (by simp [results, Try.f38, go_sem, e0, e1]) rfl ⟨hbe, none, 0, _, .inr ⟨rfl, HN2.out⟩⟩
      | true =>
        obtain ⟨t, r', hf, hv, hr⟩ : ∃ t r', Front k rr t r' ∧ SqVal w1 t q z (fun c => wr.heap.size ≤ c ∧ c < w1.heap.size) ∧ BAt w1 N v' r' := by
          rcases hpp.out with ⟨_, h⟩ | ⟨h, _⟩
          · exact h
          · cases h
        have hst := hin.step hN hlt hb1' hf hv hr
        rw [← hw2] at hst
        obtain ⟨G', hG'⟩ : ∃ G', G' = (fun j => if j = i then fun c => wr.heap.size ≤ c ∧ c < w1.heap.size else G j) := ⟨_, rfl⟩
        obtain ⟨U', hU'⟩ : ∃ U', U' = (fun j => if j = i then t else U j) := ⟨_, rfl⟩
        rw [← hG', ← hU'] at hst
        have hone' : oneB U' i = oneB U i := oneB_lt fun j hj => by
          rw [hU']
          exact if_neg (by omega)
        have HST := hid hst
        have si := hst.kids.kids i (by omega)
        have sz := hst.kids.kids 0 (by omega)
        obtain ⟨pi, vi, ci0, ci1, _, _, ti, tn⟩ := si.cells
        obtain ⟨pz, vz, cz0, cz1, _, _, tz, _⟩ := sz.cells
        have p1 := hst.s0
        have hsz2 : w.heap.size + 3 ≤ w2.heap.size := hst.size
        have hdr := hst.later (below_drewN (Below.refl _ _) 0) hN
        have hlat := fun m : Nat => hst.later (below_drewN (Below.refl w2.heap.size w2) m) hN
        have HLA := hid hlat
        simp only [Nat.zero_mul, Nat.zero_add] at cz0 cz1
        clear hpp hf hv hr hl1 hoth hHeld hin hst si sz hdr hlat d0 d1 f0 f1 hKs hb1 hb1' hs1z hKlt HI hbelow2 hw2 hU' hG'
        rw [← hone']
        cases hone : oneB U' i with
        | false =>
          go_wp2_with fail
          go_quiet (fail)
          go_wp2_with fail
          refine ⟨⟨i + 1, _, _, _, by omega, by go_num, ?_, HLA.out _⟩, ?_⟩
          · simp [oneB, hone]
          · simp [intOf]; omega
        | true =>
          cases hti : (U' i).tag with
          | none =>
            obtain ⟨Ki, rfl⟩ := tn hti
            go_wp2_with fail
            go_quiet (fail)
            go_wp2_with fail
            refine ⟨⟨i + 1, _, _, _, by omega, by go_num, ?_, HLA.out _⟩, ?_⟩
            · simp [oneB, hone, hti]
            · simp [intOf]; omega
          | some u =>
            obtain ⟨rfl, rfl⟩ := ti u hti
            have htz : ∃ u0, (U' 0).tag = some u0 := by
              cases i with
              | zero => exact ⟨_, hti⟩
              | succ i => exact oneB_zero hone
            obtain ⟨u0, htz⟩ := htz
            obtain ⟨rfl, rfl⟩ := tz u0 htz
            cases huv : vi == vz with
            | false =>
              go_wp2_with fail
              go_quiet (fail)
              go_wp2_with fail
              refine ⟨⟨i + 1, _, _, _, by omega, by go_num, ?_, HLA.out _⟩, ?_⟩
              · simp [oneB, hone, hti, htz, by simpa using huv]
              · simp [intOf]; omega
            | true =>
              go_wp2_with fail
              go_quiet (fail)
              go_wp2_with fail
              refine ⟨⟨i + 1, _, _, _, by omega, by go_num, ?_, HLA.out _⟩, ?_⟩
              · simp [oneB, hone, hti, htz, by simpa using huv]
              · simp [intOf]; omega
    · obtain rfl : i = 4 := by omega
      have s0 := hin.s0
      have s1 := hin.s1
      have c0 := hin.c0
      have c1 := hin.c1
      have f0 := hin.f0
      have f1 := hin.f1
      have hfr := hid hin
      have hbel := hid hin.below
      clear hin HI
      have e0 : ((wr.setCell ⟨w.heap.size, 0, none⟩ (.pointer (some ⟨w.heap.size + 1, 0, none⟩))).setCell ⟨w.heap.size, 1, none⟩ (.int .u8 0)).cell? ⟨w.heap.size, 0, none⟩ = some (.pointer (some ⟨w.heap.size + 1, 0, none⟩)) := by rw [World.cell?_setCell_other _ _ _ _ (by simp)]; exact World.cell?_setCell_same (u := .pointer none) _ _ _ c0
      have e1 : ((wr.setCell ⟨w.heap.size, 0, none⟩ (.pointer (some ⟨w.heap.size + 1, 0, none⟩))).setCell ⟨w.heap.size, 1, none⟩ (.int .u8 0)).cell? ⟨w.heap.size, 1, none⟩ = some (.int .u8 0) := World.cell?_setCell_same (u := .int .u8 0) _ _ _ (by rw [World.cell?_setCell_other _ _ _ _ (by simp)]; exact c1)
      have hbe : Below w.heap.size w ((wr.setCell ⟨w.heap.size, 0, none⟩ (.pointer (some ⟨w.heap.size + 1, 0, none⟩))).setCell ⟨w.heap.size, 1, none⟩ (.int .u8 0)) := (hbel.out.setCell (p := ⟨w.heap.size, 0, none⟩) (Nat.le_refl _) _).setCell (p := ⟨w.heap.size, 1, none⟩) (Nat.le_refl _) _
      have hend := hid (parse_end hfr.out hN)
      go_wp2_with fail
      refine bodyPost_ret (v := .tuple #[.agg #[.pointer (some ⟨w.heap.size + 1, 0, none⟩), .int .u8 0], u8, .bool (!oneB U 4)]) (by simp [results, Try.f38, go_sem, e0, e1]) rfl ⟨hbe, some ⟨w.heap.size + 1, 0, none⟩, 0, u8, ?_⟩
      exact hend.out _ rfl
end Go.Proofs.Ytdpdkjpkehgdnaa
