/-
  Package quad: a square copied, and all below it, for every square.
-/
import Derived.Test.YtdpdkjpkehgdnaaQuPg
namespace Go.Proofs.Ytdpdkjpkehgdnaa
open Go.RowKit

/-- what copied does -/
def CopyPost (t : Sq) (w : World) (e : Ending) (w' : World) : Prop :=
  Below w.heap.size w w' ∧ ∃ q z, e = .returned (.agg #[.pointer q, .int .u8 z]) ∧ SqVal w' t q z (fun c => w.heap.size ≤ c ∧ c < w'.heap.size)

/-- what holds before each quarter is copied -/
structure CopAt (w : World) (K : Nat) (z : Int) (U : Nat → Sq) (i : Nat) (wr : World) : Prop where
  kids : ∃ U' G, KidsTo (w.heap.size + 2) U' G i wr ∧ ∀ j, j < i → U' j = U j
  b0 : wr.cell? ⟨w.heap.size, 0, none⟩ = some (.pointer (some ⟨K, 0, none⟩))
  b1 : wr.cell? ⟨w.heap.size, 1, none⟩ = some (.int .u8 z)
  g0 : wr.frozen? ⟨w.heap.size, 0, none⟩ = false
  c0 : wr.cell? ⟨w.heap.size + 1, 0, none⟩ = some (.pointer none)
  c1 : wr.cell? ⟨w.heap.size + 1, 1, none⟩ = some (.int .u8 0)
  f0 : wr.frozen? ⟨w.heap.size + 1, 0, none⟩ = false
  f1 : wr.frozen? ⟨w.heap.size + 1, 1, none⟩ = false
  size : w.heap.size + 3 ≤ wr.heap.size
  below : Below w.heap.size w wr
theorem CopAt.later {w : World} {K : Nat} {z : Int} {U : Nat → Sq} {i : Nat} {wr w' : World} (h : CopAt w K z U i wr) (b : Below wr.heap.size wr w') : CopAt w K z U i w' := by
  have hs := h.size
  have e : ∀ c o, c < w.heap.size + 3 → w'.cell? ⟨c, o, none⟩ = wr.cell? ⟨c, o, none⟩ := fun c o hc => (bcell b).1 _ _ (by omega)
  have ef : ∀ c o, c < w.heap.size + 3 → w'.frozen? ⟨c, o, none⟩ = wr.frozen? ⟨c, o, none⟩ := fun c o hc => (bcell b).2 _ _ (by omega)
  obtain ⟨U', G, k1, k2⟩ := h.kids
  exact ⟨⟨U', G, k1.below b, k2⟩, (e _ _ (by omega)).trans h.b0, (e _ _ (by omega)).trans h.b1, (ef _ _ (by omega)).trans h.g0, (e _ _ (by omega)).trans h.c0, (e _ _ (by omega)).trans h.c1, (ef _ _ (by omega)).trans h.f0, (ef _ _ (by omega)).trans h.f1,
    Nat.le_trans hs b.size, h.below.trans (b.mono (by omega))⟩
theorem CopAt.step {w : World} {K : Nat} {z : Int} {U : Nat → Sq} {i : Nat} {wr w1 : World} {q : Option Addr} {u : Int} (h : CopAt w K z U i wr) (hi : i < 4) (b : Below wr.heap.size wr w1)
    (hv : SqVal w1 (U i) q u fun c => wr.heap.size ≤ c ∧ c < w1.heap.size) :
    CopAt w K z U (i + 1) ((w1.setCell ⟨w.heap.size + 2, i * 2, none⟩ (.pointer q)).setCell ⟨w.heap.size + 2, i * 2 + 1, none⟩ (.int .u8 u)) := by
  have hs := h.size
  have h1 := h.later b
  have hbs := b.size
  obtain ⟨U', G, k1, k2⟩ := h.kids
  obtain ⟨n1, _⟩ := k1.step hi b hv
  obtain ⟨w2, hw2⟩ : ∃ w2, w2 = (w1.setCell ⟨w.heap.size + 2, i * 2, none⟩ (.pointer q)).setCell ⟨w.heap.size + 2, i * 2 + 1, none⟩ (.int .u8 u) := ⟨_, rfl⟩
  rw [← hw2] at n1 ⊢
  have bl : ∀ c, c ≠ w.heap.size + 2 → w2.heap[c]? = w1.heap[c]? := fun c hc => by
    rw [hw2]
    exact (Below.heap_setCell _ _ _ _ hc).trans (Below.heap_setCell _ _ _ _ hc)
  have hB : Below (w.heap.size + 2) w1 w2 := by
    rw [hw2]
    exact ((Below.refl _ _).setCell (p := ⟨w.heap.size + 2, i * 2, none⟩) (Nat.le_refl _) _).setCell (p := ⟨w.heap.size + 2, i * 2 + 1, none⟩) (Nat.le_refl _) _
  refine ⟨⟨_, _, n1, fun j hj => ?_⟩, (cell_of_block (bl _ (by omega)) _).trans h1.b0, (cell_of_block (bl _ (by omega)) _).trans h1.b1, (frozen_of_block (bl _ (by omega)) _).trans h1.g0, (cell_of_block (bl _ (by omega)) _).trans h1.c0, (cell_of_block (bl _ (by omega)) _).trans h1.c1,
    (frozen_of_block (bl _ (by omega)) _).trans h1.f0, (frozen_of_block (bl _ (by omega)) _).trans h1.f1, ?_, h1.below.trans (hB.mono (by omega))⟩
  · by_cases e : j = i
    · rw [if_pos e, e]
    · rw [if_neg e]
      exact k2 j (by omega)
  · have := hB.size
    omega

/-- all four quarters are copied -/
theorem copy_end {w : World} {K : Nat} {z : Int} {U : Nat → Sq} {t : Sq} {wr : World} (h : CopAt w K z U 4 wr) (hE : ∀ U' : Nat → Sq, (∀ j, j < 4 → U' j = U j) → Sq.node (U' 0) (U' 1) (U' 2) (U' 3) = t) :
    ∀ w2, w2 = (((wr.setCell ⟨w.heap.size, 0, none⟩ (.pointer (some ⟨w.heap.size + 2, 0, none⟩))).setCell ⟨w.heap.size + 1, 0, none⟩ (.pointer (some ⟨w.heap.size + 2, 0, none⟩))).setCell ⟨w.heap.size + 1, 1, none⟩ (.int .u8 z)) →
    Below w.heap.size w w2 ∧ SqVal w2 t (some ⟨w.heap.size + 2, 0, none⟩) z (fun c => w.heap.size ≤ c ∧ c < w2.heap.size) := by
  intro w2 hw2
  have hs := h.size
  have hB : Below w.heap.size wr w2 := hw2 ▸ (((Below.refl _ _).setCell (p := ⟨w.heap.size, 0, none⟩) (Nat.le_refl _) _).setCell (p := ⟨w.heap.size + 1, 0, none⟩) (Nat.le_succ _) _).setCell (p := ⟨w.heap.size + 1, 1, none⟩) (Nat.le_succ _) _
  have hsz : w2.heap.size = wr.heap.size := by rw [hw2]; simp
  have bl : ∀ c, c ≠ w.heap.size → c ≠ w.heap.size + 1 → w2.heap[c]? = wr.heap[c]? := fun c hc hc' => by
    rw [hw2]
    exact ((Below.heap_setCell _ _ _ _ hc').trans (Below.heap_setCell _ _ _ _ hc')).trans (Below.heap_setCell _ _ _ _ hc)
  obtain ⟨U', G, k1, k2⟩ := h.kids
  refine ⟨h.below.trans hB, ?_⟩
  rw [← hE U' k2]
  refine SqVal.node (G := G) ⟨by omega, by omega⟩ (by omega) (fun i j c hi hj => k1.apart i j c hi hj) (fun i c hi hc => ⟨⟨by have := (k1.own i c hi hc).1; omega, by have := (k1.own i c hi hc).2; omega⟩, by have := (k1.own i c hi hc).1; omega⟩) fun j hj => ?_
  refine (k1.kids j hj).frame (by omega) (fun i _ => ⟨cell_of_block (bl _ (by omega) (by omega)) i, frozen_of_block (bl _ (by omega) (by omega)) i⟩) fun c i hc => ?_
  have hlt := (k1.own j c hj hc).1
  exact ⟨cell_of_block (bl c (by omega) (by omega)) i, frozen_of_block (bl c (by omega) (by omega)) i⟩

set_option maxRecDepth 100000 in
set_option maxHeartbeats 2000000 in
theorem copied_any : ∀ (t : Sq) (q : Option Addr) (z : Int) (F : Nat → Prop) (w : World), SqVal w t q z F → (∀ c, F c → c < w.heap.size) →
    Calls Try.prog 39 #[.agg #[.pointer q, .int .u8 z]] w (CopyPost t w)
  | .leaf v, q, z, F, w, hv, hF => by
    have h := hv (w.alloc (.cells #[.pointer q, .int .u8 z] 72)) w.heap.size 0 (by simp) (fun c i hc => ⟨(bcell (balloc (Below.refl _ _) _)).1 _ _ (hF c hc), (bcell (balloc (Below.refl _ _) _)).2 _ _ (hF c hc)⟩) (by simp [go_sem]) (by simp [go_sem]) (by simp [go_sem]) (by simp [go_sem])
    obtain ⟨h1, h2, _, _, h5⟩ := h
    have hq : q = none := by simpa [go_sem] using h1
    have hz : z = v := by simpa [go_sem] using h2
    subst hq hz
    clear hv h1 h2
    go_enter Try.func39, Try.ntmps39
    go_wp2
    refine bodyPost_ret (v := .agg #[.pointer none, .int .u8 z]) (by simp [results, Try.f39, go_sem]) rfl ⟨?_, none, z, rfl, SqVal.leaf _ _ _ h5⟩
    repeat' (first | with_reducible assumption | with_reducible refine Below.setCell ?_ ?_ _ | with_reducible refine below_drewN ?_ _ | with_reducible refine Below.drew ?_ | with_reducible refine balloc ?_ _ | with_reducible exact Below.refl _ _ | with_reducible refine bstep ?_ (by assumption) | with_reducible refine Below.alloc ?_ ?_ _ | with_reducible refine bthrough ?_ (by assumption) ?_)
    all_goals (first | omega | (simp; done) | (simp; omega))
  | .node t0 t1 t2 t3, q, z, F, w, hv, hF => by
    have ih : ∀ j, j < 4 → ∀ (q : Option Addr) (z : Int) (F : Nat → Prop) (w : World), SqVal w (kidOf t0 t1 t2 t3 j) q z F → (∀ c, F c → c < w.heap.size) →
        Calls Try.prog 39 #[.agg #[.pointer q, .int .u8 z]] w (CopyPost (kidOf t0 t1 t2 t3 j) w) := fun j hj =>
      match j, hj with
      | 0, _ => copied_any t0
      | 1, _ => copied_any t1
      | 2, _ => copied_any t2
      | 3, _ => copied_any t3
    have h := hv (w.alloc (.cells #[.pointer q, .int .u8 z] 72)) w.heap.size 0 (by simp) (fun c i hc => ⟨(bcell (balloc (Below.refl _ _) _)).1 _ _ (hF c hc), (bcell (balloc (Below.refl _ _) _)).2 _ _ (hF c hc)⟩) (by simp [go_sem]) (by simp [go_sem]) (by simp [go_sem]) (by simp [go_sem])
    obtain ⟨kb, v, G0, ⟨h1, h2, _, _⟩, hFK, _, hd, hG, hk⟩ := h.kids
    have hq : q = some ⟨kb, 0, none⟩ := by simpa [go_sem] using h1
    have hKl : kb < w.heap.size := hF kb hFK
    have hGl : ∀ j c, j < 4 → G0 j c → c < w.heap.size := fun j c hj hc => hF c (hG j c hj hc).1
    subst hq
    have hkid : ∀ (i : Nat) (W : World), i < 4 → w.heap.size + 1 ≤ W.heap.size → Below w.heap.size w W → SqAt W (kidOf t0 t1 t2 t3 i) kb (i * 2) (G0 i) := fun i W hi hs b => by
      have ba : Below w.heap.size w (w.alloc (.cells #[.pointer (some ⟨kb, 0, none⟩), .int .u8 z] 72)) := balloc (Below.refl _ _) _
      refine (hk i hi).frame (by simpa using hs) (fun o _ => ⟨((bcell b).1 _ _ hKl).trans ((bcell ba).1 _ _ hKl).symm, ((bcell b).2 _ _ hKl).trans ((bcell ba).2 _ _ hKl).symm⟩) fun c o hc => ?_
      have hcl := hGl i c hi hc
      exact ⟨((bcell b).1 _ _ hcl).trans ((bcell ba).1 _ _ hcl).symm, ((bcell b).2 _ _ hcl).trans ((bcell ba).2 _ _ hcl).symm⟩
    have hend : ∀ U' : Nat → Sq, (∀ j, j < 4 → U' j = kidOf t0 t1 t2 t3 j) → Sq.node (U' 0) (U' 1) (U' 2) (U' 3) = .node t0 t1 t2 t3 := fun U' hU => by
      rw [hU 0 (by decide), hU 1 (by decide), hU 2 (by decide), hU 3 (by decide)]
      rfl
    generalize hU : kidOf t0 t1 t2 t3 = U at *
    have HK := hid hkid
    have HE := hid hend
    have HIH := hid ih
    clear hv h h1 h2 hk hd hG hkid hend ih hU hFK
    go_enter Try.func39, Try.ntmps39
    go_upto_region 3 with fail
    obtain ⟨W1, hW1⟩ : ∃ W1, W1 = ((w.alloc (.cells #[.pointer (some ⟨kb, 0, none⟩), .int .u8 z] 72)).alloc (.cells #[.pointer none, .int .u8 0] 72)).alloc (.cells #[.pointer none, .int .u8 0, .pointer none, .int .u8 0, .pointer none, .int .u8 0, .pointer none, .int .u8 0] 86) := ⟨_, rfl⟩
    rw [← hW1]
    have hsz : W1.heap.size = w.heap.size + 3 := by rw [hW1]; simp
    have hinv : CopAt w kb z U 0 W1 := by
      rw [hW1]
      refine ⟨⟨fun _ => .leaf 0, fun _ _ => False, ⟨fun j hj => absurd hj (Nat.not_lt_zero _), fun a j c ha => absurd ha (Nat.not_lt_zero _), fun j c hj => absurd hj (Nat.not_lt_zero _), fun o ho => ?_, by rw [← hW1, hsz]; omega⟩, fun j hj => absurd hj (Nat.not_lt_zero _)⟩, ?_, ?_, ?_, ?_, ?_, ?_, ?_, by rw [← hW1, hsz]; omega, balloc (balloc (balloc (Below.refl _ _) _) _) _⟩
      · obtain rfl | rfl | rfl | rfl | rfl | rfl | rfl | rfl : o = 0 ∨ o = 1 ∨ o = 2 ∨ o = 3 ∨ o = 4 ∨ o = 5 ∨ o = 6 ∨ o = 7 := by omega
        all_goals simp [go_sem]
      all_goals simp [go_sem]
    have d0 := hinv.b0
    clear hW1
    go_wp2_with fail
    go_loopw [13] (fun s13 wr => ∃ i : Nat, i ≤ 4 ∧ s13 = .int .i64 (i : Int) ∧ CopAt w kb z U i wr) (fun s13 _ => 4 - (intOf s13).toNat)
    case atStart => exact ⟨0, Nat.zero_le _, rfl, hinv⟩
    case round =>
      obtain ⟨i, hi, rfl, hin⟩ := hrel
      have hsr := hin.size
      by_cases hlt : i < 4
      · have si := HK.out i wr hlt (by omega) hin.below
        obtain ⟨pi, vi, ci0, ci1, _, _, _, _⟩ := si.cells
        have hsv := hid (si.val ci0 ci1)
        have hKlr : kb < wr.heap.size := by omega
        have l0 : ∀ w', Below wr.heap.size wr w' → w'.cell? ⟨kb, i * 2, none⟩ = some (.pointer pi) := fun w' k => (k.cell (p := ⟨kb, i * 2, none⟩) hKlr).trans ci0
        have l1 : ∀ w', Below wr.heap.size wr w' → w'.cell? ⟨kb, i * 2 + 1, none⟩ = some (.int .u8 vi) := fun w' k => (k.cell (p := ⟨kb, i * 2 + 1, none⟩) hKlr).trans ci1
        clear si ci0 ci1
        go_upto_region 5 with fail
        refine wp_region_noPanic ?_
        refine wp_region_held_drew (S := fun w' => Below wr.heap.size wr w') (by kernel_rfl) (Below.drew (Below.refl _ _)) (fun hHeld => ?_)
        refine wpAnyH_take (i := 0) (oi := { dst := some 15, op := Op.move (Operand.tmp 13), type := 3, pos := _, after := _, guard := none }) (v := ?_) rfl (by kernel_rfl) (by kernel_rfl) (by kernel_rfl) (fun _ _ _ h => h) (Or.inl ⟨by kernel_rfl, ?_⟩) (by assumption) ?_
        case refine_2 => (intro w hSw; go_simp <;> with_reducible rfl)
        simp only [Act.put, List.setIfInBounds_toArray, List.set_cons_zero, List.set_cons_succ]
        refine wpAnyH_take (i := 1) (oi := { dst := some 16, op := Op.nilCheck (Operand.tmp 11), type := 0, pos := _, after := _, guard := none }) (v := ?_) rfl (by kernel_rfl) (by kernel_rfl) (by kernel_rfl) (fun _ _ _ h => h) (Or.inl ⟨by kernel_rfl, ?_⟩) (by assumption) ?_
        case refine_2 => (intro w hSw; go_simp <;> with_reducible rfl)
        simp only [Act.put, List.setIfInBounds_toArray, List.set_cons_zero, List.set_cons_succ]
        refine wpAnyH_take (i := 2) (oi := { dst := some 17, op := Op.indexAddr 86 (Operand.tmp 16) (Operand.tmp 13), type := 0, pos := _, after := _, guard := none }) (v := ?_) rfl (by kernel_rfl) (by kernel_rfl) (by kernel_rfl) (fun _ _ _ h => h) (Or.inl ⟨by kernel_rfl, ?_⟩) (by assumption) ?_
        case refine_2 => (intro w hSw; go_simp <;> with_reducible rfl)
        simp only [Act.put, List.setIfInBounds_toArray, List.set_cons_zero, List.set_cons_succ]
        refine wpAnyH_take (i := 3) (oi := { dst := some 18, op := Op.load 72 (Operand.tmp 17), type := 72, pos := _, after := _, guard := none }) (v := ?_) rfl (by kernel_rfl) (by kernel_rfl) (by kernel_rfl) (fun _ _ _ h => h) (Or.inl ⟨by kernel_rfl, ?_⟩) (by assumption) ?_
        case refine_2 => (intro w hSw; go_simp <;> with_reducible rfl)
        simp only [Act.put, List.setIfInBounds_toArray, List.set_cons_zero, List.set_cons_succ]
        clear l0 l1
        refine wpAnyH_ready (rs := [4]) (by kernel_rfl) (by simp) ?_
        refine AllReadyH.cons (o := { dst := some 5, op := Op.alloc 72, type := 0, pos := _, after := _, guard := none }) rfl (fun K hK => ?_) AllReadyH.nil
        go_simp
        have hBa : Below wr.heap.size wr (wr.drew.alloc (.cells #[.pointer none, .int .u8 0] 72)) := balloc (Below.drew (Below.refl _ _)) _
        refine hK.out _ _ hBa (fun _ => ?_)
        clear hK K
        try simp only [Act.put, List.setIfInBounds_toArray, List.set_cons_zero, List.set_cons_succ]
        refine wpAnyH_take (i := 5) (oi := { dst := some 4, op := Op.assign (Operand.tmp 15), type := 3, pos := _, after := _, guard := none }) (v := ?_) rfl (by kernel_rfl) (by kernel_rfl) (by kernel_rfl) (fun _ _ _ h => h) (Or.inl ⟨by kernel_rfl, ?_⟩) (by assumption) ?_
        case refine_2 => (intro w hSw; go_simp <;> with_reducible rfl)
        simp only [Act.put, List.setIfInBounds_toArray, List.set_cons_zero, List.set_cons_succ]
        refine wpAnyH_ready (rs := [6]) (by kernel_rfl) (by simp) ?_
        refine AllReadyH.cons (o := { dst := none, op := Op.store 72 (Operand.tmp 5) (Operand.tmp 18), type := 0, pos := _, after := _, guard := none }) rfl (fun K hK => ?_) AllReadyH.nil
        go_simp
        refine hK.out _ _ (balloc (Below.refl _ _) _).drew (fun _ => ?_)
        clear hK K
        try simp only [Act.put, List.setIfInBounds_toArray, List.set_cons_zero, List.set_cons_succ]
        refine wpAnyH_done (by kernel_rfl) ?_ _
        refine NoPanic.normal ?_
        have hBa2 : Below wr.heap.size wr ((wr.alloc (.cells #[.pointer pi, .int .u8 vi] 72)).drew) := (balloc (Below.refl _ _) _).drew
        have e0 : ((wr.alloc (.cells #[.pointer pi, .int .u8 vi] 72)).drew).cell? ⟨wr.heap.size, 0, none⟩ = some (.pointer pi) := by simp [go_sem]
        have e1 : ((wr.alloc (.cells #[.pointer pi, .int .u8 vi] 72)).drew).cell? ⟨wr.heap.size, 1, none⟩ = some (.int .u8 vi) := by simp [go_sem]
        generalize (wr.alloc (.cells #[.pointer pi, .int .u8 vi] 72)).drew = w2 at hBa2 e0 e1 ⊢
        have hGw : ∀ c, G0 i c → c < wr.heap.size := fun c hc => by have := hGl i c hlt hc; omega
        have hs2 := hBa2.size
        have hcall := HIH.out i hlt pi vi (G0 i) w2 (hsv.out.below hBa2 hGw) (fun c hc => Nat.lt_of_lt_of_le (hGw c hc) hs2)
        clear hHeld hBa
        go_wp2_with fail
        refine hcall.mono ?_
        rintro e w3 ⟨hb3, q', z', rfl, hv'⟩
        have hb3' : Below wr.heap.size wr w3 := bthrough hBa2 hb3 hs2
        have hs3 := hb3'.size
        have hst := hid (hin.step hlt hb3' (hv'.mono fun c hc => ⟨by omega, hc.2⟩))
        have hl3 := hin.later hb3'
        obtain ⟨U', G', k1, _⟩ := hl3.kids
        obtain ⟨⟨u0, d0⟩, f0⟩ := k1.cells (i * 2) (by omega)
        obtain ⟨⟨u1, d1⟩, f1⟩ := k1.cells (i * 2 + 1) (by omega)
        have hKlt := k1.lt
        clear hin k1 hl3 hv' hsv e0 e1 hcall hb3
        go_wp2_with fail
        go_roundw
        case rel => exact ⟨i + 1, by omega, by go_num, hst.out⟩
        case measure => simp [intOf]; omega
      · obtain rfl : i = 4 := by omega
        have b0 := hin.b0
        have b1 := hin.b1
        have g0 := hin.g0
        have c0 := hin.c0
        have c1 := hin.c1
        have f0 := hin.f0
        have f1 := hin.f1
        have hend := hid (copy_end hin HE.out)
        have hbe := hid hin.below
        clear hin hinv HIH HK HE
        have e0 : (((wr.setCell ⟨w.heap.size, 0, none⟩ (.pointer (some ⟨w.heap.size + 2, 0, none⟩))).setCell ⟨w.heap.size + 1, 0, none⟩ (.pointer (some ⟨w.heap.size + 2, 0, none⟩))).setCell ⟨w.heap.size + 1, 1, none⟩ (.int .u8 z)).cell? ⟨w.heap.size + 1, 0, none⟩ = some (.pointer (some ⟨w.heap.size + 2, 0, none⟩)) := by
          rw [World.cell?_setCell_other _ _ _ _ (by simp)]
          exact World.cell?_setCell_same (u := .pointer none) _ _ _ (by rw [World.cell?_setCell_other _ _ _ _ (by simp)]; exact c0)
        have e1 : (((wr.setCell ⟨w.heap.size, 0, none⟩ (.pointer (some ⟨w.heap.size + 2, 0, none⟩))).setCell ⟨w.heap.size + 1, 0, none⟩ (.pointer (some ⟨w.heap.size + 2, 0, none⟩))).setCell ⟨w.heap.size + 1, 1, none⟩ (.int .u8 z)).cell? ⟨w.heap.size + 1, 1, none⟩ = some (.int .u8 z) :=
          World.cell?_setCell_same (u := .int .u8 0) _ _ _ (by rw [World.cell?_setCell_other _ _ _ _ (by simp), World.cell?_setCell_other _ _ _ _ (by simp)]; exact c1)
        go_wp2_with fail
        refine bodyPost_ret (v := .agg #[.pointer (some ⟨w.heap.size + 2, 0, none⟩), .int .u8 z]) (by simp [results, Try.f39, go_sem, e0, e1]) rfl ?_
        obtain ⟨h1, h2⟩ := hend.out _ rfl
        exact ⟨h1, _, z, rfl, h2⟩

theorem copy_any (N g : Nat) (side : Int) (t : Sq) (w : World) (hq : QuadAt w N g side t) :
    Calls Try.prog 26 #[.pointer (some ⟨g, 0, none⟩)] w fun e w' => ∃ g', e = .returned (.pointer (some ⟨g', 0, none⟩)) ∧ QuadAt w' w.heap.size g' side t ∧ Below w.heap.size w w' := by
  obtain ⟨F, h1, h2, h3⟩ := hq.root
  have hg := hq.lt
  have hside := hq.side
  obtain ⟨p, v, c0, c1, _, _, _, _⟩ := h1.cells
  have hsv := hid (h1.val c0 c1)
  have l0 : ∀ w', Below w.heap.size w w' → w'.cell? ⟨g, 0, none⟩ = some (.int .i64 side) := fun w' k => (k.cell (p := ⟨g, 0, none⟩) hg).trans hside
  have l1 : ∀ w', Below w.heap.size w w' → w'.cell? ⟨g, 1, none⟩ = some (.pointer p) := fun w' k => (k.cell (p := ⟨g, 1, none⟩) hg).trans c0
  have l2 : ∀ w', Below w.heap.size w w' → w'.cell? ⟨g, 2, none⟩ = some (.int .u8 v) := fun w' k => (k.cell (p := ⟨g, 2, none⟩) hg).trans c1
  clear h1 c0 c1 hside
  go_enter Try.func26, Try.ntmps26
  go_upto_region 1 with fail
  refine wp_region_noPanic ?_
  refine wp_region_held_drew (S := fun w' => Below w.heap.size w w') (by kernel_rfl) (Below.drew (Below.refl _ _)) (fun hHeld => ?_)
  refine wpAnyH_take (i := 0) (oi := { dst := some 3, op := Op.move (Operand.tmp 0), type := 29, pos := _, after := _, guard := none }) (v := ?_) rfl (by kernel_rfl) (by kernel_rfl) (by kernel_rfl) (fun _ _ _ h => h) (Or.inl ⟨by kernel_rfl, ?_⟩) (by assumption) ?_
  case refine_2 => (intro w hSw; go_simp <;> with_reducible rfl)
  simp only [Act.put, List.setIfInBounds_toArray, List.set_cons_zero, List.set_cons_succ]
  refine wpAnyH_take (i := 1) (oi := { dst := some 4, op := Op.nilCheck (Operand.tmp 3), type := 0, pos := _, after := _, guard := none }) (v := ?_) rfl (by kernel_rfl) (by kernel_rfl) (by kernel_rfl) (fun _ _ _ h => h) (Or.inl ⟨by kernel_rfl, ?_⟩) (by assumption) ?_
  case refine_2 => (intro w hSw; go_simp <;> with_reducible rfl)
  simp only [Act.put, List.setIfInBounds_toArray, List.set_cons_zero, List.set_cons_succ]
  refine wpAnyH_take (i := 2) (oi := { dst := some 5, op := Op.fieldAddr 74 (Operand.tmp 4) 0, type := 0, pos := _, after := _, guard := none }) (v := ?_) rfl (by kernel_rfl) (by kernel_rfl) (by kernel_rfl) (fun _ _ _ h => h) (Or.inl ⟨by kernel_rfl, ?_⟩) (by assumption) ?_
  case refine_2 => (intro w hSw; go_simp <;> with_reducible rfl)
  simp only [Act.put, List.setIfInBounds_toArray, List.set_cons_zero, List.set_cons_succ]
  refine wpAnyH_take (i := 3) (oi := { dst := some 6, op := Op.load 3 (Operand.tmp 5), type := 3, pos := _, after := _, guard := none }) (v := ?_) rfl (by kernel_rfl) (by kernel_rfl) (by kernel_rfl) (fun _ _ _ h => h) (Or.inl ⟨by kernel_rfl, ?_⟩) (by assumption) ?_
  case refine_2 => (intro w hSw; go_simp <;> with_reducible rfl)
  simp only [Act.put, List.setIfInBounds_toArray, List.set_cons_zero, List.set_cons_succ]
  refine wpAnyH_take (i := 4) (oi := { dst := some 7, op := Op.move (Operand.tmp 0), type := 29, pos := _, after := _, guard := none }) (v := ?_) rfl (by kernel_rfl) (by kernel_rfl) (by kernel_rfl) (fun _ _ _ h => h) (Or.inl ⟨by kernel_rfl, ?_⟩) (by assumption) ?_
  case refine_2 => (intro w hSw; go_simp <;> with_reducible rfl)
  simp only [Act.put, List.setIfInBounds_toArray, List.set_cons_zero, List.set_cons_succ]
  refine wpAnyH_take (i := 5) (oi := { dst := some 8, op := Op.nilCheck (Operand.tmp 7), type := 0, pos := _, after := _, guard := none }) (v := ?_) rfl (by kernel_rfl) (by kernel_rfl) (by kernel_rfl) (fun _ _ _ h => h) (Or.inl ⟨by kernel_rfl, ?_⟩) (by assumption) ?_
  case refine_2 => (intro w hSw; go_simp <;> with_reducible rfl)
  simp only [Act.put, List.setIfInBounds_toArray, List.set_cons_zero, List.set_cons_succ]
  refine wpAnyH_take (i := 6) (oi := { dst := some 9, op := Op.fieldAddr 74 (Operand.tmp 8) 1, type := 0, pos := _, after := _, guard := none }) (v := ?_) rfl (by kernel_rfl) (by kernel_rfl) (by kernel_rfl) (fun _ _ _ h => h) (Or.inl ⟨by kernel_rfl, ?_⟩) (by assumption) ?_
  case refine_2 => (intro w hSw; go_simp <;> with_reducible rfl)
  simp only [Act.put, List.setIfInBounds_toArray, List.set_cons_zero, List.set_cons_succ]
  refine wpAnyH_take (i := 7) (oi := { dst := some 10, op := Op.load 72 (Operand.tmp 9), type := 72, pos := _, after := _, guard := none }) (v := ?_) rfl (by kernel_rfl) (by kernel_rfl) (by kernel_rfl) (fun _ _ _ h => h) (Or.inl ⟨by kernel_rfl, ?_⟩) (by assumption) ?_
  case refine_2 => (intro w hSw; go_simp <;> with_reducible rfl)
  simp only [Act.put, List.setIfInBounds_toArray, List.set_cons_zero, List.set_cons_succ]
  clear l0 l1 l2
  refine wpAnyH_ready (rs := [8]) (by kernel_rfl) (by simp) ?_
  refine AllReadyH.cons (o := { dst := some 11, op := Op.call { callee := Callee.value (Operand.func 39), args := #[Operand.tmp 10], argTypes := #[72] }, type := 72, pos := _, after := _, guard := none }) rfl (fun K hK => ?_) AllReadyH.nil
  go_simp
  go_at_call 39
  refine (copied_any t p v F w.drew (hsv.out.below (Below.drew (Below.refl _ _)) fun c hc => (h3 c hc).2) fun c hc => (h3 c hc).2).mono ?_
  rintro e w1 ⟨hb1, q, z, rfl, hv⟩
  have hB1 : Below w.heap.size w w1 := bthrough (Below.drew (Below.refl _ _)) hb1 (Nat.le_refl _)
  have hs1 := hB1.size
  refine hK.out _ _ hB1 (fun _ => ?_)
  clear hK K hHeld hb1
  try simp only [Act.put, List.setIfInBounds_toArray, List.set_cons_zero, List.set_cons_succ]
  refine wpAnyH_take (i := 9) (oi := { dst := some 12, op := Op.build 74 #[(0, Operand.tmp 6), (1, Operand.tmp 11)], type := 74, pos := _, after := _, guard := none }) (v := ?_) rfl (by kernel_rfl) (by kernel_rfl) (by kernel_rfl) (fun _ _ _ h => h) (Or.inl ⟨by kernel_rfl, ?_⟩) (by assumption) ?_
  case refine_2 => (intro w hSw; go_simp <;> with_reducible rfl)
  simp only [Act.put, List.setIfInBounds_toArray, List.set_cons_zero, List.set_cons_succ]
  refine wpAnyH_ready (rs := [10]) (by kernel_rfl) (by simp) ?_
  refine AllReadyH.cons (o := { dst := some 13, op := Op.box 74 (Operand.tmp 12), type := 29, pos := _, after := _, guard := none }) rfl (fun K hK => ?_) AllReadyH.nil
  go_simp
  have hB2 : Below w.heap.size w (w1.alloc (.cells #[.int .i64 side, .pointer q, .int .u8 z] 74)) := balloc hB1 _
  refine hK.out _ _ hB2 (fun _ => ?_)
  clear hK K
  try simp only [Act.put, List.setIfInBounds_toArray, List.set_cons_zero, List.set_cons_succ]
  refine wpAnyH_take (i := 11) (oi := { dst := some 2, op := Op.assign (Operand.tmp 13), type := 29, pos := _, after := _, guard := none }) (v := ?_) rfl (by kernel_rfl) (by kernel_rfl) (by kernel_rfl) (fun _ _ _ h => h) (Or.inl ⟨by kernel_rfl, ?_⟩) (by assumption) ?_
  case refine_2 => (intro w hSw; go_simp <;> with_reducible rfl)
  simp only [Act.put, List.setIfInBounds_toArray, List.set_cons_zero, List.set_cons_succ]
  refine wpAnyH_done (by kernel_rfl) ?_ _
  refine NoPanic.normal ?_
  go_wp2
  go_ret
  refine ⟨w1.heap.size, rfl, ⟨by omega, by simp, by simp [go_sem], _, hv _ _ _ (by simp) (fun c i hc => ⟨(bcell (balloc (Below.refl _ _) _)).1 _ _ hc.2, (bcell (balloc (Below.refl _ _) _)).2 _ _ hc.2⟩) (by simp [go_sem]) (by simp [go_sem]) (by simp [go_sem]) (by simp [go_sem]), fun h => by have := h.2; omega, fun c hc => ⟨hc.1, by have := hc.2; simp; omega⟩⟩, hB2⟩
end Go.Proofs.Ytdpdkjpkehgdnaa
