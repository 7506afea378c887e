/-
  Package quad: the leaves of a square that is parted are handed over, quarter by quarter; of any square.
-/
import Derived.Test.YtdpdkjpkehgdnaaQuH
namespace Go.Proofs.Ytdpdkjpkehgdnaa
open Go.RowKit Go.Shelf

attribute [local go_sem] Oper.semAt_some

section
variable {V : World} {hi l : Nat} {all : List Lf} {J Jx : List Lf → World → Prop}

theorem alloc2_heap {w : World} {a b : Obj} : ((w.alloc a).alloc b).heap[w.heap.size + 1]? = some b := by
  have h : (w.alloc a).heap.size = w.heap.size + 1 := by simp
  rw [← h]
  exact World.alloc_heap_new _ _

set_option maxRecDepth 100000 in
set_option maxHeartbeats 4000000 in
theorem leaves_node {B : Nat} (hJ : AbidesFrom B J) (k : Nat) (rx ry rw rh : Int) (ih : LeavesOk V hi l all J Jx k rx ry rw rh)
    (t0 t1 t2 t3 : Sq) (x y : Int) (b o : Nat) (F : Nat → Prop) (pre : List Lf) (W : World) (h : SqAt V (.node t0 t1 t2 t3) b o F) (hb : b < V.heap.size) (hF : ∀ c, F c → c < V.heap.size) (hW : Below V.heap.size V W) (hhi : hi ≤ W.heap.size)
    (hfit : ∀ j, j < 4 → (kidOf t0 t1 t2 t3 j).fits k) (hr : rightB x y (sd (k + 1)) (sd (k + 1)) = true) (h0 : J pre W)
    (hm : meetB x y (sd (k + 1)) (sd (k + 1)) rx ry rw rh = true) (hp : pre ++ lvs (k + 1) x y rx ry rw rh (.node t0 t1 t2 t3) <+: all) :
    Calls Try.prog 44 #[.pointer (some ⟨b, o, none⟩), .agg #[.int .i64 x, .int .i64 y, .int .i64 (sd (k + 1)), .int .i64 (sd (k + 1))], .agg #[.int .i64 rx, .int .i64 ry, .int .i64 rw, .int .i64 rh], .func (.yield l) #[] #[]] W fun e W' =>
      ∃ r : Bool, e = .returned (.bool r) ∧ (r = true → KpL V hi W W' ∧ J (pre ++ lvs (k + 1) x y rx ry rw rh (.node t0 t1 t2 t3)) W') ∧ (r = false → ∃ p, p <+: all ∧ Jx p W') := by
  rw [lvs_node _ _ _ _ _ _ _ _ _ _ _ hm] at hp ⊢
  obtain ⟨K, v0, G, ⟨h1, h2, h3, h4⟩, hFK, hK, hd, hG, hk⟩ := h.kids
  generalize hQ : kidOf t0 t1 t2 t3 = Q at *
  clear h hd h2 h3 h4
  obtain ⟨f, hf⟩ : ∃ f, f = fun i => lvs k (quX x (sd k) i) (quY y (sd k) i) rx ry rw rh (Q i) := ⟨_, rfl⟩
  rw [← hf] at hp ⊢
  have hsd : sd (k + 1) / 2 = sd k := by rw [sd_succ]; omega
  have hev : sd (k + 1) % 2 = 0 := by rw [sd_succ]; omega
  have hss := hid (sd_succ k)
  have hrr := hr
  generalize hs2 : sd (k + 1) = s at *
  obtain ⟨⟨a1, a2, a3, a4⟩, a5, a6, a7, a8⟩ := of_rightB hrr
  clear hrr
  have hpos := sd_pos k
  have hcall : ∀ (i : Nat) (W1 : World), i < 4 → Below V.heap.size V W1 → hi ≤ W1.heap.size → J (pre ++ lvsTo f i) W1 →
      Calls Try.prog 44 #[.pointer (some ⟨K, i * 2, none⟩), .agg #[.int .i64 (quX x (sd k) i), .int .i64 (quY y (sd k) i), .int .i64 (sd k), .int .i64 (sd k)], .agg #[.int .i64 rx, .int .i64 ry, .int .i64 rw, .int .i64 rh], .func (.yield l) #[] #[]] W1 fun e W' =>
        ∃ r : Bool, e = .returned (.bool r) ∧ (r = true → KpL V hi W1 W' ∧ J (pre ++ lvsTo f (i + 1)) W') ∧ (r = false → ∃ p, p <+: all ∧ Jx p W') := by
    intro i W1 h4i hW1 hh1 hJ1
    have hx : 0 ≤ quX x (sd k) i ∧ quX x (sd k) i + sd k ≤ 256 := by unfold quX; have := hss.out; split <;> omega
    have hy : 0 ≤ quY y (sd k) i ∧ quY y (sd k) i + sd k ≤ 256 := by unfold quY; have := hss.out; split <;> omega
    have hfi : lvs k (quX x (sd k) i) (quY y (sd k) i) rx ry rw rh (Q i) = f i := by rw [hf]
    have := ih (Q i) (quX x (sd k) i) (quY y (sd k) i) K (i * 2) (G i) (pre ++ lvsTo f i) W1 (hk i h4i) hK (fun c hc => hF c (hG i c h4i hc).1) hW1 hh1 (hfit i h4i) (by simp [rightB, sideB]; omega) hJ1 (by
      rw [hfi, List.append_assoc]
      exact (List.prefix_append_right_inj _ |>.2 (lvsTo_prefix (f := f) (i := i + 1) (j := 4) (by omega))).trans hp)
    rw [hfi, List.append_assoc] at this
    exact this
  have hsz := hW.size
  have g1 : W.cell? ⟨b, o, none⟩ = some (.pointer (some ⟨K, 0, none⟩)) := (hW.cell (p := ⟨b, o, none⟩) hb).trans h1
  clear ih hf hk hG hfit hF hFK hQ
  refine (callsIn_wide (n := 9)).1 ?_
  refine callsIn_of_wp Try.func44 rfl trivial ?_ rfl
  simp only [Try.ntmps44, List.size_toArray, List.length_cons, List.length_nil, Nat.reduceAdd, Nat.reduceSub, Array.replicate_succ, Array.replicate_zero, List.push_toArray, List.append_toArray, List.nil_append, List.cons_append]
  gi_wp2_with fail
  refine ⟨trivial, (callsIn_wide.2 (meets_any _ _ _ _ _ _ _ _ _)).mono ?_⟩
  rintro e w1 ⟨rfl, hb1⟩
  rw [hm]
  have hbW : Below W.heap.size W w1 := bstep (balloc (balloc (Below.refl _ _) _) _) hb1
  have hbox : ∃ cur e fr, w1.heap[W.heap.size + 1]? = some (Obj.cells cur e fr) := ⟨_, _, _, (hb1.block _ (by simp)).trans alloc2_heap⟩
  obtain ⟨hcw1, hfw1⟩ := bcell hb1
  have hsw1 := hb1.size
  simp at hcw1 hfw1 hsw1
  have l0 : W.heap.size < w1.heap.size := by omega
  have l1 : b < W.heap.size := by omega
  have k1 : w1.cell? ⟨b, o, none⟩ = some (.pointer (some ⟨K, 0, none⟩)) := by rw [hcw1 _ _ (by omega)]; simpa [go_sem, l1] using g1
  have r0 : w1.cell? ⟨W.heap.size + 1, 0, none⟩ = some (.int .i64 rx) := by rw [hcw1 _ _ (by omega)]; simp [go_sem]
  have r1 : w1.cell? ⟨W.heap.size + 1, 1, none⟩ = some (.int .i64 ry) := by rw [hcw1 _ _ (by omega)]; simp [go_sem]
  have r2 : w1.cell? ⟨W.heap.size + 1, 2, none⟩ = some (.int .i64 rw) := by rw [hcw1 _ _ (by omega)]; simp [go_sem]
  have r3 : w1.cell? ⟨W.heap.size + 1, 3, none⟩ = some (.int .i64 rh) := by rw [hcw1 _ _ (by omega)]; simp [go_sem]
  gi_wp2_with fail
  refine ⟨trivial, (callsIn_wide.2 (quarters_yes x y s s _ hr hev hev)).mono ?_⟩
  rintro e w3 ⟨rfl, hbw3⟩
  rw [hsd]
  have hb3 : Below W.heap.size W w3 := hbW.trans (hbw3.mono (by omega))
  have hJ3 : J (pre ++ lvsTo f 0) w3 := by
    rw [lvsTo, List.append_nil]
    exact abides_step hJ h0 hb3
  have hbx3 := hbw3.block (W.heap.size + 1) (by omega)
  have hs3 := hb3.size
  have hsx := hbw3.size
  obtain ⟨hcw3, hfw3⟩ := bcell hbw3
  have q0 := (hcw3 (W.heap.size + 1) 0 (by omega)).trans r0
  have q1 := (hcw3 (W.heap.size + 1) 1 (by omega)).trans r1
  have q2 := (hcw3 (W.heap.size + 1) 2 (by omega)).trans r2
  have q3 := (hcw3 (W.heap.size + 1) 3 (by omega)).trans r3
  have hK3 : KpL V hi W w3 := KpL.of_below hb3 hsz
  obtain ⟨cur, ec, fr, hbox⟩ := hbox
  have hbox3 := hbx3.trans hbox
  clear hcw1 hfw1 hcw3 hfw3 r0 r1 r2 r3 k1 hbx3 hbox hev hr hsd hm h0 hbw3 hb1 hbW a1 a2 a3 a4 a5 a6 a7 a8 hss
  gi_wp2_with fail
  gi_loopw [32] (fun s32 wr => ∃ i : Nat, i ≤ 4 ∧ s32 = .int .i64 (i : Int) ∧ J (pre ++ lvsTo f i) wr ∧ KpL V hi w3 wr) (fun s32 _ => 4 - (intOf s32).toNat)
  case atStart => exact ⟨0, Nat.zero_le _, rfl, hJ3, KpL.of_below (Below.refl _ _) (by omega)⟩
  case round =>
    obtain ⟨i, hi4, rfl, hJi, hKi⟩ := hrel
    have hsr := hKi.below.size
    by_cases hlt : i < 4
    · have hbk : wr.heap[W.heap.size + 1]? = w3.heap[W.heap.size + 1]? := (hKi.cells _ _ _ _ hbox3 (by omega)).trans hbox3.symm
      have c0 := (cell_of_block hbk 0).trans q0
      have c1 := (cell_of_block hbk 1).trans q1
      have c2 := (cell_of_block hbk 2).trans q2
      have c3 := (cell_of_block hbk 3).trans q3
      have p0 : wr.cell? ⟨b, o, none⟩ = some (.pointer (some ⟨K, 0, none⟩)) := ((hW.trans (hK3.below.trans hKi.below)).cell (p := ⟨b, o, none⟩) hb).trans h1
      have lb : b < wr.heap.size := by omega
      have lr : W.heap.size + 1 < wr.heap.size := by omega
      gi_wp2_with fail
      rw [index16 _ _ _ hlt]
      gi_wp2_with fail
      have hw0 : Below wr.heap.size wr (wr.alloc (.cells #[.int .i64 (quX x (sd k) i), .int .i64 (quY y (sd k) i), .int .i64 (sd k), .int .i64 (sd k)] 24)) := balloc (Below.refl _ _) _
      have d0 : ∀ j, (wr.alloc (.cells #[.int .i64 (quX x (sd k) i), .int .i64 (quY y (sd k) i), .int .i64 (sd k), .int .i64 (sd k)] 24)).cell? ⟨wr.heap.size, j, none⟩ = (#[Value.int .i64 (quX x (sd k) i), .int .i64 (quY y (sd k) i), .int .i64 (sd k), .int .i64 (sd k)] : Array Value)[j]? := fun j => World.cell?_alloc_new _ _ _ _
      generalize wr.alloc (.cells #[.int .i64 (quX x (sd k) i), .int .i64 (quY y (sd k) i), .int .i64 (sd k), .int .i64 (sd k)] 24) = w0 at hw0 d0 ⊢
      obtain ⟨hcw0, _⟩ := bcell hw0
      have e0 := (hcw0 _ _ lr).trans c0
      have e1 := (hcw0 _ _ lr).trans c1
      have e2 := (hcw0 _ _ lr).trans c2
      have e3 := (hcw0 _ _ lr).trans c3
      have ep := (hcw0 _ _ lb).trans p0
      have x0 := d0 0
      have x1 := d0 1
      have x2 := d0 2
      have x3 := d0 3
      simp at x0 x1 x2 x3
      have hsw0 := hw0.size
      have hV0 : Below V.heap.size V w0.drew := (hW.trans (hK3.below.trans hKi.below)).trans ((hw0.drew).mono (by omega))
      have hJ0 : J (pre ++ lvsTo f i) w0.drew := abides_step hJ hJi hw0.drew
      have hK0 : KpL V hi w3 w0.drew := hKi.trans (KpL.of_below hw0.drew (by omega))
      have hc := hcall i w0.drew hlt hV0 (by simp; omega) hJ0
      clear hcall hJi hw0 hcw0 c0 c1 c2 c3 p0 d0 hbk q0 q1 q2 q3 g1 h1 hJ3 hbox3
      gi_region_with (refine ⟨trivial, (callsIn_wide.2 hc).mono ?_⟩; rintro e w4 ⟨r, rfl, hp4⟩)
      all_goals simp [Act.put]
      all_goals cases r
      all_goals gi_wp2
      all_goals first
        | exact bodyPost_ret (results_tmp rfl _ _ _) rfl (.inl ⟨rfl, hp4.2 (by simp)⟩)
        | exact ⟨⟨i + 1, by omega, by go_num, (hp4.1 (by simp)).2, hK0.trans (hp4.1 (by simp)).1⟩, by simp [intOf]; omega⟩
    · obtain rfl : i = 4 := by omega
      gi_wp2
      go_ret
      exact ⟨true, rfl, fun _ => ⟨hK3.trans hKi, hJi⟩, fun h => by cases h⟩

theorem leaves_all {B : Nat} (hJ : AbidesFrom B J)
    (hY : ∀ pre p W1, J pre W1 → pre ++ [p] <+: all → ∀ m, YieldAt Fence.wide m Try.prog l (encL p) W1 fun e W' => ∃ r : Bool, e = .returned (.bool r) ∧ (r = true → KpL V hi W1 W' ∧ J (pre ++ [p]) W') ∧ (r = false → Jx (pre ++ [p]) W')) :
    ∀ (k : Nat) (rx ry rw rh : Int), LeavesOk V hi l all J Jx k rx ry rw rh
  | k, rx, ry, rw, rh => by
    intro t x y b o F pre W h hb hF hW hhi hfit hr h0 hp
    cases hm : meetB x y (sd k) (sd k) rx ry rw rh with
    | false => exact leaves_no hJ k rx ry rw rh t x y b o pre W hW h0 hm
    | true =>
      cases t with
      | leaf v => exact leaves_leaf hJ hY k rx ry rw rh v x y b o F pre W h hb hW h0 hm hp
      | node t0 t1 t2 t3 =>
        obtain ⟨k', rfl, f0, f1, f2, f3⟩ := hfit
        refine leaves_node hJ k' rx ry rw rh (leaves_all hJ hY k' rx ry rw rh) t0 t1 t2 t3 x y b o F pre W h hb hF hW hhi (fun j hj => ?_) hr h0 hm hp
        match j, hj with
        | 0, _ => exact f0
        | 1, _ => exact f1
        | 2, _ => exact f2
        | 3, _ => exact f3
  termination_by k => k
  decreasing_by omega
end
end Go.Proofs.Ytdpdkjpkehgdnaa
