/-
  Package quad: Count, At: for every quad.
-/
import Derived.Test.YtdpdkjpkehgdnaaQuK
import Derived.Test.YtdpdkjpkehgdnaaRangeH
namespace Go.Proofs.Ytdpdkjpkehgdnaa
open Go.RowKit Go.Shelf

attribute [local go_sem] Oper.semAt_some

theorem cell_of_heap {W : World} {m i : Nat} {cur : Array Value} {e : TypeId} {fr : Nat × Nat} (h : W.heap[m]? = some (.cells cur e fr)) : W.cell? ⟨m, i, none⟩ = cur[i]? := by
  simp [World.cell?, h]

theorem keepsOthers_below {W W' : World} (h : Below W.heap.size W W') : KeepsOthers W W' :=
  ⟨h.size, fun k _ hk _ => (h.block k (Array.getElem?_eq_some_iff.1 hk).1).trans hk⟩

/-- how many tiles of the leaves have a value -/
def cntL (v : Int) : List Lf → Int
  | [] => 0
  | p :: r => (if p.2.2.2 = v then areaV p.1 p.2.1 p.2.2.1 p.2.2.1 else 0) + cntL v r
theorem cntL_append (v : Int) (a b : List Lf) : cntL v (a ++ b) = cntL v a + cntL v b := by
  induction a with
  | nil => simp [cntL]
  | cons p r ih => simp only [List.cons_append, cntL, ih]; omega
theorem cntL_bd (v : Int) (l : List Lf) : 0 ≤ cntL v l ∧ cntL v l ≤ 65536 * l.length := by
  induction l with
  | nil => simp [cntL]
  | cons p r ih =>
    have := areaV_bd p.1 p.2.1 p.2.2.1 p.2.2.1
    simp only [cntL, List.length_cons]
    split <;> omega
theorem lvs_len : ∀ (t : Sq) (k : Nat) (x y rx ry rw rh : Int), (lvs k x y rx ry rw rh t).length ≤ t.nodes
  | .leaf v, k, x, y, rx, ry, rw, rh => by
    cases k <;> simp only [lvs, Sq.nodes] <;> split <;> simp
  | .node a b c d, 0, x, y, rx, ry, rw, rh => by simp [lvs]
  | .node a b c d, k + 1, x, y, rx, ry, rw, rh => by
    have h1 := lvs_len a k (quX x (sd k) 0) (quY y (sd k) 0) rx ry rw rh
    have h2 := lvs_len b k (quX x (sd k) 1) (quY y (sd k) 1) rx ry rw rh
    have h3 := lvs_len c k (quX x (sd k) 2) (quY y (sd k) 2) rx ry rw rh
    have h4 := lvs_len d k (quX x (sd k) 3) (quY y (sd k) 3) rx ry rw rh
    simp only [lvs, Sq.nodes]
    split
    · simp only [List.length_append]; omega
    · simp

theorem at_any (N g : Nat) (k : Nat) (t : Sq) (x y : Int) (w : World) (hq : QuadAt w N g (sd k) t) (hfit : t.fits k) (hk : k ≤ 8) :
    Calls Try.prog 18 #[.pointer (some ⟨g, 0, none⟩), .int .i64 x, .int .i64 y] w fun e w' => e = .returned (.tuple #[.int .i64 (onlyV (lvs k 0 0 x y 1 1 t)).1, .bool (onlyV (lvs k 0 0 x y 1 1 t)).2]) ∧ Below w.heap.size w w' := by
  go_enter Try.func18, Try.ntmps18
  go_wp2_with fail
  refine (only_any N g k t x y 1 1 w hq hfit hk).mono ?_
  rintro e w1 ⟨rfl, hbw1⟩
  obtain ⟨hcw1, hfw1⟩ := bcell hbw1
  have hsw1 := hbw1.size
  try simp at hcw1 hfw1 hsw1
  go_wp2
  refine bodyPost_ret (v := .tuple #[.int .i64 (onlyV (lvs k 0 0 x y 1 1 t)).1, .bool (onlyV (lvs k 0 0 x y 1 1 t)).2]) (by simp [results, Try.results18, go_sem]) rfl ⟨rfl, hbw1⟩

set_option maxRecDepth 100000 in
set_option maxHeartbeats 1000000 in
theorem count_any (N g : Nat) (k : Nat) (t : Sq) (v : Int) (w : World) (hq : QuadAt w N g (sd k) t) (hfit : t.fits k) (hk : k ≤ 8) (hn : t.nodes < 1000000000) :
    Calls Try.prog 14 #[.pointer (some ⟨g, 0, none⟩), .int .i64 v] w fun e w' => e = .returned (.int .i64 (cntL v (lvs k 0 0 0 0 (sd k) (sd k) t))) ∧ Below w.heap.size w w' := by
  have hlen := lvs_len t k 0 0 0 0 (sd k) (sd k)
  obtain ⟨all, hall⟩ : ∃ all, all = lvs k 0 0 0 0 (sd k) (sd k) t := ⟨_, rfl⟩
  rw [← hall] at hlen ⊢
  have hg := hq.lt
  have hside := hq.side
  have hg2 : g < w.heap.size + 1 := by omega
  refine (callsIn_wide (n := 9)).1 ?_
  refine callsIn_of_wp_marks Try.func14 rfl trivial ?_ rfl
  simp only [Try.ntmps14, List.size_toArray, List.length_cons, List.length_nil, Nat.reduceAdd, Nat.reduceSub, Array.replicate_succ, Array.replicate_zero, List.push_toArray, List.append_toArray, List.nil_append, List.cons_append]
  gi_wp2_with fail
  refine ⟨trivial, (callsIn_wide.2 (squares_iter g (sd k) _ (by simp; omega) (by simp [go_sem, hg, hg2, hside]))).mono ?_⟩
  rintro e w1 ⟨w2, hb2, rfl, rfl⟩
  have hs2 := hb2.size
  simp at hs2
  have hc2 := (bcell hb2).1
  have hf2 := (bcell hb2).2
  have c0 : w2.cell? ⟨w.heap.size, 0, none⟩ = some (.int .i64 v) := by rw [hc2 _ _ (by simp; try omega)]; simp [go_sem]
  have c1 : w2.cell? ⟨w.heap.size + 1, 0, none⟩ = some (.int .i64 0) := by rw [hc2 _ _ (by simp; try omega)]; simp [go_sem]
  have f1 : w2.frozen? ⟨w.heap.size + 1, 0, none⟩ = false := by rw [hf2 _ _ (by simp; try omega)]; simp [go_sem]
  have hB2 : Below w.heap.size w w2 := bstep (balloc (balloc (Below.refl _ _) _) _) hb2
  gi_wp2_with fail
  obtain ⟨W0, hW0⟩ : ∃ W0, W0 = ((w2.alloc (.cells #[.pointer (some ⟨g, 0, none⟩)] 29)).alloc (.cells #[.int .i64 0, .int .i64 0, .int .i64 (sd k), .int .i64 (sd k)] 24)) := ⟨_, rfl⟩
  rw [← hW0]
  have hB0 : Below w.heap.size w W0 := hW0 ▸ hB2.trans ((balloc (balloc (Below.refl _ _) _) _).mono (by omega))
  have hsz : W0.heap.size = w2.heap.size + 2 := by rw [hW0]; simp
  have hH := meets_hands 8 N g w2.heap.size (w2.heap.size + 1) k t 0 0 (sd k) (sd k) (w2.heap.size + 2) w W0 hB0 hq hfit hk (by omega) (by omega) (by omega) (by rw [hW0]; simp [go_sem]) (by rw [hW0]; simp [go_sem]) (by rw [hW0]; simp [go_sem]) (by rw [hW0]; simp [go_sem]) (by rw [hW0]; simp [go_sem])
  rw [← hall] at hH
  have i0 : W0.cell? ⟨w.heap.size, 0, none⟩ = some (.int .i64 v) ∧ W0.cell? ⟨w.heap.size + 1, 0, none⟩ = some (.int .i64 0) ∧ W0.frozen? ⟨w.heap.size + 1, 0, none⟩ = false := by
    rw [hW0]
    have l0 : w.heap.size < w2.heap.size := by omega
    have l1 : w.heap.size + 1 < w2.heap.size := by omega
    simp [go_sem, c0, c1, f1, l0, l1]
  clear hW0 hall
  refine' wpIn_rangeFunc_made rfl (by omega) (gf := 43) (lb := #[.pointer (some ⟨w2.heap.size, 0, none⟩), .pointer (some ⟨w2.heap.size + 1, 0, none⟩)]) rfl trivial (enters_of Try.func43 (by kernel_rfl) rfl)
    hH (fun h k => h.trans k) (fun W l o o' hl h1 h2 h3 => keepL_b (by omega) W l o o' hl h1 h2 h3) (Below.refl _ _) (fun _ => rfl)
    (fun pre W => (W.cell? ⟨w.heap.size, 0, none⟩ = some (.int .i64 v) ∧ W.cell? ⟨w.heap.size + 1, 0, none⟩ = some (.int .i64 (cntL v pre)) ∧ W.frozen? ⟨w.heap.size + 1, 0, none⟩ = false) ∧ Below w.heap.size w W)
    (fun _ _ _ => False)
    (OwnFrom.and (Own.from (fun s A B row hs hg hr => ⟨cell_kept hs.1 hg hr, cell_kept hs.2.1 hg hr, (frozen_kept hs.2.1 hg hr).trans hs.2.2⟩) _) (ownFrom_below (Nat.le_refl _) (by omega)))
    (fun _ _ _ _ _ hs _ _ => hs)
    (nextG_own _)
    ⟨i0, hB0⟩
    _ (fun p => .cells #[.int .i64 p.1, .int .i64 p.2.1, .int .i64 p.2.2.1, .int .i64 p.2.2.1] 24) (fun W o hl => KpL.of_below (balloc (Below.refl _ _) _) (by omega)) ?assign ?body ?done ?stop
  case assign =>
    intro l p W m K hm hK
    gi_wp2
    rw [← hm]
    exact hK
  case body =>
    rintro l pre p W m ⟨⟨c0, c1, f1⟩, hB⟩ hlt hn2 hm1 hm2 hmx
    cases hv : p.2.2.2 == v with
    | false =>
      gi_wp2
      refine ⟨KeepsFrom.refl _ _, KpL.of_below (Below.refl _ _) hB.size, ⟨c0, ?_, f1⟩, hB⟩
      rw [cntL_append, c1]
      have : p.2.2.2 ≠ v := by simpa using hv
      simp [cntL, this]
    | true =>
      have x0 : W.cell? ⟨m, 0, none⟩ = some (.int .i64 p.1) := cell_of_heap hmx
      have x1 : W.cell? ⟨m, 1, none⟩ = some (.int .i64 p.2.1) := cell_of_heap hmx
      have x2 : W.cell? ⟨m, 2, none⟩ = some (.int .i64 p.2.2.1) := cell_of_heap hmx
      have x3 : W.cell? ⟨m, 3, none⟩ = some (.int .i64 p.2.2.1) := cell_of_heap hmx
      have hsW := hB.size
      have hl1 : w.heap.size + 1 < W.heap.size := by omega
      have hbnd := cntL_bd v (pre ++ [p])
      have hlt2 : (pre ++ [p]).length ≤ 1000000000 := by simp; omega
      have hpv : p.2.2.2 = v := by simpa using hv
      have hcn : cntL v (pre ++ [p]) = cntL v pre + areaV p.1 p.2.1 p.2.2.1 p.2.2.1 := by rw [cntL_append]; simp [cntL, hpv]
      have hwr : IntKind.i64.wrap (cntL v pre + areaV p.1 p.2.1 p.2.2.1 p.2.2.1) = cntL v (pre ++ [p]) := by rw [IntWalk.i64_in _ (by omega)]; exact hcn.symm
      have hbd : Below W.heap.size W W.drew := (Below.refl _ _).drew
      gi_wp2_with fail
      gi_region_with (refine ⟨trivial, (CallsIn.inRound l (callsIn_wide.2 (area_any _ _ _ _ _))).mono ?_⟩; rintro e wq ⟨rfl, hbq⟩; have hBq : Below W.heap.size W wq := hbd.trans hbq; have c1q := (hBq.cell (p := ⟨w.heap.size + 1, 0, none⟩) hl1).trans c1; have f1q := (hBq.frozen (p := ⟨w.heap.size + 1, 0, none⟩) hl1).trans f1)
      all_goals gi_wp2
      all_goals refine ⟨((keepsOthers_below hBq).trans (KeepsOthers.setCell _ _ _)).from _, (KpL.of_below hBq hsW).trans (keepL_set _ _ _ _ (by omega) (by omega)), ⟨?_, by rw [hcn]; exact World.cell?_setCell_same _ _ _ c1q, ?_⟩, (hB.trans (hBq.mono hsW)).setCell (p := ⟨w.heap.size + 1, 0, none⟩) (by dsimp only; omega) _⟩
      all_goals first
        | (rw [World.cell?_setCell_other _ _ _ _ (by simp)]; exact (hBq.cell (p := ⟨w.heap.size, 0, none⟩) (by dsimp only; omega)).trans c0)
        | (rw [World.frozen?_setCell]; exact f1q)
  case done =>
    rintro D ys W hD rfl ⟨⟨c0, c1, f1⟩, hB⟩ hK
    rw [hsz] at hD
    gi_wp2
    refine ⟨by simp, .inl ⟨_, _, rfl, run_takeDeferred hK, ?_⟩⟩
    exact ⟨_, results_tmp rfl _ _ _, rfl, hB.trans (below_putObj (by omega) _)⟩
  case stop =>
    rintro D c pre W _ _ h _
    exact h.elim
end Go.Proofs.Ytdpdkjpkehgdnaa
