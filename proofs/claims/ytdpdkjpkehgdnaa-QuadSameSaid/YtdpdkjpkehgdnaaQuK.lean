/-
  Package quad: Any, Only, At, Count, Nodes: for every quad.
-/
import Derived.Test.YtdpdkjpkehgdnaaQuJ
namespace Go.Proofs.Ytdpdkjpkehgdnaa
open Go.RowKit Go.Shelf

attribute [local go_sem] Oper.semAt_some

theorem below_putObj {B : Nat} {W : World} {l : Nat} (h : B ≤ l) (o : Obj) : Below B W (W.putObj l o) :=
  ⟨rfl, rfl, rfl, by simp [World.putObj], fun k hk => World.putObj_heap_other (by omega)⟩
theorem keepL_b {V : World} {hi n : Nat} (hV : V.heap.size ≤ n) (W : World) (l : Nat) (o o' : Obj) (hl : n ≤ l) (ho : W.heap[l]? = some o) (hc : o.isCells = false) (_ : o.isWalk = false) : KpL V hi W (W.putObj l o') :=
  ⟨below_putObj (by omega) o', fun c cur e fr h _ => (World.putObj_heap_other (by
    intro e
    subst e
    rw [ho] at h
    injection h with h
    subst h
    cases hc)).trans h⟩
theorem keepL_set {V : World} {hi : Nat} (W : World) (b o : Nat) (v : Value) (hV : V.heap.size ≤ b) (hb : b < hi) : KpL V hi W (W.setCell ⟨b, o, none⟩ v) :=
  ⟨(Below.refl _ _).setCell (p := ⟨b, o, none⟩) hV _, fun c cur e fr h hc => (Below.heap_setCell W ⟨b, o, none⟩ v c (by dsimp only; omega)).trans h⟩
theorem nextG_own {B : Nat} (all : List Lf) (pre : List Lf) : OwnFrom B (nextG all pre) := fun _ _ _ _ h _ _ => h

theorem nodes_get (N g : Nat) (side : Int) (t : Sq) (w : World) (hq : QuadAt w N g side t) (hn : t.nodes < 1000000000) :
    Calls Try.prog 17 #[.pointer (some ⟨g, 0, none⟩)] w fun e w' => e = .returned (.int .i64 (t.nodes : Int)) ∧ Below w.heap.size w w' := by
  obtain ⟨F, h1, h2, h3⟩ := hq.root
  go_enter Try.func17, Try.ntmps17
  go_wp2_with fail
  refine (nodes_any t g 1 F w h1 hq.lt (fun c hc => (h3 c hc).2) hn).mono ?_
  rintro e w1 ⟨rfl, hbw1⟩
  obtain ⟨hcw1, hfw1⟩ := bcell hbw1
  have hsw1 := hbw1.size
  try simp at hcw1 hfw1 hsw1
  go_wp2
  go_ret
  exact ⟨rfl, hbw1⟩

set_option maxRecDepth 100000 in
set_option maxHeartbeats 1000000 in
theorem any_any (N g : Nat) (k : Nat) (t : Sq) (rx ry rw rh v : Int) (w : World) (hq : QuadAt w N g (sd k) t) (hfit : t.fits k) (hk : k ≤ 8) :
    Calls Try.prog 13 #[.pointer (some ⟨g, 0, none⟩), .agg #[.int .i64 rx, .int .i64 ry, .int .i64 rw, .int .i64 rh], .int .i64 v] w fun e w' => e = .returned (.bool ((lvs k 0 0 rx ry rw rh t).any fun p => p.2.2.2 == v)) ∧ Below w.heap.size w w' := by
  obtain ⟨all, hall⟩ : ∃ all, all = lvs k 0 0 rx ry rw rh t := ⟨_, rfl⟩
  rw [← hall]
  refine (callsIn_wide (n := 9)).1 ?_
  refine callsIn_of_wp_marks Try.func13 rfl trivial ?_ rfl
  simp only [Try.ntmps13, List.size_toArray, List.length_cons, List.length_nil, Nat.reduceAdd, Nat.reduceSub, Array.replicate_succ, Array.replicate_zero, List.push_toArray, List.append_toArray, List.nil_append, List.cons_append]
  gi_wp2_with fail
  refine ⟨trivial, (callsIn_wide.2 (meets_iter g rx ry rw rh _)).mono ?_⟩
  rintro e w1 ⟨rfl, rfl⟩
  gi_wp2_with fail
  have hB0 : Below w.heap.size w (((((w.alloc (.cells #[.int .i64 rx, .int .i64 ry, .int .i64 rw, .int .i64 rh] 24)).alloc (.cells #[.int .i64 v] 3)).alloc (.cells #[.bool false] 4)).alloc (.cells #[.pointer (some ⟨g, 0, none⟩)] 29)).alloc (.cells #[.int .i64 rx, .int .i64 ry, .int .i64 rw, .int .i64 rh] 24)) := balloc (balloc (balloc (balloc (balloc (Below.refl _ _) _) _) _) _) _
  have hH := meets_hands 8 N g (w.heap.size + 1 + 1 + 1) (w.heap.size + 1 + 1 + 1 + 1) k t rx ry rw rh (w.heap.size + 1 + 1 + 1 + 1 + 1) w _ hB0 hq hfit hk (by simp) (by simp) (by simp) (by simp [go_sem]) (by simp [go_sem]) (by simp [go_sem]) (by simp [go_sem]) (by simp [go_sem])
  rw [← hall] at hH
  refine' wpIn_rangeFunc_given rfl (by omega) (gf := 43) (lb := #[.pointer (some ⟨w.heap.size + 1 + 1 + 1, 0, none⟩), .pointer (some ⟨w.heap.size + 1 + 1 + 1 + 1, 0, none⟩)]) rfl trivial (enters_of Try.func43 (by kernel_rfl) rfl)
    hH (fun h k => h.trans k) (fun W l o o' hl h1 h2 h3 => keepL_b (by simp; omega) W l o o' hl h1 h2 h3) (Below.refl _ _) (fun _ => rfl)
    (fun pre W => ((∀ p ∈ pre, (p.2.2.2 == v) = false) ∧ W.cell? ⟨w.heap.size + 1, 0, none⟩ = some (.int .i64 v) ∧ W.cell? ⟨w.heap.size + 1 + 1, 0, none⟩ = some (.bool false) ∧ W.frozen? ⟨w.heap.size + 1 + 1, 0, none⟩ = false) ∧ Below w.heap.size w W)
    (fun c pre W => (c = .ret ∧ (∃ p ∈ pre, (p.2.2.2 == v) = true) ∧ W.cell? ⟨w.heap.size + 1 + 1, 0, none⟩ = some (.bool true)) ∧ Below w.heap.size w W)
    (OwnFrom.and (Own.from (fun s A B row hs hg hr => ⟨hs.1, cell_kept hs.2.1 hg hr, cell_kept hs.2.2.1 hg hr, (frozen_kept hs.2.2.1 hg hr).trans hs.2.2.2⟩) _) (ownFrom_below (Nat.le_refl _) (by simp; omega)))
    (fun c => OwnFrom.and (Own.from (fun s A B row hs hg hr => ⟨hs.1, hs.2.1, cell_kept hs.2.2 hg hr⟩) _) (ownFrom_below (Nat.le_refl _) (by simp; omega)))
    (nextG_own _)
    ⟨⟨(fun _ h => by cases h), by simp [go_sem], by simp [go_sem], by simp [go_sem]⟩, hB0⟩
    _ ?assign ?body ?done ?stop
  case assign =>
    intro l p W K hK
    gi_wp2
    exact hK
  case body =>
    rintro l pre p W ⟨⟨hpre, c1, c2, f2⟩, hB⟩ hlen hn
    cases hv : p.2.2.2 == v with
    | false =>
      gi_wp2
      refine ⟨KeepsFrom.refl _ _, KpL.of_below (Below.refl _ _) hB.size, ⟨fun q hq => ?_, c1, c2, f2⟩, hB⟩
      rcases List.mem_append.1 hq with hq | hq
      · exact hpre q hq
      · cases List.mem_singleton.1 hq
        exact hv
    | true =>
      gi_wp2
      refine ⟨(KeepsOthers.setCell _ _ _).from _, ⟨rfl, ⟨p, by simp, hv⟩, World.cell?_setCell_same _ _ _ c2⟩, hB.setCell (p := ⟨w.heap.size + 1 + 1, 0, none⟩) (by dsimp only; omega) _⟩
  case done =>
    rintro D ys W hD rfl ⟨⟨hpre, c1, c2, f2⟩, hB⟩ hK
    simp at hD
    have hD2 : w.heap.size + 1 + 1 ≠ D := by omega
    have hK2 : (W.setCell ⟨w.heap.size + 1 + 1, 0, none⟩ (.bool false)).heap[D]? = some (.deferred (some [])) := (Below.heap_setCell W ⟨w.heap.size + 1 + 1, 0, none⟩ _ D (Ne.symm hD2)).trans hK
    have hc5 := World.cell?_setCell_same _ _ (.bool false) c2
    gi_wp2
    refine ⟨by simp, .inl ⟨_, _, rfl, run_takeDeferred hK2, ?_⟩⟩
    have hc6 := cell_kept hc5 (grownBy_putObj' _ D (.deferred none)) (fun r e => by cases e; exact ⟨_, hK2, rfl⟩)
    have hany : (ys.any fun p => p.2.2.2 == v) = false := by
      rw [List.any_eq_false]
      intro q hq
      simp [hpre q hq]
    rw [hany]
    refine ⟨.bool false, ?_, rfl, (hB.setCell (p := ⟨w.heap.size + 1 + 1, 0, none⟩) (by dsimp only; omega) _).trans (below_putObj (by omega) _)⟩
    simp [results, Try.f13, go_sem, hc6]
  case stop =>
    rintro D c pre W hD hpre ⟨⟨rfl, ⟨p, hp, hv⟩, hcr⟩, hB⟩ hK
    simp at hD
    have hany : (all.any fun p => p.2.2.2 == v) = true := by
      rw [List.any_eq_true]
      exact ⟨p, hpre.subset hp, hv⟩
    have hc6 := cell_kept hcr (grownBy_putObj' _ D (.deferred none)) (fun r e => by cases e; exact ⟨_, hK, rfl⟩)
    gi_wp2
    refine ⟨by simp, .inl ⟨_, _, rfl, run_takeDeferred hK, ?_⟩⟩
    rw [hany]
    refine ⟨.bool true, ?_, rfl, hB.trans (below_putObj (by omega) _)⟩
    simp [results, Try.f13, go_sem, hc6]

/-- the value that all have, if there are any and they have one -/
def onlyV : List Lf → Int × Bool
  | [] => (0, false)
  | p :: r => if r.all (fun q => q.2.2.2 == p.2.2.2) then (p.2.2.2, true) else (0, false)
theorem onlyV_same {l : List Lf} {u : Int} (h : ∀ p ∈ l, p.2.2.2 = u) (hne : l ≠ []) : onlyV l = (u, true) := by
  cases l with
  | nil => exact absurd rfl hne
  | cons p r =>
    have hp := h p (by simp)
    have : (r.all fun q => q.2.2.2 == p.2.2.2) = true := by
      rw [List.all_eq_true]
      intro q hq
      simp [hp, h q (by simp [hq])]
    rw [onlyV, if_pos this, hp]
theorem onlyV_other {l : List Lf} {p q : Lf} (hp : p ∈ l) (hq : q ∈ l) (h : p.2.2.2 ≠ q.2.2.2) : onlyV l = (0, false) := by
  cases l with
  | nil => cases hp
  | cons a r =>
    have : (r.all fun q => q.2.2.2 == a.2.2.2) = false := by
      rw [Bool.eq_false_iff]
      intro hall
      rw [List.all_eq_true] at hall
      have e : ∀ x ∈ a :: r, x.2.2.2 = a.2.2.2 := fun x hx => by
        rcases List.mem_cons.1 hx with rfl | hx
        · rfl
        · simpa using hall x hx
      exact h ((e p hp).trans (e q hq).symm)
    simp [onlyV, this]

set_option maxRecDepth 100000 in
set_option maxHeartbeats 1000000 in
theorem only_any (N g : Nat) (k : Nat) (t : Sq) (rx ry rw rh : Int) (w : World) (hq : QuadAt w N g (sd k) t) (hfit : t.fits k) (hk : k ≤ 8) :
    Calls Try.prog 12 #[.pointer (some ⟨g, 0, none⟩), .agg #[.int .i64 rx, .int .i64 ry, .int .i64 rw, .int .i64 rh]] w fun e w' => e = .returned (.tuple #[.int .i64 (onlyV (lvs k 0 0 rx ry rw rh t)).1, .bool (onlyV (lvs k 0 0 rx ry rw rh t)).2]) ∧ Below w.heap.size w w' := by
  obtain ⟨all, hall⟩ : ∃ all, all = lvs k 0 0 rx ry rw rh t := ⟨_, rfl⟩
  rw [← hall]
  refine (callsIn_wide (n := 9)).1 ?_
  refine callsIn_of_wp_marks Try.func12 rfl trivial ?_ rfl
  simp only [Try.ntmps12, List.size_toArray, List.length_cons, List.length_nil, Nat.reduceAdd, Nat.reduceSub, Array.replicate_succ, Array.replicate_zero, List.push_toArray, List.append_toArray, List.nil_append, List.cons_append]
  gi_wp2_with fail
  refine ⟨trivial, (callsIn_wide.2 (meets_iter g rx ry rw rh _)).mono ?_⟩
  rintro e w1 ⟨rfl, rfl⟩
  gi_wp2_with fail
  obtain ⟨W0, hW0⟩ : ∃ W0, W0 = (((((((w.alloc (.cells #[.int .i64 rx, .int .i64 ry, .int .i64 rw, .int .i64 rh] 24)).alloc (.cells #[.int .i64 0] 3)).alloc (.cells #[.bool false] 4)).alloc (.cells #[.int .i64 0] 3)).alloc (.cells #[.bool false] 4)).alloc (.cells #[.pointer (some ⟨g, 0, none⟩)] 29)).alloc (.cells #[.int .i64 rx, .int .i64 ry, .int .i64 rw, .int .i64 rh] 24)) := ⟨_, rfl⟩
  rw [← hW0]
  have hB0 : Below w.heap.size w W0 := hW0 ▸ balloc (balloc (balloc (balloc (balloc (balloc (balloc (Below.refl _ _) _) _) _) _) _) _) _
  have hsz : W0.heap.size = w.heap.size + 1 + 1 + 1 + 1 + 1 + 1 + 1 := by rw [hW0]; simp
  have hH := meets_hands 8 N g (w.heap.size + 1 + 1 + 1 + 1 + 1) (w.heap.size + 1 + 1 + 1 + 1 + 1 + 1) k t rx ry rw rh (w.heap.size + 1 + 1 + 1 + 1 + 1 + 1 + 1) w W0 hB0 hq hfit hk (by omega) (by omega) (by omega) (by rw [hW0]; simp [go_sem]) (by rw [hW0]; simp [go_sem]) (by rw [hW0]; simp [go_sem]) (by rw [hW0]; simp [go_sem]) (by rw [hW0]; simp [go_sem])
  rw [← hall] at hH
  have i0 : W0.cell? ⟨w.heap.size + 1, 0, none⟩ = some (.int .i64 0) ∧ W0.cell? ⟨w.heap.size + 1 + 1, 0, none⟩ = some (.bool false) ∧ W0.cell? ⟨w.heap.size + 1 + 1 + 1, 0, none⟩ = some (.int .i64 0) ∧ W0.cell? ⟨w.heap.size + 1 + 1 + 1 + 1, 0, none⟩ = some (.bool false) ∧ W0.frozen? ⟨w.heap.size + 1, 0, none⟩ = false ∧ W0.frozen? ⟨w.heap.size + 1 + 1, 0, none⟩ = false ∧ W0.frozen? ⟨w.heap.size + 1 + 1 + 1, 0, none⟩ = false ∧ W0.frozen? ⟨w.heap.size + 1 + 1 + 1 + 1, 0, none⟩ = false := by
    rw [hW0]
    simp [go_sem]
  clear hW0
  refine' wpIn_rangeFunc_given rfl (by omega) (gf := 43) (lb := #[.pointer (some ⟨w.heap.size + 1 + 1 + 1 + 1 + 1, 0, none⟩), .pointer (some ⟨w.heap.size + 1 + 1 + 1 + 1 + 1 + 1, 0, none⟩)]) rfl trivial (enters_of Try.func43 (by kernel_rfl) rfl)
    hH (fun h k => h.trans k) (fun W l o o' hl h1 h2 h3 => keepL_b (by omega) W l o o' hl h1 h2 h3) (Below.refl _ _) (fun _ => rfl)
    (fun pre W => ((∃ u : Int, (∀ p ∈ pre, p.2.2.2 = u) ∧ (pre = [] → u = 0) ∧ W.cell? ⟨w.heap.size + 1 + 1 + 1, 0, none⟩ = some (.int .i64 u)) ∧ W.cell? ⟨w.heap.size + 1 + 1 + 1 + 1, 0, none⟩ = some (.bool (!pre.isEmpty)) ∧ W.cell? ⟨w.heap.size + 1, 0, none⟩ = some (.int .i64 0) ∧ W.cell? ⟨w.heap.size + 1 + 1, 0, none⟩ = some (.bool false) ∧ W.frozen? ⟨w.heap.size + 1, 0, none⟩ = false ∧ W.frozen? ⟨w.heap.size + 1 + 1, 0, none⟩ = false ∧ W.frozen? ⟨w.heap.size + 1 + 1 + 1, 0, none⟩ = false ∧ W.frozen? ⟨w.heap.size + 1 + 1 + 1 + 1, 0, none⟩ = false) ∧ Below w.heap.size w W)
    (fun c pre W => (c = .ret ∧ (∃ p ∈ pre, ∃ q ∈ pre, p.2.2.2 ≠ q.2.2.2) ∧ W.cell? ⟨w.heap.size + 1, 0, none⟩ = some (.int .i64 0) ∧ W.cell? ⟨w.heap.size + 1 + 1, 0, none⟩ = some (.bool false)) ∧ Below w.heap.size w W)
    (OwnFrom.and (Own.from (fun s A B row ⟨⟨u, h1, h2, h3⟩, h4, h5, h6, h7, h8, h9, h10⟩ hg hr => ⟨⟨u, h1, h2, cell_kept h3 hg hr⟩, cell_kept h4 hg hr, cell_kept h5 hg hr, cell_kept h6 hg hr, (frozen_kept h5 hg hr).trans h7, (frozen_kept h6 hg hr).trans h8, (frozen_kept h3 hg hr).trans h9, (frozen_kept h4 hg hr).trans h10⟩) _) (ownFrom_below (Nat.le_refl _) (by omega)))
    (fun c => OwnFrom.and (Own.from (fun s A B row hs hg hr => ⟨hs.1, hs.2.1, cell_kept hs.2.2.1 hg hr, cell_kept hs.2.2.2 hg hr⟩) _) (ownFrom_below (Nat.le_refl _) (by omega)))
    (nextG_own _)
    ⟨⟨⟨0, (fun _ h => by cases h), (fun _ => rfl), i0.2.2.1⟩, i0.2.2.2.1, i0.1, i0.2.1, i0.2.2.2.2.1, i0.2.2.2.2.2.1, i0.2.2.2.2.2.2.1, i0.2.2.2.2.2.2.2⟩, hB0⟩
    _ ?assign ?body ?done ?stop
  case assign =>
    intro l p W K hK
    gi_wp2
    exact hK
  case body =>
    rintro l pre p W ⟨⟨⟨u, hu, hu0, c3⟩, c4, c1, c2, f1, f2, f3, f4⟩, hB⟩ hlen hn
    have goes : ∀ (W' : World), W' = (W.setCell ⟨w.heap.size + 1 + 1 + 1, 0, none⟩ (.int .i64 p.2.2.2)).setCell ⟨w.heap.size + 1 + 1 + 1 + 1, 0, none⟩ (.bool true) → (∀ q ∈ pre, q.2.2.2 = p.2.2.2) →
        KeepsFrom W0.heap.size W W' ∧ KpL w (w.heap.size + 1 + 1 + 1 + 1 + 1 + 1 + 1) W W' ∧ ((∃ u : Int, (∀ q ∈ pre ++ [p], q.2.2.2 = u) ∧ (pre ++ [p] = [] → u = 0) ∧ W'.cell? ⟨w.heap.size + 1 + 1 + 1, 0, none⟩ = some (.int .i64 u)) ∧ W'.cell? ⟨w.heap.size + 1 + 1 + 1 + 1, 0, none⟩ = some (.bool (!(pre ++ [p]).isEmpty)) ∧ W'.cell? ⟨w.heap.size + 1, 0, none⟩ = some (.int .i64 0) ∧ W'.cell? ⟨w.heap.size + 1 + 1, 0, none⟩ = some (.bool false) ∧ W'.frozen? ⟨w.heap.size + 1, 0, none⟩ = false ∧ W'.frozen? ⟨w.heap.size + 1 + 1, 0, none⟩ = false ∧ W'.frozen? ⟨w.heap.size + 1 + 1 + 1, 0, none⟩ = false ∧ W'.frozen? ⟨w.heap.size + 1 + 1 + 1 + 1, 0, none⟩ = false) ∧ Below w.heap.size w W' := by
      rintro W' rfl hsame
      refine ⟨((KeepsOthers.setCell _ _ _).trans (KeepsOthers.setCell _ _ _)).from _, (keepL_set _ _ _ _ (by omega) (by omega)).trans (keepL_set _ _ _ _ (by omega) (by omega)), ⟨⟨p.2.2.2, ?_, by simp, ?_⟩, ?_, ?_, ?_, ?_, ?_, ?_, ?_⟩, (hB.setCell (p := ⟨w.heap.size + 1 + 1 + 1, 0, none⟩) (by dsimp only; omega) _).setCell (p := ⟨w.heap.size + 1 + 1 + 1 + 1, 0, none⟩) (by dsimp only; omega) _⟩
      · intro q hq
        rcases List.mem_append.1 hq with hq | hq
        · exact hsame q hq
        · rw [List.mem_singleton.1 hq]
      · rw [World.cell?_setCell_other _ _ _ _ (by simp), World.cell?_setCell_same _ _ _ c3]
      · rw [World.cell?_setCell_same (u := .bool (!pre.isEmpty)) _ _ _ (by rw [World.cell?_setCell_other _ _ _ _ (by simp)]; exact c4)]
        simp
      · rw [World.cell?_setCell_other _ _ _ _ (by simp), World.cell?_setCell_other _ _ _ _ (by simp)]; exact c1
      · rw [World.cell?_setCell_other _ _ _ _ (by simp), World.cell?_setCell_other _ _ _ _ (by simp)]; exact c2
      all_goals simpa
    cases hpe : pre.isEmpty with
    | true =>
      have hnil : pre = [] := List.isEmpty_iff.1 hpe
      rw [hpe] at c4
      gi_wp2
      exact goes _ rfl (by rw [hnil]; intro q hq; cases hq)
    | false =>
      rw [hpe] at c4
      cases hv : p.2.2.2 != u with
      | false =>
        gi_wp2
        exact goes _ rfl (fun q hq => by rw [hu q hq]; simpa using Eq.symm (by simpa using hv))
      | true =>
        gi_wp2
        have hB3 := (hB.setCell (p := ⟨w.heap.size + 1, 0, none⟩) (by dsimp only; omega) (.int .i64 0)).setCell (p := ⟨w.heap.size + 1 + 1, 0, none⟩) (by dsimp only; omega) (.bool false)
        refine ⟨((KeepsOthers.setCell _ _ _).trans (KeepsOthers.setCell _ _ _)).from _, ⟨rfl, ?_, ?_, ?_⟩, hB3⟩
        · cases hpr : pre with
          | nil => rw [hpr] at hpe; cases hpe
          | cons a r => exact ⟨p, by simp, a, by simp, by rw [hu a (by rw [hpr]; simp)]; simpa using hv⟩
        · rw [World.cell?_setCell_other _ _ _ _ (by simp), World.cell?_setCell_same _ _ _ c1]
        · rw [World.cell?_setCell_same (u := .bool false) _ _ _ (by rw [World.cell?_setCell_other _ _ _ _ (by simp)]; exact c2)]
  case done =>
    rintro D ys W hD rfl ⟨⟨⟨u, hu, hu0, c3⟩, c4, c1, c2, f1, f2, f3, f4⟩, hB⟩ hK
    rw [hsz] at hD
    clear hall hH
    have hval : onlyV ys = (u, !ys.isEmpty) := by
      cases hy : ys with
      | nil => rw [hu0 hy]; rfl
      | cons a r => rw [← hy, onlyV_same hu (by rw [hy]; simp), hy]; rfl
    obtain ⟨W3, hW3⟩ : ∃ W3, W3 = ((W.setCell ⟨w.heap.size + 1, 0, none⟩ (.int .i64 u)).setCell ⟨w.heap.size + 1 + 1, 0, none⟩ (.bool (!ys.isEmpty))).drew := ⟨_, rfl⟩
    have hb3 : Below w.heap.size w W3 := hW3 ▸ ((hB.setCell (p := ⟨w.heap.size + 1, 0, none⟩) (by dsimp only; omega) _).setCell (p := ⟨w.heap.size + 1 + 1, 0, none⟩) (by dsimp only; omega) _).drew
    have hK3 : W3.heap[D]? = some (.deferred (some [])) := by
      rw [hW3]
      exact ((Below.heap_setCell _ ⟨w.heap.size + 1 + 1, 0, none⟩ _ D (by dsimp only; omega)).trans (Below.heap_setCell W ⟨w.heap.size + 1, 0, none⟩ _ D (by dsimp only; omega))).trans hK
    have hc5 : W3.cell? ⟨w.heap.size + 1, 0, none⟩ = some (.int .i64 u) := by
      rw [hW3, World.cell?_drew, World.cell?_setCell_other _ _ _ _ (by simp), World.cell?_setCell_same _ _ _ c1]
    have hc6 : W3.cell? ⟨w.heap.size + 1 + 1, 0, none⟩ = some (.bool (!ys.isEmpty)) := by
      rw [hW3, World.cell?_drew, World.cell?_setCell_same (u := .bool false) _ _ _ (by rw [World.cell?_setCell_other _ _ _ _ (by simp)]; exact c2)]
    have hc7 := cell_kept hc5 (grownBy_putObj' _ D (.deferred none)) (fun r e => by cases e; exact ⟨_, hK3, rfl⟩)
    have hc8 := cell_kept hc6 (grownBy_putObj' _ D (.deferred none)) (fun r e => by cases e; exact ⟨_, hK3, rfl⟩)
    gi_wp2_with fail
    gi_region
    gi_wp2
    rw [← hW3]
    refine ⟨by simp, .inl ⟨_, _, rfl, run_takeDeferred (b := D) hK3, ?_⟩⟩
    refine ⟨.tuple #[.int .i64 u, .bool (!ys.isEmpty)], ?_, by rw [hval], hb3.trans (below_putObj (by omega) _)⟩
    simp [results, Try.f12, go_sem, hc7, hc8]
  case stop =>
    rintro D c pre W hD hpre ⟨⟨rfl, ⟨p, hp, q, hq, hv⟩, hc1, hc2⟩, hB⟩ hK
    rw [hsz] at hD
    clear hH
    have hval := onlyV_other (hpre.subset hp) (hpre.subset hq) hv
    have hc5 := cell_kept hc1 (grownBy_putObj' _ D (.deferred none)) (fun r e => by cases e; exact ⟨_, hK, rfl⟩)
    have hc6 := cell_kept hc2 (grownBy_putObj' _ D (.deferred none)) (fun r e => by cases e; exact ⟨_, hK, rfl⟩)
    gi_wp2
    refine ⟨by simp, .inl ⟨_, _, rfl, run_takeDeferred hK, ?_⟩⟩
    refine ⟨.tuple #[.int .i64 0, .bool false], ?_, by rw [hval], hB.trans (below_putObj (by omega) _)⟩
    simp [results, Try.f12, go_sem, hc5, hc6]
end Go.Proofs.Ytdpdkjpkehgdnaa
