/-
  Package quad: a square's tiles are set: what the tree is afterwards; the ways that are short.
-/
import Derived.Test.YtdpdkjpkehgdnaaQuC
import Derived.Test.YtdpdkjpkehgdnaaRectC
namespace Go.Proofs.Ytdpdkjpkehgdnaa
open Go.RowKit

def Sq.tag : Sq → Option Int
  | .leaf v => some v
  | .node .. => none
theorem Sq.tag_some {t : Sq} {v : Int} (h : t.tag = some v) : t = .leaf v := by
  cases t with
  | leaf u => simp [Sq.tag] at h; rw [h]
  | node => simp [Sq.tag] at h
def oneB (U : Nat → Sq) : Nat → Bool
  | 0 => true
  | i + 1 => oneB U i && (U i).tag.isSome && decide ((U i).tag = (U 0).tag)
def joinU (U : Nat → Sq) : Sq := if oneB U 4 = true then U 0 else .node (U 0) (U 1) (U 2) (U 3)
def quart : Sq → Nat → Sq
  | .leaf v, _ => .leaf v
  | .node a b c d, i => kidOf a b c d i
def quX (x h : Int) (i : Nat) : Int := if i % 2 = 1 then x + h else x
def quY (y h : Int) (i : Nat) : Int := if 2 ≤ i then y + h else y
def sd (k : Nat) : Int := ((2 ^ k : Nat) : Int)
def setT : Nat → Int → Int → Int → Int → Int → Int → Int → Sq → Sq
  | 0, x, y, rx, ry, rw, rh, v, t => if meetB x y (sd 0) (sd 0) rx ry rw rh = true then (if t.tag = some v then t else if inB x y (sd 0) (sd 0) rx ry rw rh = true then .leaf v else t) else t
  | k + 1, x, y, rx, ry, rw, rh, v, t => if meetB x y (sd (k + 1)) (sd (k + 1)) rx ry rw rh = true then (if t.tag = some v then t else if inB x y (sd (k + 1)) (sd (k + 1)) rx ry rw rh = true then .leaf v
    else joinU (fun i => setT k (quX x (sd k) i) (quY y (sd k) i) rx ry rw rh v (quart t i))) else t

theorem setT_no (k : Nat) (x y rx ry rw rh v : Int) (t : Sq) (h : meetB x y (sd k) (sd k) rx ry rw rh = false) : setT k x y rx ry rw rh v t = t := by
  cases k <;> simp [setT, h]
theorem setT_same (k : Nat) (x y rx ry rw rh v : Int) : setT k x y rx ry rw rh v (.leaf v) = .leaf v := by
  cases k <;> simp [setT, Sq.tag]
theorem setT_in (k : Nat) (x y rx ry rw rh v : Int) (t : Sq) (h : meetB x y (sd k) (sd k) rx ry rw rh = true) (h2 : inB x y (sd k) (sd k) rx ry rw rh = true) : setT k x y rx ry rw rh v t = .leaf v := by
  by_cases ht : t.tag = some v
  · rw [Sq.tag_some ht, setT_same]
  · cases k <;> simp [setT, h, h2, ht]
theorem setT_go (k : Nat) (x y rx ry rw rh v : Int) (t : Sq) (h : meetB x y (sd (k + 1)) (sd (k + 1)) rx ry rw rh = true) (h1 : t.tag ≠ some v) (h2 : inB x y (sd (k + 1)) (sd (k + 1)) rx ry rw rh = false) :
    setT (k + 1) x y rx ry rw rh v t = joinU (fun i => setT k (quX x (sd k) i) (quY y (sd k) i) rx ry rw rh v (quart t i)) := by
  simp [setT, h, h1, h2]

abbrev setQ (w : World) (b o : Nat) (F : Nat → Prop) (t : Sq) (e : Ending) (w' : World) : Prop := (∃ r, e = .returned r) ∧ SqAt w' t b o (grow F w w') ∧ Kept b o F w w'

/-- the two cells of a square -/
theorem SqAt.cells {W : World} {t : Sq} {b o : Nat} {F : Nat → Prop} (h : SqAt W t b o F) : ∃ (p : Option Addr) (v : Int), W.cell? ⟨b, o, none⟩ = some (.pointer p) ∧ W.cell? ⟨b, o + 1, none⟩ = some (.int .u8 v) ∧ W.frozen? ⟨b, o, none⟩ = false ∧ W.frozen? ⟨b, o + 1, none⟩ = false ∧ (∀ u, t.tag = some u → p = none ∧ v = u) ∧ (t.tag = none → ∃ K, p = some ⟨K, 0, none⟩) := by
  cases t with
  | leaf u => exact ⟨none, u, h.1, h.2.1, h.2.2.1, h.2.2.2.1, fun u' hu => ⟨rfl, by simpa [Sq.tag] using hu⟩, fun h => by simp [Sq.tag] at h⟩
  | node a b c d =>
    obtain ⟨K, v, G, h1, h2, h3, h4, _⟩ := h
    exact ⟨some ⟨K, 0, none⟩, v, h1, h2, h3, h4, fun u hu => by simp [Sq.tag] at hu, fun _ => ⟨K, rfl⟩⟩

theorem SqAt.grown {w w' : World} {t : Sq} {b o : Nat} {F : Nat → Prop} (h : SqAt w t b o F) (hb : b < w.heap.size) (hF : ∀ c, F c → c < w.heap.size) (k : Below w.heap.size w w') : SqAt w' t b o (grow F w w') :=
  (h.below k hb hF).mono fun _ hc => .inl hc

theorem set_no (k : Nat) (t : Sq) (x y rx ry rw rh v : Int) (b o : Nat) (F : Nat → Prop) (w : World) (h : SqAt w t b o F) (hb : b < w.heap.size) (hF : ∀ c, F c → c < w.heap.size)
    (hm : meetB x y (sd k) (sd k) rx ry rw rh = false) :
    Calls Try.prog 42 #[.pointer (some ⟨b, o, none⟩), .agg #[.int .i64 x, .int .i64 y, .int .i64 (sd k), .int .i64 (sd k)], .agg #[.int .i64 rx, .int .i64 ry, .int .i64 rw, .int .i64 rh], .int .u8 v] w (setQ w b o F (setT k x y rx ry rw rh v t)) := by
  rw [setT_no _ _ _ _ _ _ _ _ _ hm]
  unfold setQ
  generalize sd k = s at *
  suffices hs : Calls Try.prog 42 #[.pointer (some ⟨b, o, none⟩), .agg #[.int .i64 x, .int .i64 y, .int .i64 s, .int .i64 s], .agg #[.int .i64 rx, .int .i64 ry, .int .i64 rw, .int .i64 rh], .int .u8 v] w fun e w' => (∃ r, e = .returned r) ∧ Below w.heap.size w w' from
    hs.mono fun e w' ⟨h1, h2⟩ => ⟨h1, h.grown hb hF h2, Kept.of_below h2 hb⟩
  clear h hF
  go_enter Try.func42, Try.ntmps42
  go_wp2_with fail
  refine (meets_any _ _ _ _ _ _ _ _ _).mono ?_
  rintro e w1 ⟨rfl, hbw1⟩
  obtain ⟨hcw1, hfw1⟩ := bcell hbw1
  have hsw1 := hbw1.size
  try simp at hcw1 hfw1 hsw1
  have lw1_0 : w.heap.size < w1.heap.size := by omega
  have lw1_1 : w.heap.size + 1 < w1.heap.size := by omega
  rw [hm]
  go_wp2
  refine bodyPost_ret (results_none rfl _ _ _) rfl ⟨⟨_, rfl⟩, ?_⟩
  repeat' (first | with_reducible assumption | with_reducible refine Below.setCell ?_ ?_ _ | with_reducible refine below_drewN ?_ _ | with_reducible refine Below.drew ?_ | with_reducible refine balloc ?_ _ | with_reducible exact Below.refl _ _ | with_reducible refine bstep ?_ (by assumption) | with_reducible refine Below.alloc ?_ ?_ _ | with_reducible refine bthrough ?_ (by assumption) ?_)
  all_goals (first | omega | (simp; done) | (simp; omega))

theorem set_same (k : Nat) (x y rx ry rw rh v : Int) (b o : Nat) (F : Nat → Prop) (w : World) (h : SqAt w (.leaf v) b o F) (hb : b < w.heap.size) (hF : ∀ c, F c → c < w.heap.size)
    (hm : meetB x y (sd k) (sd k) rx ry rw rh = true) :
    Calls Try.prog 42 #[.pointer (some ⟨b, o, none⟩), .agg #[.int .i64 x, .int .i64 y, .int .i64 (sd k), .int .i64 (sd k)], .agg #[.int .i64 rx, .int .i64 ry, .int .i64 rw, .int .i64 rh], .int .u8 v] w (setQ w b o F (setT k x y rx ry rw rh v (.leaf v))) := by
  rw [setT_same]
  unfold setQ
  generalize sd k = s at *
  suffices hs : Calls Try.prog 42 #[.pointer (some ⟨b, o, none⟩), .agg #[.int .i64 x, .int .i64 y, .int .i64 s, .int .i64 s], .agg #[.int .i64 rx, .int .i64 ry, .int .i64 rw, .int .i64 rh], .int .u8 v] w fun e w' => (∃ r, e = .returned r) ∧ Below w.heap.size w w' from
    hs.mono fun e w' ⟨h1, h2⟩ => ⟨h1, h.grown hb hF h2, Kept.of_below h2 hb⟩
  obtain ⟨h1, h2, h3, h4, h5⟩ := h
  clear hF
  go_enter Try.func42, Try.ntmps42
  go_wp2_with fail
  refine (meets_any _ _ _ _ _ _ _ _ _).mono ?_
  rintro e w1 ⟨rfl, hbw1⟩
  obtain ⟨hcw1, hfw1⟩ := bcell hbw1
  have hsw1 := hbw1.size
  try simp at hcw1 hfw1 hsw1
  have lw1_0 : w.heap.size < w1.heap.size := by omega
  have lw1_1 : w.heap.size + 1 < w1.heap.size := by omega
  have g1 : w1.cell? ⟨b, o, none⟩ = some (.pointer none) := by rw [hcw1 _ _ (by omega)]; simpa [go_sem, hb] using h1
  have g2 : w1.cell? ⟨b, o + 1, none⟩ = some (.int .u8 v) := by rw [hcw1 _ _ (by omega)]; simpa [go_sem, hb] using h2
  rw [hm]
  go_wp2
  refine bodyPost_ret (results_none rfl _ _ _) rfl ⟨⟨_, rfl⟩, ?_⟩
  repeat' (first | with_reducible assumption | with_reducible refine Below.setCell ?_ ?_ _ | with_reducible refine below_drewN ?_ _ | with_reducible refine Below.drew ?_ | with_reducible refine balloc ?_ _ | with_reducible exact Below.refl _ _ | with_reducible refine bstep ?_ (by assumption) | with_reducible refine Below.alloc ?_ ?_ _ | with_reducible refine bthrough ?_ (by assumption) ?_)
  all_goals (first | omega | (simp; done) | (simp; omega))

set_option maxHeartbeats 1000000 in
theorem set_in (k : Nat) (t : Sq) (x y rx ry rw rh v : Int) (b o : Nat) (F : Nat → Prop) (w : World) (h : SqAt w t b o F) (hb : b < w.heap.size) (_ : ∀ c, F c → c < w.heap.size)
    (hv : 0 ≤ v ∧ v ≤ 255) (hm : meetB x y (sd k) (sd k) rx ry rw rh = true) (ht : t.tag ≠ some v) (hi : inB x y (sd k) (sd k) rx ry rw rh = true) :
    Calls Try.prog 42 #[.pointer (some ⟨b, o, none⟩), .agg #[.int .i64 x, .int .i64 y, .int .i64 (sd k), .int .i64 (sd k)], .agg #[.int .i64 rx, .int .i64 ry, .int .i64 rw, .int .i64 rh], .int .u8 v] w (setQ w b o F (setT k x y rx ry rw rh v t)) := by
  rw [setT_in _ _ _ _ _ _ _ _ _ hm hi]
  unfold setQ
  generalize sd k = s at *
  obtain ⟨p, u, h1, h2, h3, h4, h5, h6⟩ := h.cells
  suffices hs : Calls Try.prog 42 #[.pointer (some ⟨b, o, none⟩), .agg #[.int .i64 x, .int .i64 y, .int .i64 s, .int .i64 s], .agg #[.int .i64 rx, .int .i64 ry, .int .i64 rw, .int .i64 rh], .int .u8 v] w fun e w' => (∃ r, e = .returned r) ∧ ∃ w2, Below w.heap.size w w2 ∧ w' = (w2.setCell ⟨b, o, none⟩ (.pointer none)).setCell ⟨b, o + 1, none⟩ (.int .u8 v) by
    refine hs.mono fun e w' ⟨e1, w2, hb2, he⟩ => ?_
    subst he
    have g1 := ((bcell hb2).1 b o hb).trans h1
    have g2 := ((bcell hb2).1 b (o + 1) hb).trans h2
    have g3 := ((bcell hb2).2 b o hb).trans h3
    have g4 := ((bcell hb2).2 b (o + 1) hb).trans h4
    refine ⟨e1, ⟨?_, ?_, ?_, ?_, hv⟩, ((Kept.of_below hb2 hb).trans (Kept.set _ o _ (.inl rfl))).trans (Kept.set _ (o + 1) _ (.inr rfl))⟩
    · rw [World.cell?_setCell_other _ _ _ _ (by simp), World.cell?_setCell_same (h := g1)]
    · rw [World.cell?_setCell_same (u := .int .u8 u)]
      rw [World.cell?_setCell_other _ _ _ _ (by simp)]
      exact g2
    · simpa using g3
    · simpa using g4
  clear h
  go_enter Try.func42, Try.ntmps42
  go_wp2_with fail
  refine (meets_any _ _ _ _ _ _ _ _ _).mono ?_
  rintro e w1 ⟨rfl, hbw1⟩
  obtain ⟨hcw1, hfw1⟩ := bcell hbw1
  have hsw1 := hbw1.size
  try simp at hcw1 hfw1 hsw1
  have lw1_0 : w.heap.size < w1.heap.size := by omega
  have lw1_1 : w.heap.size + 1 < w1.heap.size := by omega
  have hcb : ∀ i, w1.cell? ⟨b, i, none⟩ = w.cell? ⟨b, i, none⟩ := fun i => by rw [hcw1 _ _ (by omega)]; simp [go_sem, hb]
  have hfb : ∀ i, w1.frozen? ⟨b, i, none⟩ = w.frozen? ⟨b, i, none⟩ := fun i => by rw [hfw1 _ _ (by omega)]; simp [go_sem, hb]
  have g1 := (hcb o).trans h1
  have g2 := (hcb (o + 1)).trans h2
  rw [hm]
  have hbb : Below w.heap.size w w1 := by
    repeat' (first | with_reducible assumption | with_reducible refine Below.setCell ?_ ?_ _ | with_reducible refine below_drewN ?_ _ | with_reducible refine Below.drew ?_ | with_reducible refine balloc ?_ _ | with_reducible exact Below.refl _ _ | with_reducible refine bstep ?_ (by assumption) | with_reducible refine Below.alloc ?_ ?_ _ | with_reducible refine bthrough ?_ (by assumption) ?_)
    all_goals (first | omega | (simp; done) | (simp; omega))
  cases ht0 : t.tag with
  | none =>
    obtain ⟨K, rfl⟩ := h6 ht0
    go_wp2_with fail
    refine (in_any _ _ _ _ _ _ _ _ _).mono ?_
    rintro e w2 ⟨rfl, hbw2⟩
    obtain ⟨hcw2, hfw2⟩ := bcell hbw2
    have hsw2 := hbw2.size
    try simp at hcw2 hfw2 hsw2
    have lw2_0 : w.heap.size < w2.heap.size := by omega
    have lw2_1 : w.heap.size + 1 < w2.heap.size := by omega
    have e1 := (hcw2 b o (by omega)).trans g1
    have e2 := (hcw2 b (o + 1) (by omega)).trans g2
    have e3 := ((hfw2 b o (by omega)).trans (hfb o)).trans h3
    have e4 := ((hfw2 b (o + 1) (by omega)).trans (hfb (o + 1))).trans h4
    rw [hi]
    go_wp2
    exact bodyPost_ret (results_none rfl _ _ _) rfl ⟨⟨_, rfl⟩, _, bstep hbb hbw2, rfl⟩
  | some u' =>
    obtain ⟨rfl, rfl⟩ := h5 _ ht0
    have hne : (u == v) = false := by
      rw [ht0] at ht
      simpa using ht
    go_wp2_with fail
    refine (in_any _ _ _ _ _ _ _ _ _).mono ?_
    rintro e w2 ⟨rfl, hbw2⟩
    obtain ⟨hcw2, hfw2⟩ := bcell hbw2
    have hsw2 := hbw2.size
    try simp at hcw2 hfw2 hsw2
    have lw2_0 : w.heap.size < w2.heap.size := by omega
    have lw2_1 : w.heap.size + 1 < w2.heap.size := by omega
    have e1 := (hcw2 b o (by omega)).trans g1
    have e2 := (hcw2 b (o + 1) (by omega)).trans g2
    have e3 := ((hfw2 b o (by omega)).trans (hfb o)).trans h3
    have e4 := ((hfw2 b (o + 1) (by omega)).trans (hfb (o + 1))).trans h4
    rw [hi]
    go_wp2
    exact bodyPost_ret (results_none rfl _ _ _) rfl ⟨⟨_, rfl⟩, _, bstep hbb hbw2, rfl⟩
end Go.Proofs.Ytdpdkjpkehgdnaa
