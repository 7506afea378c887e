/-
  The law's played (of quad): a quad and a grid behind the same calls. For every list of calls.
-/
import Derived.Test.YtdpdkjpkehgdnaaQuO
namespace Go.Proofs.Ytdpdkjpkehgdnaa
open Go.RowKit

/-- a call of Set -/
structure Op5 where
  x : Int
  y : Int
  m : Int
  n : Int
  v : Int

theorem block_add (A : Addr) (j : Nat) : (A.add j).block = A.block := by unfold Addr.add; split <;> rfl
theorem add_next (A : Addr) (n j : Nat) : A.add (n + (j + 1)) = ⟨(A.add n).block, (A.add n).off + (j + 1), none⟩ := by
  rcases n with _ | n
  · simp [Addr.add]
  · simp [Addr.add]
    omega
/-- a list of calls that lies below block B -/
def OpsAt (B : Nat) (w : World) (A : Option Addr) (l : List Op5) : Prop :=
  ∀ i o, l[i]? = some o → ∃ A0, A = some A0 ∧ A0.block < B ∧ w.cell? (A0.add (i * 5)) = some (.int .i64 o.x) ∧ w.cell? (A0.add (i * 5 + 1)) = some (.int .i64 o.y) ∧ w.cell? (A0.add (i * 5 + 2)) = some (.int .i64 o.m) ∧ w.cell? (A0.add (i * 5 + 3)) = some (.int .i64 o.n) ∧ w.cell? (A0.add (i * 5 + 4)) = some (.int .i64 o.v)
theorem OpsAt.later {B : Nat} {w w' : World} {A : Option Addr} {l : List Op5} (h : OpsAt B w A l) (hb : Below B w w') : OpsAt B w' A l := fun i o hi => by
  obtain ⟨A0, hA, hlt, h0, h1, h2, h3, h4⟩ := h i o hi
  have e : ∀ j, w'.cell? (A0.add j) = w.cell? (A0.add j) := fun j => hb.cell (p := A0.add j) (by rw [block_add]; exact hlt)
  exact ⟨A0, hA, hlt, (e _).trans h0, (e _).trans h1, (e _).trans h2, (e _).trans h3, (e _).trans h4⟩

def stepT (k : Nat) (t : Sq) (o : Op5) : Sq := if okSet (sd k) o.x o.y o.m o.n o.v = true then setT k 0 0 o.x o.y o.m o.n o.v t else t
def stepF (k : Nat) (f : Nat → Int) (o : Op5) : Nat → Int := if okSet (sd k) o.x o.y o.m o.n o.v = true then setF (2 ^ k) o.x o.y o.m o.n o.v f else f
def playT (k : Nat) (l : List Op5) : Sq := l.foldl (stepT k) (.leaf 0)
def playF (k : Nat) (l : List Op5) : Nat → Int := l.foldl (stepF k) (fun _ => 0)
theorem playT_succ (k : Nat) (l : List Op5) (i : Nat) (o : Op5) (h : l[i]? = some o) : playT k (l.take (i + 1)) = stepT k (playT k (l.take i)) o := by
  unfold playT
  rw [List.take_add_one, h]
  simp [List.foldl_append]
theorem playF_succ (k : Nat) (l : List Op5) (i : Nat) (o : Op5) (h : l[i]? = some o) : playF k (l.take (i + 1)) = stepF k (playF k (l.take i)) o := by
  unfold playF
  rw [List.take_add_one, h]
  simp [List.foldl_append]

theorem okSet_within {k : Nat} (hk : k ≤ 8) (x y m n v : Int) : okSet (sd k) x y m n v = (withinB x y m n (sd k) && decide (0 ≤ v) && decide (v ≤ 255)) := by
  have h1 := sd_pos k
  have h2 : sd k ≤ 256 := by
    unfold sd
    have : 2 ^ k ≤ 2 ^ 8 := Nat.pow_le_pow_right (by decide) hk
    omega
  have hr : rightB 0 0 (sd k) (sd k) = true := by simp [rightB, sideB]; omega
  have : inB x y m n 0 0 (sd k) (sd k) = withinB x y m n (sd k) := by
    cases h : rightB x y m n with
    | false => simp [inB, withinB, h]
    | true =>
      obtain ⟨⟨a1, a2, a3, a4⟩, a5, a6, a7, a8⟩ := of_rightB h
      rw [Bool.eq_iff_iff]
      simp [inB, withinB, h, hr]
      omega
  simp only [okSet, this]

/-- what holds before each call -/
structure PInv (w : World) (B5 B7 g k s : Nat) (t : Sq) (f : Nat → Int) (wr : World) : Prop where
  quad : ∃ F, QuadF wr w.heap.size g (sd k) t F ∧ ¬ F B5 ∧ ¬ F B7 ∧ ∃ g' cap', ¬ F g' ∧ g' ≠ g ∧ g' ≠ B7 ∧ g' ≠ B5 ∧ wr.cell? ⟨B7, 0, none⟩ = some (.int .i64 (s : Int)) ∧ wr.cell? ⟨B7, 1, none⟩ = some (.slice (some ⟨g', 0, none⟩) (s * s) cap') ∧ IntsAt wr w.heap.size g' (s * s) f
  f70 : wr.frozen? ⟨B7, 0, none⟩ = false
  f71 : wr.frozen? ⟨B7, 1, none⟩ = false
  c50 : wr.cell? ⟨B5, 0, none⟩ = some (.int .i64 0)
  c51 : wr.cell? ⟨B5, 1, none⟩ = some (.slice none 0 0)
  f50 : wr.frozen? ⟨B5, 0, none⟩ = false
  f51 : wr.frozen? ⟨B5, 1, none⟩ = false
  b5 : w.heap.size ≤ B5 ∧ B5 < wr.heap.size ∧ B5 ≠ g
  b7 : w.heap.size ≤ B7 ∧ B7 < wr.heap.size ∧ B7 ≠ g ∧ B7 ≠ B5
  below : Below w.heap.size w wr
  fits : t.fits k

theorem PInv.later {w : World} {B5 B7 g k s : Nat} {t : Sq} {f : Nat → Int} {wr w' : World} (h : PInv w B5 B7 g k s t f wr) (b : Below wr.heap.size wr w') : PInv w B5 B7 g k s t f w' := by
  have hs := b.size
  have h5 := h.b5
  have h7 := h.b7
  have e : ∀ c i, c < wr.heap.size → w'.cell? ⟨c, i, none⟩ = wr.cell? ⟨c, i, none⟩ := fun c i hc => (bcell b).1 c i hc
  have ef : ∀ c i, c < wr.heap.size → w'.frozen? ⟨c, i, none⟩ = wr.frozen? ⟨c, i, none⟩ := fun c i hc => (bcell b).2 c i hc
  obtain ⟨F, q1, q2, q3, g', cap', q4, q5, q6, q7, q8, q9, q10⟩ := h.quad
  exact ⟨⟨F, q1.below b, q2, q3, g', cap', q4, q5, q6, q7, (e _ _ h7.2.1).trans q8, (e _ _ h7.2.1).trans q9, q10.below b⟩, (ef _ _ h7.2.1).trans h.f70, (ef _ _ h7.2.1).trans h.f71, (e _ _ h5.2.1).trans h.c50, (e _ _ h5.2.1).trans h.c51, (ef _ _ h5.2.1).trans h.f50, (ef _ _ h5.2.1).trans h.f51,
    ⟨h5.1, by omega, h5.2.2⟩, ⟨h7.1, by omega, h7.2.2⟩, h.below.trans (b.mono h.below.size), h.fits⟩

/-- behind a Set of the quad -/
theorem PInv.set {w : World} {B5 B7 g k s : Nat} {t t' : Sq} {f : Nat → Int} {wr w' : World} {F : Nat → Prop} (h : PInv w B5 B7 g k s t f wr) (q1 : QuadF wr w.heap.size g (sd k) t F) (q2 : ¬ F B5) (q3 : ¬ F B7) {g' cap' : Nat} (q4 : ¬ F g') (q5 : g' ≠ g) (q6 : g' ≠ B7) (q7 : g' ≠ B5)
    (q8 : wr.cell? ⟨B7, 0, none⟩ = some (.int .i64 (s : Int))) (q9 : wr.cell? ⟨B7, 1, none⟩ = some (.slice (some ⟨g', 0, none⟩) (s * s) cap')) (q10 : IntsAt wr w.heap.size g' (s * s) f)
    (n1 : QuadF w' w.heap.size g (sd k) t' (grow F wr w')) (kp : Kept g 1 F wr w') (hf : t'.fits k) : PInv w B5 B7 g k s t' f w' := by
  have hs := kp.size
  have h5 := h.b5
  have h7 := h.b7
  have hg := q10.lt
  have k5 := kp.block B5 h5.2.1 q2 h5.2.2
  have k7 := kp.block B7 h7.2.1 q3 h7.2.2.1
  have kg := kp.block g' hg q4 q5
  refine ⟨⟨grow F wr w', n1, ?_, ?_, g', cap', ?_, q5, q6, q7, (cell_of_block k7 _).trans q8, (cell_of_block k7 _).trans q9, ⟨q10.low, by omega, fun j hj => (cell_of_block kg j).trans (q10.cell j hj)⟩⟩, (frozen_of_block k7 _).trans h.f70, (frozen_of_block k7 _).trans h.f71, (cell_of_block k5 _).trans h.c50, (cell_of_block k5 _).trans h.c51, (frozen_of_block k5 _).trans h.f50, (frozen_of_block k5 _).trans h.f51,
    ⟨h5.1, by omega, h5.2.2⟩, ⟨h7.1, by omega, h7.2.2⟩, h.below.trans (q1.keeps kp), hf⟩
  · rintro (hc | hc)
    · exact q2 hc
    · omega
  · rintro (hc | hc)
    · exact q3 hc
    · omega
  · rintro (hc | hc)
    · exact q4 hc
    · omega

/-- behind a Set of the grid -/
theorem PInv.grid {w : World} {B5 B7 g k s : Nat} {t : Sq} {f f' : Nat → Int} {wr w2 : World} (h : PInv w B5 B7 g k s t f wr) (b : Below wr.heap.size wr w2) {g2 c2 : Nat} (hI : IntsAt w2 wr.heap.size g2 (s * s) f') :
    PInv w B5 B7 g k s t f' ((w2.setCell ⟨B7, 0, none⟩ (.int .i64 (s : Int))).setCell ⟨B7, 1, none⟩ (.slice (some ⟨g2, 0, none⟩) (s * s) c2)) := by
  have hl := h.later b
  have hs := b.size
  have h5 := h.b5
  have h7 := h.b7
  have hw := h.below.size
  have hg2 := hI.low
  have hg3 := hI.lt
  obtain ⟨F, q1, q2, q3, g', cap', q4, q5, q6, q7, q8, q9, q10⟩ := hl.quad
  obtain ⟨F0, q1', _⟩ := h.quad
  have hgw := q1'.lt
  have e : ∀ c i, c ≠ B7 → ((w2.setCell ⟨B7, 0, none⟩ (.int .i64 (s : Int))).setCell ⟨B7, 1, none⟩ (.slice (some ⟨g2, 0, none⟩) (s * s) c2)).cell? ⟨c, i, none⟩ = w2.cell? ⟨c, i, none⟩ := fun c i hc => by
    rw [World.cell?_setCell_other _ _ _ _ (by intro h; injection h with h; omega), World.cell?_setCell_other _ _ _ _ (by intro h; injection h with h; omega)]
  have ef : ∀ c i, ((w2.setCell ⟨B7, 0, none⟩ (.int .i64 (s : Int))).setCell ⟨B7, 1, none⟩ (.slice (some ⟨g2, 0, none⟩) (s * s) c2)).frozen? ⟨c, i, none⟩ = w2.frozen? ⟨c, i, none⟩ := fun c i => by simp
  obtain ⟨F, q1, q2, q3, _⟩ := h.quad
  have hsz : ((w2.setCell ⟨B7, 0, none⟩ (.int .i64 (s : Int))).setCell ⟨B7, 1, none⟩ (.slice (some ⟨g2, 0, none⟩) (s * s) c2)).heap.size = w2.heap.size := by simp
  have hFg : ¬ F g2 := fun hf => by have := (q1.bd _ hf).2; omega
  have hsq : SqAt w2 t g 1 F := (q1.below b).sq
  refine ⟨⟨F, ⟨q1.low, by omega, (e _ _ (Ne.symm h7.2.2.1)).trans (q1.below b).side, hsq.frame (by omega) (fun i _ => ⟨e _ _ (Ne.symm h7.2.2.1), ef _ _⟩) (fun c i hc => ⟨e _ _ (fun he => q3 (he ▸ hc)), ef _ _⟩), q1.out, fun c hc => by have := q1.bd c hc; omega⟩, q2, q3, g2, c2, hFg, by omega, by omega, by omega, ?_, ?_, ⟨by omega, by omega, fun j hj => (e _ _ (by omega)).trans (hI.cell j hj)⟩⟩,
    (ef _ _).trans hl.f70, (ef _ _).trans hl.f71, (e _ _ (Ne.symm h7.2.2.2)).trans hl.c50, (e _ _ (Ne.symm h7.2.2.2)).trans hl.c51, (ef _ _).trans hl.f50, (ef _ _).trans hl.f51, ⟨h5.1, by omega, h5.2.2⟩, ⟨h7.1, by omega, h7.2.2⟩,
    (hl.below.setCell (p := ⟨B7, 0, none⟩) h7.1 _).setCell (p := ⟨B7, 1, none⟩) h7.1 _, h.fits⟩
  · rw [World.cell?_setCell_other _ _ _ _ (by simp), World.cell?_setCell_same _ _ _ q8]
  · rw [World.cell?_setCell_same (u := .slice (some ⟨g', 0, none⟩) (s * s) cap')]
    rw [World.cell?_setCell_other _ _ _ _ (by simp)]
    exact q9

/-- at the end: the grid is copied into the result's cell -/
theorem PInv.fin {w : World} {B5 B7 g k s : Nat} {t : Sq} {f : Nat → Int} {wr : World} (h : PInv w B5 B7 g k s t f wr) (u v : Value) :
    QuadAt ((wr.setCell ⟨B5, 0, none⟩ u).setCell ⟨B5, 1, none⟩ v).drew w.heap.size g (sd k) t ∧
    (∀ g' , g' ≠ B5 → ∀ f', IntsAt wr w.heap.size g' (s * s) f' → IntsAt ((wr.setCell ⟨B5, 0, none⟩ u).setCell ⟨B5, 1, none⟩ v).drew w.heap.size g' (s * s) f') ∧
    Below w.heap.size w ((wr.setCell ⟨B5, 0, none⟩ u).setCell ⟨B5, 1, none⟩ v).drew := by
  have h5 := h.b5
  obtain ⟨F, q1, q2, _⟩ := h.quad
  have e : ∀ c i, c ≠ B5 → ((wr.setCell ⟨B5, 0, none⟩ u).setCell ⟨B5, 1, none⟩ v).drew.cell? ⟨c, i, none⟩ = wr.cell? ⟨c, i, none⟩ := fun c i hc => by
    rw [World.cell?_drew, World.cell?_setCell_other _ _ _ _ (by intro h; injection h with h; omega), World.cell?_setCell_other _ _ _ _ (by intro h; injection h with h; omega)]
  have ef : ∀ c i, ((wr.setCell ⟨B5, 0, none⟩ u).setCell ⟨B5, 1, none⟩ v).drew.frozen? ⟨c, i, none⟩ = wr.frozen? ⟨c, i, none⟩ := fun c i => by rw [World.frozen?_drew]; simp
  have hsz : ((wr.setCell ⟨B5, 0, none⟩ u).setCell ⟨B5, 1, none⟩ v).drew.heap.size = wr.heap.size := by simp
  have hg := q1.lt
  refine ⟨⟨q1.low, by omega, (e _ _ (Ne.symm h5.2.2)).trans q1.side, F, q1.sq.frame (by omega) (fun i _ => ⟨e _ _ (Ne.symm h5.2.2), ef _ _⟩) (fun c i hc => ⟨e _ _ (fun he => q2 (he ▸ hc)), ef _ _⟩), q1.out, fun c hc => by have := q1.bd c hc; omega⟩, fun g' hg' f' hI => ⟨hI.low, by have := hI.lt; omega, fun j hj => (e _ _ hg').trans (hI.cell j hj)⟩,
    ((h.below.setCell (p := ⟨B5, 0, none⟩) h5.1 _).setCell (p := ⟨B5, 1, none⟩) h5.1 _).drew⟩
end Go.Proofs.Ytdpdkjpkehgdnaa
