/-
  A square of tiles as a tree; how it lies in memory; what keeps it as it lies. No condition.
-/
import Derived.Test.YtdpdkjpkehgdnaaBase
namespace Go.Proofs.Ytdpdkjpkehgdnaa
open Go.RowKit

inductive Sq where
  | leaf (v : Int)
  | node (a b c d : Sq)

/-- the square with the tree t lies at block b, cells o and o + 1; all that is below it lies in blocks of F -/
def SqAt (W : World) : Sq → Nat → Nat → (Nat → Prop) → Prop
  | .leaf v, b, o, _ => W.cell? ⟨b, o, none⟩ = some (.pointer none) ∧ W.cell? ⟨b, o + 1, none⟩ = some (.int .u8 v) ∧ W.frozen? ⟨b, o, none⟩ = false ∧ W.frozen? ⟨b, o + 1, none⟩ = false ∧ 0 ≤ v ∧ v ≤ 255
  | .node t0 t1 t2 t3, b, o, F => ∃ (K : Nat) (v : Int) (G : Nat → Nat → Prop),
      W.cell? ⟨b, o, none⟩ = some (.pointer (some ⟨K, 0, none⟩)) ∧ W.cell? ⟨b, o + 1, none⟩ = some (.int .u8 v) ∧ W.frozen? ⟨b, o, none⟩ = false ∧ W.frozen? ⟨b, o + 1, none⟩ = false ∧
      F K ∧ K < W.heap.size ∧ (∀ i j c, i < 4 → j < 4 → i ≠ j → G i c → G j c → False) ∧ (∀ i c, i < 4 → G i c → F c ∧ c ≠ K) ∧
      SqAt W t0 K 0 (G 0) ∧ SqAt W t1 K 2 (G 1) ∧ SqAt W t2 K 4 (G 2) ∧ SqAt W t3 K 6 (G 3)

theorem SqAt.mono {W : World} : ∀ {t : Sq} {b o : Nat} {F F' : Nat → Prop}, SqAt W t b o F → (∀ c, F c → F' c) → SqAt W t b o F'
  | .leaf _, _, _, _, _, h, _ => h
  | .node .., _, _, _, _, ⟨K, v, G, h1, h2, h3, h4, h5, h6, h7, h8, h9⟩, hF => ⟨K, v, G, h1, h2, h3, h4, hF _ h5, h6, h7, fun i c hi hg => ⟨hF _ (h8 i c hi hg).1, (h8 i c hi hg).2⟩, h9⟩

theorem SqAt.frame {W W' : World} (hs : W.heap.size ≤ W'.heap.size) : ∀ {t : Sq} {b o : Nat} {F : Nat → Prop}, SqAt W t b o F →
    (∀ i, i = o ∨ i = o + 1 → W'.cell? ⟨b, i, none⟩ = W.cell? ⟨b, i, none⟩ ∧ W'.frozen? ⟨b, i, none⟩ = W.frozen? ⟨b, i, none⟩) →
    (∀ c i, F c → W'.cell? ⟨c, i, none⟩ = W.cell? ⟨c, i, none⟩ ∧ W'.frozen? ⟨c, i, none⟩ = W.frozen? ⟨c, i, none⟩) → SqAt W' t b o F
  | .leaf _, _, _, _, ⟨h1, h2, h3, h4, h5⟩, hb, _ =>
    ⟨(hb _ (.inl rfl)).1.trans h1, (hb _ (.inr rfl)).1.trans h2, (hb _ (.inl rfl)).2.trans h3, (hb _ (.inr rfl)).2.trans h4, h5⟩
  | .node .., _, _, _, ⟨K, v, G, h1, h2, h3, h4, h5, h6, h7, h8, k0, k1, k2, k3⟩, hb, hF =>
    have hG : ∀ j c i, j < 4 → G j c → W'.cell? ⟨c, i, none⟩ = W.cell? ⟨c, i, none⟩ ∧ W'.frozen? ⟨c, i, none⟩ = W.frozen? ⟨c, i, none⟩ := fun j c i hj hg => hF c i (h8 j c hj hg).1
    ⟨K, v, G, (hb _ (.inl rfl)).1.trans h1, (hb _ (.inr rfl)).1.trans h2, (hb _ (.inl rfl)).2.trans h3, (hb _ (.inr rfl)).2.trans h4, h5, Nat.lt_of_lt_of_le h6 hs, h7, h8,
      k0.frame hs (fun i _ => hF K i h5) fun c i hc => hG 0 c i (by decide) hc,
      k1.frame hs (fun i _ => hF K i h5) fun c i hc => hG 1 c i (by decide) hc,
      k2.frame hs (fun i _ => hF K i h5) fun c i hc => hG 2 c i (by decide) hc,
      k3.frame hs (fun i _ => hF K i h5) fun c i hc => hG 3 c i (by decide) hc⟩

/-- the four quarters -/
def KidsAt (W : World) (U : Nat → Sq) (K : Nat) (G : Nat → Nat → Prop) : Prop := ∀ j, j < 4 → SqAt W (U j) K (j * 2) (G j)

theorem SqAt.below {W W' : World} {t : Sq} {b o : Nat} {F : Nat → Prop} (h : SqAt W t b o F) (k : Below W.heap.size W W') (hb : b < W.heap.size) (hF : ∀ c, F c → c < W.heap.size) : SqAt W' t b o F :=
  h.frame k.size (fun _ _ => ⟨(bcell k).1 _ _ hb, (bcell k).2 _ _ hb⟩) fun c _ hc => ⟨(bcell k).1 _ _ (hF c hc), (bcell k).2 _ _ (hF c hc)⟩

/-- nothing but the cells o, o + 1 of block b and the blocks of F has changed -/
structure Kept (b o : Nat) (F : Nat → Prop) (W W' : World) : Prop where
  os : W'.os = W.os
  tape : W'.tape = W.tape
  output : W'.output = W.output
  size : W.heap.size ≤ W'.heap.size
  block : ∀ c, c < W.heap.size → ¬ F c → c ≠ b → W'.heap[c]? = W.heap[c]?
  cell : ∀ i, i ≠ o → i ≠ o + 1 → W'.cell? ⟨b, i, none⟩ = W.cell? ⟨b, i, none⟩
  frozen : ∀ i, W'.frozen? ⟨b, i, none⟩ = W.frozen? ⟨b, i, none⟩

theorem frozen_of_block {W W' : World} {c : Nat} (h : W'.heap[c]? = W.heap[c]?) (i : Nat) : W'.frozen? ⟨c, i, none⟩ = W.frozen? ⟨c, i, none⟩ := by
  simp [World.frozen?, h]
theorem cell_of_block {W W' : World} {c : Nat} (h : W'.heap[c]? = W.heap[c]?) (i : Nat) : W'.cell? ⟨c, i, none⟩ = W.cell? ⟨c, i, none⟩ := World.cell?_of_block (a := ⟨c, i, none⟩) h

theorem Kept.refl (b o : Nat) (F : Nat → Prop) (W : World) : Kept b o F W W := ⟨rfl, rfl, rfl, Nat.le_refl _, fun _ _ _ _ => rfl, fun _ _ _ => rfl, fun _ => rfl⟩
theorem Kept.trans {b o : Nat} {F : Nat → Prop} {a c d : World} (h : Kept b o F a c) (k : Kept b o F c d) : Kept b o F a d :=
  ⟨k.os.trans h.os, k.tape.trans h.tape, k.output.trans h.output, Nat.le_trans h.size k.size, fun x hx hf hb => (k.block x (Nat.lt_of_lt_of_le hx h.size) hf hb).trans (h.block x hx hf hb),
    fun i h1 h2 => (k.cell i h1 h2).trans (h.cell i h1 h2), fun i => (k.frozen i).trans (h.frozen i)⟩
theorem Kept.of_below {b o : Nat} {F : Nat → Prop} {W W' : World} (h : Below W.heap.size W W') (hb : b < W.heap.size) : Kept b o F W W' :=
  ⟨h.os, h.tape, h.output, h.size, fun c hc _ _ => h.block c hc, fun _ _ _ => (bcell h).1 _ _ hb, fun _ => (bcell h).2 _ _ hb⟩
theorem Kept.set {b o : Nat} {F : Nat → Prop} (W : World) (i : Nat) (v : Value) (hi : i = o ∨ i = o + 1) : Kept b o F W (W.setCell ⟨b, i, none⟩ v) :=
  ⟨rfl, rfl, rfl, by simp, fun c _ _ hc => Below.heap_setCell W _ v c hc, fun j h1 h2 => World.cell?_setCell_other _ _ _ _ (by intro h; injection h with _ h; omega), fun j => by simp⟩
theorem Kept.to_below {b o N : Nat} {F : Nat → Prop} {W W' : World} (h : Kept b o F W W') (hb : N ≤ b) (hF : ∀ c, F c → N ≤ c) (hN : N ≤ W.heap.size) : Below N W W' :=
  ⟨h.os, h.tape, h.output, h.size, fun k hk => h.block k (by omega) (fun hf => absurd (hF k hf) (by omega)) (by omega)⟩
/-- work on a square further down -/
theorem Kept.inner {b o K p : Nat} {F G : Nat → Prop} {W A C : World} (h : Kept b o F W A) (k : Kept K p G A C) (hG : ∀ x, x < W.heap.size → G x → F x) (hK : K < W.heap.size → F K) (hb : b < W.heap.size) (hFb : ¬ F b) : Kept b o F W C :=
  have hbk : C.heap[b]? = A.heap[b]? := k.block b (Nat.lt_of_lt_of_le hb h.size) (fun g => hFb (hG b hb g)) (fun e => hFb (e ▸ hK (e ▸ hb)))
  ⟨k.os.trans h.os, k.tape.trans h.tape, k.output.trans h.output, Nat.le_trans h.size k.size,
    fun c hc hf hcb => (k.block c (Nat.lt_of_lt_of_le hc h.size) (fun g => hf (hG c hc g)) (fun e => hf (e ▸ hK (e ▸ hc)))).trans (h.block c hc hf hcb),
    fun i h1 h2 => (cell_of_block hbk i).trans (h.cell i h1 h2), fun i => (frozen_of_block hbk i).trans (h.frozen i)⟩
theorem Kept.mono {b o : Nat} {F F' : Nat → Prop} {W W' : World} (h : Kept b o F W W') (hF : ∀ c, c < W.heap.size → F c → F' c) : Kept b o F' W W' :=
  ⟨h.os, h.tape, h.output, h.size, fun c hc hf hb => h.block c hc (fun g => hf (hF c hc g)) hb, h.cell, h.frozen⟩

/-- the blocks of a square that has been worked on -/
def grow (F : Nat → Prop) (W W' : World) : Nat → Prop := fun c => F c ∨ (W.heap.size ≤ c ∧ c < W'.heap.size)

/-- another square of the same block, or elsewhere, lies as it lay -/
theorem SqAt.kept {W W' : World} {t : Sq} {b o p : Nat} {F G : Nat → Prop} (h : SqAt W t b o F) (k : Kept b p G W W') (ho : o ≠ p ∧ o ≠ p + 1 ∧ o + 1 ≠ p) (hF : ∀ c, F c → c < W.heap.size ∧ c ≠ b ∧ ¬ G c) : SqAt W' t b o F :=
  h.frame k.size (fun i hi => ⟨k.cell i (by omega) (by omega), k.frozen i⟩)
    fun c i hc => have hb := k.block c (hF c hc).1 (hF c hc).2.2 (hF c hc).2.1; ⟨cell_of_block hb i, frozen_of_block hb i⟩
theorem SqAt.apart {W W' : World} {t : Sq} {b o b' p : Nat} {F G : Nat → Prop} (h : SqAt W t b o F) (k : Kept b' p G W W') (hb : b < W.heap.size) (hbb : b ≠ b') (hbG : ¬ G b) (hF : ∀ c, F c → c < W.heap.size ∧ c ≠ b' ∧ ¬ G c) : SqAt W' t b o F :=
  have h0 := k.block b hb hbG hbb
  h.frame k.size (fun i _ => ⟨cell_of_block h0 i, frozen_of_block h0 i⟩)
    fun c i hc => have hb := k.block c (hF c hc).1 (hF c hc).2.2 (hF c hc).2.1; ⟨cell_of_block hb i, frozen_of_block hb i⟩

def kidOf (t0 t1 t2 t3 : Sq) : Nat → Sq
  | 0 => t0
  | 1 => t1
  | 2 => t2
  | _ => t3
theorem SqAt.kids {W : World} {t0 t1 t2 t3 : Sq} {b o : Nat} {F : Nat → Prop} (h : SqAt W (.node t0 t1 t2 t3) b o F) :
    ∃ (K : Nat) (v : Int) (G : Nat → Nat → Prop), (W.cell? ⟨b, o, none⟩ = some (.pointer (some ⟨K, 0, none⟩)) ∧ W.cell? ⟨b, o + 1, none⟩ = some (.int .u8 v) ∧ W.frozen? ⟨b, o, none⟩ = false ∧ W.frozen? ⟨b, o + 1, none⟩ = false) ∧
      F K ∧ K < W.heap.size ∧ (∀ i j c, i < 4 → j < 4 → i ≠ j → G i c → G j c → False) ∧ (∀ i c, i < 4 → G i c → F c ∧ c ≠ K) ∧ KidsAt W (kidOf t0 t1 t2 t3) K G := by
  obtain ⟨K, v, G, h1, h2, h3, h4, h5, h6, h7, h8, k0, k1, k2, k3⟩ := h
  refine ⟨K, v, G, ⟨h1, h2, h3, h4⟩, h5, h6, h7, h8, fun j hj => ?_⟩
  match j, hj with
  | 0, _ => exact k0
  | 1, _ => exact k1
  | 2, _ => exact k2
  | 3, _ => exact k3
theorem SqAt.of_kids {W : World} {U : Nat → Sq} {b o : Nat} {F : Nat → Prop} {K : Nat} {v : Int} {G : Nat → Nat → Prop}
    (h : W.cell? ⟨b, o, none⟩ = some (.pointer (some ⟨K, 0, none⟩)) ∧ W.cell? ⟨b, o + 1, none⟩ = some (.int .u8 v) ∧ W.frozen? ⟨b, o, none⟩ = false ∧ W.frozen? ⟨b, o + 1, none⟩ = false) (hK : F K) (hK2 : K < W.heap.size)
    (h1 : ∀ i j c, i < 4 → j < 4 → i ≠ j → G i c → G j c → False) (h2 : ∀ i c, i < 4 → G i c → F c ∧ c ≠ K) (hk : KidsAt W U K G) : SqAt W (.node (U 0) (U 1) (U 2) (U 3)) b o F :=
  ⟨K, v, G, h.1, h.2.1, h.2.2.1, h.2.2.2, hK, hK2, h1, h2, hk 0 (by decide), hk 1 (by decide), hk 2 (by decide), hk 3 (by decide)⟩
theorem KidsAt.below {W W' : World} {U : Nat → Sq} {K : Nat} {G : Nat → Nat → Prop} (h : KidsAt W U K G) (k : Below W.heap.size W W') (hK : K < W.heap.size) (hG : ∀ i c, i < 4 → G i c → c < W.heap.size) : KidsAt W' U K G :=
  fun j hj => (h j hj).below k hK (fun c hc => hG j c hj hc)
def nodesTo (f : Nat → Nat) : Nat → Nat
  | 0 => 1
  | i + 1 => nodesTo f i + f i

def Sq.depth : Sq → Nat
  | .leaf _ => 0
  | .node a b c d => 1 + max (max a.depth b.depth) (max c.depth d.depth)
/-- no square is parted below one tile -/
def Sq.fits : Sq → Nat → Prop
  | .leaf _, _ => True
  | .node a b c d, k => ∃ k', k = k' + 1 ∧ a.fits k' ∧ b.fits k' ∧ c.fits k' ∧ d.fits k'
def Sq.nodes : Sq → Nat
  | .leaf _ => 1
  | .node a b c d => 1 + a.nodes + b.nodes + c.nodes + d.nodes
end Go.Proofs.Ytdpdkjpkehgdnaa
