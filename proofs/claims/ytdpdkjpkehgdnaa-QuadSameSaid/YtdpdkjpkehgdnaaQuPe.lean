/-
  Package quad: what holds before each quarter is parsed.
-/
import Derived.Test.YtdpdkjpkehgdnaaQuPc
namespace Go.Proofs.Ytdpdkjpkehgdnaa
open Go.RowKit

structure ParAt (w : World) (k N : Nat) (l : List UInt8) (U : Nat → Sq) (G : Nat → Nat → Prop) (r : List UInt8) (i : Nat) (v : Value) (wr : World) : Prop where
  kids : KidsTo (w.heap.size + 1) U G i wr
  fit : ∀ j, j < i → (U j).fits k ∧ canon (U j)
  eq : l = bytesTo (fun j => bytesT (U j)) i ++ r
  rest : BAt wr N v r
  c0 : wr.cell? ⟨w.heap.size, 0, none⟩ = some (.pointer none)
  c1 : wr.cell? ⟨w.heap.size, 1, none⟩ = some (.int .u8 0)
  f0 : wr.frozen? ⟨w.heap.size, 0, none⟩ = false
  f1 : wr.frozen? ⟨w.heap.size, 1, none⟩ = false
  s0 : wr.cell? ⟨w.heap.size + 1 + 1, 0, none⟩ = some (.pointer (some ⟨w.heap.size + 1, 0, none⟩))
  s1 : wr.cell? ⟨w.heap.size + 1 + 1, 1, none⟩ = some (.int .u8 0)
  size : w.heap.size + 3 ≤ wr.heap.size
  below : Below w.heap.size w wr
theorem ParAt.ok {w : World} {k N : Nat} {l : List UInt8} {U : Nat → Sq} {G : Nat → Nat → Prop} {r : List UInt8} {i : Nat} {v : Value} {wr : World} (h : ParAt w k N l U G r i v wr) : ∀ j, j < i → okS (U j) :=
  fun j hj => (h.kids.kids j hj).ok
theorem ParAt.later {w : World} {k N : Nat} {l : List UInt8} {U : Nat → Sq} {G : Nat → Nat → Prop} {r : List UInt8} {i : Nat} {v : Value} {wr w' : World} (h : ParAt w k N l U G r i v wr) (b : Below wr.heap.size wr w') (hN : N ≤ w.heap.size) : ParAt w k N l U G r i v w' := by
  have hs := h.size
  have e : ∀ c o, c < w.heap.size + 3 → w'.cell? ⟨c, o, none⟩ = wr.cell? ⟨c, o, none⟩ := fun c o hc => (bcell b).1 _ _ (by omega)
  have ef : ∀ c o, c < w.heap.size + 3 → w'.frozen? ⟨c, o, none⟩ = wr.frozen? ⟨c, o, none⟩ := fun c o hc => (bcell b).2 _ _ (by omega)
  exact ⟨h.kids.below b, h.fit, h.eq, h.rest.below (b.mono (by omega)), (e _ _ (by omega)).trans h.c0, (e _ _ (by omega)).trans h.c1, (ef _ _ (by omega)).trans h.f0, (ef _ _ (by omega)).trans h.f1,
    (e _ _ (by omega)).trans h.s0, (e _ _ (by omega)).trans h.s1, Nat.le_trans hs b.size, h.below.trans (b.mono (by omega))⟩
theorem ParAt.step {w : World} {k N : Nat} {l : List UInt8} {U : Nat → Sq} {G : Nat → Nat → Prop} {r r2 : List UInt8} {i : Nat} {v v2 : Value} {wr w1 : World} {t : Sq} {q : Option Addr} {z : Int} (h : ParAt w k N l U G r i v wr) (hN : N ≤ w.heap.size) (hi : i < 4) (b : Below wr.heap.size wr w1)
    (hf : Front k r t r2) (hv : SqVal w1 t q z fun c => wr.heap.size ≤ c ∧ c < w1.heap.size) (hr : BAt w1 N v2 r2) :
    ParAt w k N l (fun j => if j = i then t else U j) (fun j => if j = i then fun c => wr.heap.size ≤ c ∧ c < w1.heap.size else G j) r2 (i + 1) v2 ((w1.setCell ⟨w.heap.size + 1, i * 2, none⟩ (.pointer q)).setCell ⟨w.heap.size + 1, i * 2 + 1, none⟩ (.int .u8 z)) := by
  have hs := h.size
  have h1 := h.later b hN
  have hK := h.kids.lt
  obtain ⟨n1, n2⟩ := h.kids.step hi b hv
  obtain ⟨w2, hw2⟩ : ∃ w2, w2 = (w1.setCell ⟨w.heap.size + 1, i * 2, none⟩ (.pointer q)).setCell ⟨w.heap.size + 1, i * 2 + 1, none⟩ (.int .u8 z) := ⟨_, rfl⟩
  rw [← hw2] at n1 n2 ⊢
  have bl : ∀ c, c ≠ w.heap.size + 1 → w2.heap[c]? = w1.heap[c]? := fun c hc => by
    rw [hw2]
    exact (Below.heap_setCell _ _ _ _ hc).trans (Below.heap_setCell _ _ _ _ hc)
  have hB : Below (w.heap.size + 1) w1 w2 := by
    rw [hw2]
    exact ((Below.refl _ _).setCell (p := ⟨w.heap.size + 1, i * 2, none⟩) (Nat.le_refl _) _).setCell (p := ⟨w.heap.size + 1, i * 2 + 1, none⟩) (Nat.le_refl _) _
  refine ⟨n1, fun j hj => ?_, ?_, hr.below (hB.mono (by omega)), (cell_of_block (bl _ (by omega)) _).trans h1.c0, (cell_of_block (bl _ (by omega)) _).trans h1.c1, (frozen_of_block (bl _ (by omega)) _).trans h1.f0, (frozen_of_block (bl _ (by omega)) _).trans h1.f1,
    (cell_of_block (bl _ (by omega)) _).trans h1.s0, (cell_of_block (bl _ (by omega)) _).trans h1.s1, ?_, h1.below.trans (hB.mono (by omega))⟩
  · by_cases e : j = i
    · simp only [if_pos e]
      exact ⟨hf.fits, hf.can⟩
    · simp only [if_neg e]
      exact h.fit j (by omega)
  · rw [h.eq, hf.eq]
    have : bytesTo (fun j => bytesT (if j = i then t else U j)) i = bytesTo (fun j => bytesT (U j)) i := bytesTo_lt fun j hj => by
      rw [if_neg (by omega)]
    rw [bytesTo, this, List.append_assoc]
    simp
  · have := hB.size
    have := b.size
    omega
end Go.Proofs.Ytdpdkjpkehgdnaa
