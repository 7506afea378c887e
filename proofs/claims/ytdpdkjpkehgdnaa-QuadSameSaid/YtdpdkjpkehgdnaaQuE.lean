/-
  Package quad: a square's quarters are set, one after the other.
-/
import Derived.Test.YtdpdkjpkehgdnaaQuD
import Derived.Test.YtdpdkjpkehgdnaaRectQ
namespace Go.Proofs.Ytdpdkjpkehgdnaa
open Go.RowKit

theorem kids_step {wr w1 : World} {U : Nat → Sq} {K i : Nat} {G : Nat → Nat → Prop} {t' : Sq} (hk : KidsAt wr U K G) (hd : ∀ i j c, i < 4 → j < 4 → i ≠ j → G i c → G j c → False)
    (hb : ∀ i c, i < 4 → G i c → c < wr.heap.size ∧ c ≠ K) (hi : i < 4) (hK : K < wr.heap.size) (k : Kept K (i * 2) (G i) wr w1) (hn : SqAt w1 t' K (i * 2) (grow (G i) wr w1)) :
    KidsAt w1 (fun j => if j = i then t' else U j) K (fun j => if j = i then grow (G i) wr w1 else G j) ∧
    (∀ a j c, a < 4 → j < 4 → a ≠ j → (if a = i then grow (G i) wr w1 else G a) c → (if j = i then grow (G i) wr w1 else G j) c → False) ∧
    (∀ a c, a < 4 → (if a = i then grow (G i) wr w1 else G a) c → c < w1.heap.size ∧ c ≠ K ∧ (G a c ∨ wr.heap.size ≤ c)) := by
  have hs := k.size
  refine ⟨fun j hj => ?_, fun a j c ha hj hne h1 h2 => ?_, fun a c ha h1 => ?_⟩
  · by_cases e : j = i
    · subst e
      simpa using hn
    · simp only [if_neg e]
      refine (hk j hj).kept k (by omega) (fun c hc => ⟨(hb j c hj hc).1, (hb j c hj hc).2, fun hc2 => hd j i c hj hi e hc hc2⟩)
  · by_cases e1 : a = i
    · by_cases e2 : j = i
      · exact hne (e1.trans e2.symm)
      · rw [if_pos e1] at h1
        rw [if_neg e2] at h2
        have := (hb j c hj h2).1
        rcases h1 with h1 | h1
        · exact hd i j c hi hj (Ne.symm e2) h1 h2
        · omega
    · by_cases e2 : j = i
      · rw [if_neg e1] at h1
        rw [if_pos e2] at h2
        have := (hb a c ha h1).1
        rcases h2 with h2 | h2
        · exact hd i a c hi ha (Ne.symm e1) h2 h1
        · omega
      · rw [if_neg e1] at h1
        rw [if_neg e2] at h2
        exact hd a j c ha hj hne h1 h2
  · by_cases e1 : a = i
    · rw [if_pos e1] at h1
      subst e1
      rcases h1 with h1 | h1
      · have := hb a c ha h1
        exact ⟨by omega, this.2, .inl h1⟩
      · exact ⟨h1.2, by omega, .inr h1.1⟩
    · rw [if_neg e1] at h1
      have := hb a c ha h1
      exact ⟨by omega, this.2, .inl h1⟩

/-- what holds before each quarter is set -/
structure SetInv (b o : Nat) (F : Nat → Prop) (w : World) (K M : Nat) (v0 rx ry rw rh : Int) (S Q : Nat → Sq) (i : Nat) (wr : World) : Prop where
  kids : ∃ G, KidsAt wr (fun j => if j < i then S j else Q j) K G ∧ (∀ i j c, i < 4 → j < 4 → i ≠ j → G i c → G j c → False) ∧ (∀ i c, i < 4 → G i c → c < wr.heap.size ∧ c ≠ K ∧ (F c ∨ M ≤ c))
  kp : wr.cell? ⟨b, o, none⟩ = some (.pointer (some ⟨K, 0, none⟩))
  kv : wr.cell? ⟨b, o + 1, none⟩ = some (.int .u8 v0)
  f0 : wr.frozen? ⟨b, o, none⟩ = false
  f1 : wr.frozen? ⟨b, o + 1, none⟩ = false
  keep : Kept b o F w wr
  size : M ≤ wr.heap.size
  own : F K ∨ w.heap.size + 2 ≤ K
  klt : K < M
  r0 : wr.cell? ⟨w.heap.size + 1, 0, none⟩ = some (.int .i64 rx)
  r1 : wr.cell? ⟨w.heap.size + 1, 1, none⟩ = some (.int .i64 ry)
  r2 : wr.cell? ⟨w.heap.size + 1, 2, none⟩ = some (.int .i64 rw)
  r3 : wr.cell? ⟨w.heap.size + 1, 3, none⟩ = some (.int .i64 rh)

theorem SetInv.below {b o : Nat} {F : Nat → Prop} {w : World} {K M : Nat} {v0 rx ry rw rh : Int} {S Q : Nat → Sq} {i : Nat} {wr w' : World} (h : SetInv b o F w K M v0 rx ry rw rh S Q i wr) (k : Below wr.heap.size wr w')
    (hb : b < w.heap.size) (hM : w.heap.size + 2 ≤ M) : SetInv b o F w K M v0 rx ry rw rh S Q i w' := by
  have hs := k.size
  have hk := h.keep.size
  have hm := h.size
  have hK := h.klt
  have e : ∀ c i, c < wr.heap.size → w'.cell? ⟨c, i, none⟩ = wr.cell? ⟨c, i, none⟩ := fun c i hc => (bcell k).1 c i hc
  have ef : ∀ c i, c < wr.heap.size → w'.frozen? ⟨c, i, none⟩ = wr.frozen? ⟨c, i, none⟩ := fun c i hc => (bcell k).2 c i hc
  obtain ⟨G, g1, g2, g3⟩ := h.kids
  exact ⟨⟨G, g1.below k (by omega) (fun i c hi hc => (g3 i c hi hc).1), g2, fun i c hi hc => by have := g3 i c hi hc; exact ⟨by omega, this.2⟩⟩,
    (e _ _ (by omega)).trans h.kp, (e _ _ (by omega)).trans h.kv, (ef _ _ (by omega)).trans h.f0, (ef _ _ (by omega)).trans h.f1, h.keep.trans (Kept.of_below k (by omega)), by omega, h.own, h.klt,
    (e _ _ (by omega)).trans h.r0, (e _ _ (by omega)).trans h.r1, (e _ _ (by omega)).trans h.r2, (e _ _ (by omega)).trans h.r3⟩

theorem SetInv.step {b o : Nat} {F : Nat → Prop} {w : World} {K M : Nat} {v0 rx ry rw rh : Int} {S Q : Nat → Sq} {i : Nat} {wr w1 : World} {G : Nat → Nat → Prop} (h : SetInv b o F w K M v0 rx ry rw rh S Q i wr)
    (g1 : KidsAt wr (fun j => if j < i then S j else Q j) K G) (g2 : ∀ i j c, i < 4 → j < 4 → i ≠ j → G i c → G j c → False) (g3 : ∀ i c, i < 4 → G i c → c < wr.heap.size ∧ c ≠ K ∧ (F c ∨ M ≤ c))
    (hb : b < w.heap.size) (hFb : ¬ F b) (hF : ∀ c, F c → c < w.heap.size) (hM : w.heap.size + 2 ≤ M) (hi : i < 4)
    (k : Kept K (i * 2) (G i) wr w1) (hn : SqAt w1 (S i) K (i * 2) (grow (G i) wr w1)) : SetInv b o F w K M v0 rx ry rw rh S Q (i + 1) w1 := by
  have hs := k.size
  have hk := h.keep.size
  have hm := h.size
  have hK := h.klt
  have hKb : b ≠ K := fun e => by
    rcases h.own with h1 | h1
    · exact hFb (e ▸ h1)
    · omega
  have hGb : ∀ c, c < M → ¬ F c → ¬ G i c := fun c hc hf hg => by
    rcases (g3 i c hi hg).2.2 with h1 | h1
    · exact hf h1
    · omega
  have bl : ∀ c, c < M → c ≠ K → ¬ F c → w1.heap[c]? = wr.heap[c]? := fun c hc hcK hf => k.block c (by omega) (hGb c hc hf) hcK
  have hB := bl b (by omega) hKb hFb
  have hR := bl (w.heap.size + 1) (by omega) (fun e => by rcases h.own with h1 | h1; · have := hF _ h1; omega
                                                          · omega) (fun hf => by have := hF _ hf; omega)
  obtain ⟨s1, s2, s3⟩ := kids_step g1 g2 (fun i c hi hc => ⟨(g3 i c hi hc).1, (g3 i c hi hc).2.1⟩) hi (by omega) k hn
  refine ⟨⟨_, ?_, s2, fun a c ha hc => ?_⟩, (cell_of_block hB _).trans h.kp, (cell_of_block hB _).trans h.kv, (frozen_of_block hB _).trans h.f0, (frozen_of_block hB _).trans h.f1,
    h.keep.inner k (fun x hx hg => (g3 i x hi hg).2.2.resolve_right (by omega)) (fun hKw => h.own.resolve_right (by omega)) hb hFb, by omega, h.own, h.klt,
    (cell_of_block hR _).trans h.r0, (cell_of_block hR _).trans h.r1, (cell_of_block hR _).trans h.r2, (cell_of_block hR _).trans h.r3⟩
  · have : (fun j => if j < i + 1 then S j else Q j) = (fun j => if j = i then S i else if j < i then S j else Q j) := by
      funext j
      by_cases e : j = i
      · subst e; simp
      · by_cases e2 : j < i
        · simp [e2, show j < i + 1 by omega]; intro h; exact absurd h e
        · simp [e, e2, show ¬ j < i + 1 by omega]
    rw [this]
    exact s1
  · obtain ⟨a1, a2, a3⟩ := s3 a c ha hc
    refine ⟨a1, a2, ?_⟩
    rcases a3 with a3 | a3
    · exact (g3 a c ha a3).2.2
    · exact .inr (by omega)
end Go.Proofs.Ytdpdkjpkehgdnaa
