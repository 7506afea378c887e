/-
  Package quad: bytes that are cut; a square as a value; what holds before each quarter is parsed.
-/
import Derived.Test.YtdpdkjpkehgdnaaQuPv
import Derived.Test.YtdpdkjpkehgdnaaQuBt
import Derived.Deep.Slices
namespace Go.Proofs.Ytdpdkjpkehgdnaa
open Go.RowKit

/-- a slice of bytes, in a block below N -/
def BAt (w : World) (N : Nat) (v : Value) (l : List UInt8) : Prop :=
  (v = .slice none 0 0 ∧ l = []) ∨ ∃ A cap, v = .slice (some A) l.length cap ∧ l.length ≤ cap ∧ (l ≠ [] → A.block < N) ∧ ∀ j u, (cellsB l)[j]? = some u → w.cell? (A.add j) = some u
theorem BAt.below {w w' : World} {N : Nat} {v : Value} {l : List UInt8} (h : BAt w N v l) (k : Below N w w') : BAt w' N v l := by
  rcases h with h | ⟨A, cap, h1, h2, h3, h4⟩
  · exact .inl h
  · exact .inr ⟨A, cap, h1, h2, h3, fun j u hj => (k.cell (p := A.add j) (by rw [block_add]; exact h3 (fun e => by rw [e] at hj; simp [cellsB] at hj))).trans (h4 j u hj)⟩
theorem BAt.cut {w : World} {N T cap : Nat} {A : Addr} {l : List UInt8} (h : BAt w N (.slice (some A) l.length cap) l) (hT : T ≤ l.length) : BAt w N (.slice (if cap = T then some A else some (A.add T)) (l.length - T) (cap - T)) (l.drop T) := by
  rcases h with ⟨h, _⟩ | ⟨A', cap', h1, h2, h3, h4⟩
  · cases h
  · cases h1
    have hl : l.length - T = (l.drop T).length := by simp
    rw [hl]
    by_cases hc : cap = T
    · rw [if_pos hc]
      refine .inr ⟨A, _, rfl, by simp; omega, fun hne => h3 (fun e => hne (by rw [e]; simp)), fun j u hj => ?_⟩
      have : (l.drop T) = [] := List.drop_eq_nil_of_le (by omega)
      rw [this] at hj
      simp [cellsB] at hj
    · rw [if_neg hc]
      refine .inr ⟨A.add T, _, rfl, by simp; omega, fun hne => by rw [block_add]; exact h3 (fun e => hne (by rw [e]; simp)), fun j u hj => ?_⟩
      rw [Deep.add_add]
      refine h4 (T + j) u ?_
      unfold cellsB at hj ⊢
      rw [List.map_drop, List.getElem?_drop] at hj
      exact hj
theorem BAt.get {w : World} {N cap : Nat} {A : Addr} {l : List UInt8} (h : BAt w N (.slice (some A) l.length cap) l) {j : Nat} {b : UInt8} (hj : l[j]? = some b) : w.cell? (A.add j) = some (.int .u8 (b.toNat : Int)) := by
  rcases h with ⟨h, _⟩ | ⟨A', cap', h1, h2, h3, h4⟩
  · cases h
  · cases h1
    exact h4 j _ (by simp [cellsB, hj])

/-- a square as a value: whoever stores it has the tree -/
def SqVal (W : World) (t : Sq) (q : Option Addr) (z : Int) (F : Nat → Prop) : Prop :=
  ∀ (W' : World) (b o : Nat), W.heap.size ≤ W'.heap.size → (∀ c i, F c → W'.cell? ⟨c, i, none⟩ = W.cell? ⟨c, i, none⟩ ∧ W'.frozen? ⟨c, i, none⟩ = W.frozen? ⟨c, i, none⟩) →
    W'.cell? ⟨b, o, none⟩ = some (.pointer q) → W'.cell? ⟨b, o + 1, none⟩ = some (.int .u8 z) → W'.frozen? ⟨b, o, none⟩ = false → W'.frozen? ⟨b, o + 1, none⟩ = false → SqAt W' t b o F
theorem SqVal.leaf (W : World) (z : Int) (F : Nat → Prop) (h : 0 ≤ z ∧ z ≤ 255) : SqVal W (.leaf z) none z F :=
  fun _ _ _ _ _ h1 h2 h3 h4 => ⟨h1, h2, h3, h4, h.1, h.2⟩
theorem SqVal.mono {W : World} {t : Sq} {q : Option Addr} {z : Int} {F F' : Nat → Prop} (h : SqVal W t q z F) (hF : ∀ c, F c → F' c) : SqVal W t q z F' :=
  fun W' b o hs hk h1 h2 h3 h4 => (h W' b o hs (fun c i hc => hk c i (hF c hc)) h1 h2 h3 h4).mono hF
theorem SqVal.frame {W W1 : World} {t : Sq} {q : Option Addr} {z : Int} {F : Nat → Prop} (h : SqVal W t q z F) (hs : W.heap.size ≤ W1.heap.size) (hk : ∀ c i, F c → W1.cell? ⟨c, i, none⟩ = W.cell? ⟨c, i, none⟩ ∧ W1.frozen? ⟨c, i, none⟩ = W.frozen? ⟨c, i, none⟩) : SqVal W1 t q z F :=
  fun W' b o hs' hk' => h W' b o (Nat.le_trans hs hs') fun c i hc => ⟨(hk' c i hc).1.trans (hk c i hc).1, (hk' c i hc).2.trans (hk c i hc).2⟩
theorem SqVal.below {W W1 : World} {t : Sq} {q : Option Addr} {z : Int} {F : Nat → Prop} (h : SqVal W t q z F) (k : Below W.heap.size W W1) (hF : ∀ c, F c → c < W.heap.size) : SqVal W1 t q z F :=
  h.frame k.size fun c _ hc => ⟨(bcell k).1 _ _ (hF c hc), (bcell k).2 _ _ (hF c hc)⟩
theorem SqVal.node {W : World} {U : Nat → Sq} {K : Nat} {z : Int} {F : Nat → Prop} {G : Nat → Nat → Prop} (hK : F K) (hKs : K < W.heap.size)
    (h1 : ∀ i j c, i < 4 → j < 4 → i ≠ j → G i c → G j c → False) (h2 : ∀ i c, i < 4 → G i c → F c ∧ c ≠ K) (hk : KidsAt W U K G) : SqVal W (.node (U 0) (U 1) (U 2) (U 3)) (some ⟨K, 0, none⟩) z F :=
  fun _ _ _ hs hf g1 g2 g3 g4 => SqAt.of_kids ⟨g1, g2, g3, g4⟩ hK (by omega) h1 h2 fun j hj => (hk j hj).frame hs (fun i _ => hf K i hK) fun c i hc => hf c i (h2 j c hj hc).1
theorem SqAt.val {W : World} {t : Sq} {b o : Nat} {F : Nat → Prop} {q : Option Addr} {z : Int} (h : SqAt W t b o F) (h1 : W.cell? ⟨b, o, none⟩ = some (.pointer q)) (h2 : W.cell? ⟨b, o + 1, none⟩ = some (.int .u8 z)) : SqVal W t q z F := by
  cases t with
  | leaf v =>
    obtain ⟨e1, e2, _, _, e5⟩ := h
    rw [e1] at h1
    rw [e2] at h2
    cases h1
    cases h2
    exact SqVal.leaf _ _ _ e5
  | node a b' c d =>
    obtain ⟨K, v, G, ⟨e1, e2, _, _⟩, hFK, hKl, hd, hG, hk⟩ := h.kids
    rw [e1] at h1
    rw [e2] at h2
    cases h1
    cases h2
    exact SqVal.node hFK hKl hd hG hk

theorem oneB_lt {U V : Nat → Sq} : ∀ {i : Nat}, (∀ j, j < i → U j = V j) → oneB U i = oneB V i
  | 0, _ => rfl
  | i + 1, h => by
    rw [oneB, oneB, oneB_lt (fun j hj => h j (by omega)), h i (by omega), h 0 (by omega)]
theorem bytesTo_lt {f g : Nat → List UInt8} : ∀ {i : Nat}, (∀ j, j < i → f j = g j) → bytesTo f i = bytesTo g i
  | 0, _ => rfl
  | i + 1, h => by rw [bytesTo, bytesTo, bytesTo_lt (fun j hj => h j (by omega)), h i (by omega)]

/-- i quarters lie in the block K, and in blocks of their own -/
structure KidsTo (K : Nat) (U : Nat → Sq) (G : Nat → Nat → Prop) (i : Nat) (wr : World) : Prop where
  kids : ∀ j, j < i → SqAt wr (U j) K (j * 2) (G j)
  apart : ∀ a j c, a < i → j < i → a ≠ j → G a c → G j c → False
  own : ∀ j c, j < i → G j c → K < c ∧ c < wr.heap.size
  cells : ∀ o, o < 8 → (∃ u, wr.cell? ⟨K, o, none⟩ = some u) ∧ wr.frozen? ⟨K, o, none⟩ = false
  lt : K < wr.heap.size
theorem KidsTo.below {K : Nat} {U : Nat → Sq} {G : Nat → Nat → Prop} {i : Nat} {wr w' : World} (h : KidsTo K U G i wr) (k : Below wr.heap.size wr w') : KidsTo K U G i w' := by
  have hs := k.size
  have hK := h.lt
  exact ⟨fun j hj => (h.kids j hj).below k hK fun c hc => (h.own j c hj hc).2, h.apart, fun j c hj hc => ⟨(h.own j c hj hc).1, Nat.lt_of_lt_of_le (h.own j c hj hc).2 hs⟩,
    fun o ho => ⟨by rw [(bcell k).1 _ _ hK]; exact (h.cells o ho).1, by rw [(bcell k).2 _ _ hK]; exact (h.cells o ho).2⟩, by omega⟩
theorem KidsTo.step {K : Nat} {U : Nat → Sq} {G : Nat → Nat → Prop} {i : Nat} {wr w1 : World} {t : Sq} {q : Option Addr} {z : Int} (h : KidsTo K U G i wr) (hi : i < 4) (k : Below wr.heap.size wr w1)
    (hv : SqVal w1 t q z fun c => wr.heap.size ≤ c ∧ c < w1.heap.size) :
    KidsTo K (fun j => if j = i then t else U j) (fun j => if j = i then fun c => wr.heap.size ≤ c ∧ c < w1.heap.size else G j) (i + 1) ((w1.setCell ⟨K, i * 2, none⟩ (.pointer q)).setCell ⟨K, i * 2 + 1, none⟩ (.int .u8 z)) ∧
    SqAt ((w1.setCell ⟨K, i * 2, none⟩ (.pointer q)).setCell ⟨K, i * 2 + 1, none⟩ (.int .u8 z)) t K (i * 2) fun c => wr.heap.size ≤ c ∧ c < w1.heap.size := by
  have hs := k.size
  have hK := h.lt
  have h1 := h.below k
  obtain ⟨⟨u0, c0⟩, f0⟩ := h1.cells (i * 2) (by omega)
  obtain ⟨⟨u1, c1⟩, f1⟩ := h1.cells (i * 2 + 1) (by omega)
  obtain ⟨w2, hw2⟩ : ∃ w2, w2 = (w1.setCell ⟨K, i * 2, none⟩ (.pointer q)).setCell ⟨K, i * 2 + 1, none⟩ (.int .u8 z) := ⟨_, rfl⟩
  rw [← hw2]
  have hsz : w2.heap.size = w1.heap.size := by rw [hw2]; simp
  have d0 : w2.cell? ⟨K, i * 2, none⟩ = some (.pointer q) := by
    rw [hw2, World.cell?_setCell_other _ _ _ _ (by simp)]
    exact World.cell?_setCell_same _ _ _ c0
  have d1 : w2.cell? ⟨K, i * 2 + 1, none⟩ = some (.int .u8 z) := by
    rw [hw2]
    exact World.cell?_setCell_same (u := u1) _ _ _ (by rw [World.cell?_setCell_other _ _ _ _ (by simp)]; exact c1)
  have fr : ∀ o, w2.frozen? ⟨K, o, none⟩ = w1.frozen? ⟨K, o, none⟩ := fun o => by rw [hw2]; simp
  have oth : ∀ c o, c ≠ K → w2.cell? ⟨c, o, none⟩ = w1.cell? ⟨c, o, none⟩ ∧ w2.frozen? ⟨c, o, none⟩ = w1.frozen? ⟨c, o, none⟩ := fun c o hc => by
    have hb : w2.heap[c]? = w1.heap[c]? := by
      rw [hw2]
      exact (Below.heap_setCell _ _ _ _ hc).trans (Below.heap_setCell _ _ _ _ hc)
    exact ⟨cell_of_block hb o, frozen_of_block hb o⟩
  have ofs : ∀ o, o ≠ i * 2 → o ≠ i * 2 + 1 → w2.cell? ⟨K, o, none⟩ = w1.cell? ⟨K, o, none⟩ := fun o h2 h3 => by
    rw [hw2, World.cell?_setCell_other _ _ _ _ (fun e => h3 (by cases e; rfl)), World.cell?_setCell_other _ _ _ _ (fun e => h2 (by cases e; rfl))]
  have hnew : SqAt w2 t K (i * 2) fun c => wr.heap.size ≤ c ∧ c < w1.heap.size :=
    hv w2 K (i * 2) (by omega) (fun c o hc => oth c o (by omega)) d0 d1 ((fr _).trans f0) ((fr _).trans f1)
  refine ⟨⟨fun j hj => ?_, fun a j c ha hj hne g1 g2 => ?_, fun j c hj hc => ?_, fun o ho => ⟨?_, (fr o).trans (h1.cells o ho).2⟩, by omega⟩, hnew⟩
  · by_cases e : j = i
    · subst e
      simpa using hnew
    · simp only [if_neg e]
      refine (h1.kids j (by omega)).frame (by omega) (fun o ho => ⟨ofs o (by omega) (by omega), fr o⟩) fun c o hc => oth c o ?_
      have := (h1.own j c (by omega) hc).1
      omega
  · by_cases e1 : a = i
    · by_cases e2 : j = i
      · exact hne (e1.trans e2.symm)
      · rw [if_pos e1] at g1
        rw [if_neg e2] at g2
        have := (h.own j c (by omega) g2).2
        omega
    · by_cases e2 : j = i
      · rw [if_neg e1] at g1
        rw [if_pos e2] at g2
        have := (h.own a c (by omega) g1).2
        omega
      · rw [if_neg e1] at g1
        rw [if_neg e2] at g2
        exact h.apart a j c (by omega) (by omega) hne g1 g2
  · by_cases e : j = i
    · rw [if_pos e] at hc
      omega
    · rw [if_neg e] at hc
      have := h1.own j c (by omega) hc
      omega
  · by_cases e1 : o = i * 2
    · exact ⟨_, e1 ▸ d0⟩
    · by_cases e2 : o = i * 2 + 1
      · exact ⟨_, e2 ▸ d1⟩
      · obtain ⟨⟨u, hu⟩, _⟩ := h1.cells o ho
        exact ⟨u, (ofs o e1 e2).trans hu⟩

/-- what parse does -/
def ParsePost (k : Nat) (l : List UInt8) (N : Nat) (w : World) (e : Ending) (w' : World) : Prop :=
  Below w.heap.size w w' ∧ ∃ q z v', (e = .returned (.tuple #[.agg #[.pointer q, .int .u8 z], v', .bool true]) ∧ ∃ t r, Front k l t r ∧ SqVal w' t q z (fun c => w.heap.size ≤ c ∧ c < w'.heap.size) ∧ BAt w' N v' r) ∨
    (e = .returned (.tuple #[.agg #[.pointer q, .int .u8 z], v', .bool false]) ∧ ∀ t r, ¬ Front k l t r)
def ParseOk (k : Nat) : Prop := ∀ (l : List UInt8) (v : Value) (N : Nat) (w : World), l.length ≤ 1000000000 → BAt w N v l → N ≤ w.heap.size →
  Calls Try.prog 38 #[v, .int .i64 (sd k)] w (ParsePost k l N w)
end Go.Proofs.Ytdpdkjpkehgdnaa
