/-
  Layer 9's statements: a list of calls in memory; small. For every list of calls.
-/
import Derived.Test.YtgkohbjbfjnllaaSlV
namespace Go.Proofs.Ytgkohbjbfjnllaa
open Go.RowKit

/-- a call -/
structure Op3 where
  kind : Int
  slot : Int
  data : List UInt8

/-- bytes that lie below block B -/
def OldBytes (B : Nat) (w : World) (v : Value) (l : List UInt8) : Prop :=
  (v = .slice none 0 0 ∧ l = []) ∨ ∃ A cap, v = .slice (some A) l.length cap ∧ (l ≠ [] → A.block < B) ∧ ∀ j b, l[j]? = some b → w.cell? (A.add j) = some (.int .u8 (b.toNat : Int))
theorem OldBytes.form {B : Nat} {w : World} {v : Value} {l : List UInt8} (h : OldBytes B w v l) : ∃ A cap, v = .slice A l.length cap := by
  rcases h with ⟨rfl, rfl⟩ | ⟨A, cap, rfl, _⟩
  · exact ⟨_, _, rfl⟩
  · exact ⟨_, _, rfl⟩
theorem block_add (A : Addr) (j : Nat) : (A.add j).block = A.block := by unfold Addr.add; split <;> rfl
theorem get_ne_nil {l : List UInt8} {j : Nat} {b : UInt8} (h : l[j]? = some b) : l ≠ [] := fun h0 => by subst h0; simp at h
theorem OldBytes.later {B : Nat} {w w' : World} {v : Value} {l : List UInt8} (h : OldBytes B w v l) (hb : Below B w w') : OldBytes B w' v l := by
  rcases h with h | ⟨A, cap, rfl, hA, hc⟩
  · exact .inl h
  · exact .inr ⟨A, cap, rfl, hA, fun j b hj => (hb.cell (p := A.add j) (by rw [block_add]; exact hA (get_ne_nil hj))).trans (hc j b hj)⟩
theorem OldBytes.stays {B bp : Nat} {w : World} {v : Value} {l : List UInt8} (h : OldBytes B w v l) : StaysAt B bp w v l := fun w' t => by
  rcases h.later t.below with h | ⟨A, cap, rfl, _, hc⟩
  · exact .inl h
  · exact .inr ⟨A, cap, rfl, hc⟩

theorem add_next (A : Addr) (n j : Nat) : A.add (n + (j + 1)) = ⟨(A.add n).block, (A.add n).off + (j + 1), none⟩ := by
  rcases n with _ | n
  · simp [Addr.add]
  · simp [Addr.add]
    omega

/-- a list of calls that lies below block B -/
def OpsAt (B : Nat) (w : World) (A : Option Addr) (ops : List Op3) : Prop :=
  ∀ i o, ops[i]? = some o → ∃ A0 dv, A = some A0 ∧ A0.block < B ∧ w.cell? (A0.add (i * 3)) = some (.int .i64 o.kind) ∧ w.cell? (A0.add (i * 3 + 1)) = some (.int .i64 o.slot) ∧ w.cell? (A0.add (i * 3 + 2)) = some dv ∧ OldBytes B w dv o.data
theorem OpsAt.later {B : Nat} {w w' : World} {A : Option Addr} {ops : List Op3} (h : OpsAt B w A ops) (hb : Below B w w') : OpsAt B w' A ops := fun i o hi => by
  obtain ⟨A0, dv, hA, hlt, h0, h1, h2, h3⟩ := h i o hi
  have e : ∀ j, w'.cell? (A0.add j) = w.cell? (A0.add j) := fun j => hb.cell (p := A0.add j) (by rw [block_add]; exact hlt)
  exact ⟨A0, dv, hA, hlt, (e _).trans h0, (e _).trans h1, (e _).trans h2, h3.later hb⟩

/-- are no data long? -/
def shortB (ops : List Op3) : Bool := ops.all fun o => decide (o.data.length ≤ 400)

set_option maxHeartbeats 1000000 in
theorem small_any {B : Nat} (A : Option Addr) (cap : Nat) (ops : List Op3) (most : Int) (w : World) (hB : B ≤ w.heap.size) (ho : OpsAt B w A ops) (hl : ops.length ≤ maxLen) :
    Calls Try.prog 14 #[.slice A ops.length cap, .int .i64 most] w fun e w' => e = .returned (.bool (shortB ops && decide ((ops.length : Int) ≤ most))) ∧ Below w.heap.size w w' := by
  have hl : ops.length ≤ 9223372036854775807 := hl
  have HO := hid ho
  clear ho
  go_enter Try.func14, Try.ntmps14
  go_wp2
  go_loopw [9] (fun s9 wr => ∃ k : Nat, k ≤ ops.length ∧ s9 = .int .i64 k ∧ (ops.take k).all (fun o => decide (o.data.length ≤ 400)) = true ∧ Below w.heap.size w wr) (fun s9 _ => ops.length - (intOf s9).toNat)
  case atStart => exact ⟨0, Nat.zero_le _, rfl, rfl, Below.refl _ _⟩
  case round =>
    obtain ⟨k, hk, rfl, hall, hbw⟩ := hrel
    have HA := hid hall
    have HB := hid hbw
    clear hall hbw
    by_cases hlt : k < ops.length
    · obtain ⟨A0, dv, rfl, hblk, h0, h1, h2, h3⟩ := (HO.out.later (HB.out.mono hB)) k ops[k] (List.getElem?_eq_getElem hlt)
      obtain ⟨A1, c1, rfl⟩ := h3.form
      have HT := hid (show ops.take (k + 1) = ops.take k ++ [ops[k]] by rw [List.take_add_one, List.getElem?_eq_getElem hlt]; rfl)
      have HM := hid (show ops[k] ∈ ops from List.getElem_mem hlt)
      generalize ops[k] = o at *
      rw [add_next A0 (k * 3) 0] at h1
      rw [add_next A0 (k * 3) 1] at h2
      clear h3
      by_cases hd : o.data.length ≤ 400
      · have HD := hid hd
        go_wp2
        go_roundw
        case rel => exact ⟨k + 1, by omega, by go_num, by rw [HT.out, List.all_append, HA.out]; simpa using HD.out, by first | exact HB.out.alloc HB.out.size _ | (exact (HB.out.alloc HB.out.size _).setCell HB.out.size _)⟩
        case measure => simp [intOf]; omega
      · have HF := hid (show shortB ops = false by
          rw [shortB, List.all_eq_false]
          exact ⟨o, HM.out, by simpa using hd⟩)
        have HD := hid hd
        have hd2 : decide ((o.data.length : Int) > 400) = true := decide_eq_true (by omega)
        clear hd
        go_wp2
        go_ret
        exact ⟨ret_bool (by rw [HF.out]; rfl), HB.out.alloc HB.out.size _⟩
    · obtain rfl : k = ops.length := by omega
      have HS := hid (show shortB ops = true by rw [shortB, ← HA.out, List.take_length])
      go_wp2
      go_ret
      exact ⟨ret_bool (by rw [HS.out]; rfl), HB.out⟩
end Go.Proofs.Ytgkohbjbfjnllaa
