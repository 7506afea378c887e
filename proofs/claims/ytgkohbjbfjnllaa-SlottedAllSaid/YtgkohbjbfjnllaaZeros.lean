/-
  append(s, make([]byte, k)...) onto a slice of the call's own: the bytes as they were, and k zeros. No condition but the lengths.
-/
import Derived.Test.YtgkohbjbfjnllaaBase
import Derived.Lib.AppendZerosOnto
import Derived.Laws.CopyRow
import Derived.Laws.AppendOwn
namespace Go.Proofs.Ytgkohbjbfjnllaa
open Go.RowKit

theorem zeroCells_u8 (k : Nat) : Builtin.zeroCells (Value.int .u8 0).cells k = (List.replicate k (Value.int .u8 0)).toArray := by
  apply Array.ext
  · simp [Builtin.zeroCells, Value.cells]
  · intro j h1 h2
    simp [Builtin.zeroCells, Value.cells, Nat.mod_one]

theorem run_zeros_own {P : Program} (w : World) (base : Nat) (t tn ty e : TypeId) (i : TypeInfo) (kq kn : IntKind) (ht : P.underlying t = some (.slice e)) (htn : P.underlying tn = some (.int kn)) (hi : P.info? e = some i) (hz : i.zero = some (.int .u8 0)) (h1 : i.size = 1) (hb1 : i.bytes = 1)
    (v : Value) (n : Nat) (xs : List Value) (hown : w.ownsRow base e 1 v n xs) (k : Nat) (hn : n ≤ 1048576) (hk : k ≤ 1048576) (hbase : base ≤ w.heap.size) :
    ∃ v' w', (Builtin.append_ #[t, tn] ty #[v, .int kq k]).run P w = .ok v' w' ∧ w'.ownsRow base e 1 v' (n + k) (xs ++ List.replicate k (.int .u8 0)) ∧ w.grownBy w' v.ownBlock := by
  have hlen : (xs ++ List.replicate k (Value.int .u8 0)).length = (n + k) * 1 := by have := hown.1; simp; omega
  have hw : IntKind.i64.wrap (k : Int) = k := by rw [IntKind.wrap_i64]; omega
  have hneg : ¬ ((k : Int) < 0) := by omega
  have h48 : ¬ (281474976710656 < (k : Int) * ((1 : Nat) : Int)) := by omega
  have made : ∀ (old : Nat), n + k ≤ maxLen → ∀ (row : Option Nat),
      (w.drew.alloc (.cells (xs.toArray ++ Builtin.zeroCells (Value.int .u8 0).cells k ++ Builtin.zeroCells (Value.int .u8 0).cells (grownCap w (n + k) old e - (n + k))) e)).ownsRow base e 1 (.slice (some ⟨w.heap.size, 0, none⟩) (n + k) (grownCap w (n + k) old e)) (n + k) (xs ++ List.replicate k (.int .u8 0)) ∧
      w.grownBy (w.drew.alloc (.cells (xs.toArray ++ Builtin.zeroCells (Value.int .u8 0).cells k ++ Builtin.zeroCells (Value.int .u8 0).cells (grownCap w (n + k) old e - (n + k))) e)) row := by
    intro old hm row
    have hge := grownCap_ge w (n + k) old e
    refine ⟨⟨hlen, .inr ⟨w.heap.size, _, _, rfl, hbase, heap_alloc_new w.drew _, hge, grownCap_le_maxLen w (n + k) old e hm, ?_, ?_⟩⟩, ⟨rfl, rfl, rfl, by simp, fun j hj _ => heap_alloc_old w.drew _ hj⟩⟩
    · rw [zeroCells_u8, zeroCells_u8]
      have := hown.1
      simp
      omega
    · rw [zeroCells_u8, zeroCells_u8]
      have h2 := hown.1
      simp only [Array.toList_append]
      rw [← hlen]
      exact List.take_left
  have hmx : n + k ≤ maxLen := by unfold maxLen; omega
  by_cases hk0 : k = 0
  · subst hk0
    have hw0 : IntKind.i64.wrap (0 : Int) = 0 := by rw [IntKind.wrap_i64]; omega
    refine ⟨v, w, ?_, by simpa using hown, ⟨rfl, rfl, rfl, Nat.le_refl _, fun _ _ _ => rfl⟩⟩
    obtain ⟨_, ⟨rfl, rfl⟩ | ⟨g, cap, cur, rfl, hbg, hg, hnc, hcm, hcs, htake⟩⟩ := hown
    · simp [Builtin.append_, run_underlying ht, run_underlying htn, sizeOf, typeInfo, hi, h1, asInt, asIntOf, Result.andThen, hw0]
    · simp [Builtin.append_, run_underlying ht, run_underlying htn, sizeOf, typeInfo, hi, h1, asInt, asIntOf, Result.andThen, hw0, hnc, storeCells]
  · rcases hown.2 with ⟨rfl, rfl⟩ | ⟨g, cap, cur, rfl, hbg, hg, hnc, hcm, hcs, htake⟩
    · have hx : xs = [] := List.eq_nil_of_length_eq_zero (by simpa using hown.1)
      subst hx
      have hr := Lib.run_append_nil_zeros (P := P) w t tn ty e i (.int .u8 0) kq kn ht htn hi hz k (by omega) (by omega) (by omega) (by rw [hb1]; omega)
      have hgr := made 0 hmx (Value.ownBlock (.slice none 0 0))
      simp only [Nat.zero_add, List.nil_append, Array.empty_append] at hgr ⊢
      exact ⟨_, _, hr, hgr.1, hgr.2⟩
    · by_cases hroom : n + k ≤ cap
      · have hst := run_storeCells_at (P := P) g n e (List.replicate k (Value.int .u8 0)) 0 cur w hg (by simp; omega) (by simp [Value.oneCell'])
        have hadd : (⟨g, 0, none⟩ : Addr).add n = ⟨g, n, none⟩ := by unfold Addr.add; split <;> simp_all
        obtain ⟨cs, hcs2⟩ : ∃ cs : Array Value, cs = (List.take (n + 0) cur.toList ++ List.replicate k (Value.int .u8 0) ++ List.drop (n + 0 + (List.replicate k (Value.int .u8 0)).length) cur.toList).toArray := ⟨_, rfl⟩
        rw [← hcs2] at hst
        refine ⟨.slice (some ⟨g, 0, none⟩) (n + k) cap, w.setRow g cs, ?_, ⟨hlen, .inr ⟨g, cap, cs, rfl, hbg, setRow_heap w g cur cs e _ hg, hroom, hcm, ?_, ?_⟩⟩, ⟨rfl, rfl, rfl, by simp, fun j _ hj => setRow_other w g j cs (fun e => hj (by simp [Value.ownBlock, e]))⟩⟩
        · have hn0 : ¬ (k * 1 = 0) := by omega
          have h48' : ¬ (281474976710656 < (k : Int)) := by omega
          simp [Builtin.append_, run_underlying ht, run_underlying htn, sizeOf, typeInfo, zeroValue, hi, h1, hz, hb1, asInt, asIntOf, hw, hneg, h48', hk0, Result.andThen, hroom, zeroCells_u8, hadd, hst]
        · rw [hcs2]
          simp
          omega
        · have h2 : List.take n cur.toList = xs := by simpa using htake
          rw [hcs2]
          simp only [Nat.add_zero, h2]
          rw [← hlen]
          exact List.take_left
      · have hold : (Builtin.firstCells i.size n (.slice (some ⟨g, 0, none⟩) n cap)).run P w.drew = .ok xs.toArray w.drew :=
          run_firstCells_some w.drew i.size n ⟨g, 0, none⟩ n cap xs (by rw [h1]; exact hown.1) (by simpa using hown.cells (g := g) rfl)
        have hr := Lib.run_append_grow_zeros (P := P) w t tn ty e i (.int .u8 0) kq kn ht htn hi hz (some ⟨g, 0, none⟩) n cap xs hold k (by omega) (by omega) (by omega) (by omega) (by rw [hb1]; omega) (growslice_fits (by omega) (by rw [hb1]; omega))
        have hgr := made cap hmx (Value.ownBlock (.slice (some ⟨g, 0, none⟩) n cap))
        exact ⟨_, _, hr, hgr.1, hgr.2⟩

theorem wpList_zeros_own {P : Program} (w : World) {ops : Array Oper} {rest : List Oper} {o : Oper} {a : Act} {Q : Exit → Act → World → Prop} (hgd : o.guard = none) (s x : Operand) (t tn : TypeId)
    (ho : o.op = .call { callee := .builtin .append, args := #[s, x], argTypes := #[t, tn] }) (base : Nat) (e : TypeId) (i : TypeInfo) (kq kn : IntKind) (ht : P.underlying t = some (.slice e)) (htn : P.underlying tn = some (.int kn)) (hi : P.info? e = some i) (hz : i.zero = some (.int .u8 0)) (h1 : i.size = 1) (hb1 : i.bytes = 1)
    (v : Value) (n : Nat) (xs : List Value) (hs : a.eval s = v) (hown : w.ownsRow base e 1 v n xs) (k : Nat) (hx : a.eval x = .int kq k) (hn : n ≤ 1048576) (hk : k ≤ 1048576) (hbase : base ≤ w.heap.size)
    (h : ∀ v' w', w'.ownsRow base e 1 v' (n + k) (xs ++ List.replicate k (.int .u8 0)) → w.grownBy w' v.ownBlock → wpList P ops Q rest (a.put o.dst v') w') : wpList P ops Q (o :: rest) a w := by
  obtain ⟨v', w', hr, h2, h3⟩ := run_zeros_own (P := P) w base t tn o.type e i kq kn ht htn hi hz h1 hb1 v n xs hown k hn hk hbase
  exact Lib.wpList_append_run w hgd s x t tn ho v (.int kq k) hs hx v' w' hr (h v' w' h2 h3)
end Go.Proofs.Ytgkohbjbfjnllaa
