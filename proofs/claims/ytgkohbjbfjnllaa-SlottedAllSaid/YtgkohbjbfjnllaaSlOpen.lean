/-
  Layer 9's statements: an argument of calls ([]Op), an argument of bytes, opened: what lies in memory. No condition.
-/
import Derived.Test.YtgkohbjbfjnllaaSlW
import Derived.Deep.Slices
import Derived.Deep.Fields
import Derived.ChangeSame
import Derived.OpenShut
namespace Go.Proofs.Ytgkohbjbfjnllaa
open Go.ChangeShapes Go.WideShapes Go.RowKit Go.Deep

section
variable {H : Type} {enc : TypeId × Value → H} {w : World} {base : Nat} {spare : Nat → Bool} {held : Bool}

theorem open_old {fuel : Nat} {v : Value} {x : DataW H × List MemPlace} (h : DataW.trod enc Try.prog w base spare held fuel 29 [v] = some x) : ∃ l : List UInt8, OldBytes w.heap.size w v l ∧ ∃ A cap, v = .slice A l.length cap ∧ l.length ≤ cap ∧ cap ≤ maxLen := by
  rcases open_ints Try.underlying29 Try.underlying5 (by kernel_rfl) h with ⟨hcs, _⟩ | ⟨a, len, cap, zs, hcs, _, hl, hm, hz, _, hcell, hwf⟩
  · injection hcs with hcs _
    subst hcs
    exact ⟨[], .inl ⟨rfl, rfl⟩, _, _, rfl, Nat.le_refl _, Nat.zero_le _⟩
  · injection hcs with hcs _
    subst hcs
    have hzl : len ≤ zs.length := by rw [hz]; split <;> omega
    have hlen : ((zs.take len).map fun z => UInt8.ofNat z.toNat).length = len := by rw [List.length_map, List.length_take]; omega
    have hc : ∀ j b, ((zs.take len).map fun z => UInt8.ofNat z.toNat)[j]? = some b → w.cell? (a.add j) = some (.int .u8 (b.toNat : Int)) := fun j b hj => by
      have hjl : j < len := by have := (List.getElem?_eq_some_iff.1 hj).1; omega
      have h1 : zs[j]? = some (zs[j]'(by omega)) := List.getElem?_eq_getElem (by omega)
      rw [List.getElem?_map, List.getElem?_take_of_lt hjl, h1] at hj
      simp only [Option.map_some, Option.some.injEq] at hj
      have hb := bounds_u8 (hwf _ (List.getElem_mem (show j < zs.length by omega)))
      rw [hcell j (by omega)]
      subst hj
      simp only [List.getD_eq_getElem?_getD, h1, Option.getD_some, Option.some.injEq, Value.int.injEq, true_and]
      simp
      omega
    refine ⟨_, .inr ⟨a, cap, by rw [hlen], fun hne => ?_, hc⟩, some a, cap, by rw [hlen], by rw [hlen]; exact hl, hm⟩
    obtain ⟨b, hb⟩ := List.getElem?_of_mem (List.head_mem hne)
    have := World.block_lt_of_cell? _ _ (hc b _ hb)
    rwa [block_add] at this

theorem open_ops {fuel : Nat} {v : Value} {x : DataW H × List MemPlace} (h : DataW.trod enc Try.prog w base spare held fuel 33 [v] = some x) : ∃ (A : Option Addr) (cap : Nat) (ops : List Op3), v = .slice A ops.length cap ∧ ops.length ≤ maxLen ∧ OpsAt w.heap.size w A ops := by
  rcases open_slice Try.underlying33 h with ⟨hcs, _⟩ | ⟨a, len, cap, m, n, D, Pl, hcs, _, hl, hm, hmm, _, hi⟩
  · injection hcs with hcs _
    subst hcs
    exact ⟨none, 0, [], rfl, Nat.zero_le _, fun i o hio => by simp at hio⟩
  · injection hcs with hcs _
    subst hcs
    have hml : len ≤ m := by rw [hmm]; split <;> omega
    have hC : Try.prog.cellsOf 37 = 3 := by kernel_rfl
    have hI : Try.prog.cellsOf 3 = 1 := by kernel_rfl
    have hS : Try.prog.cellsOf 29 = 1 := by kernel_rfl
    have hex : ∀ i, i < len → ∃ o : Int × Int × List UInt8, a.block < w.heap.size ∧ w.cell? (a.add (i * 3)) = some (.int .i64 o.1) ∧ w.cell? (a.add (i * 3 + 1)) = some (.int .i64 o.2.1) ∧ ∃ dv, w.cell? (a.add (i * 3 + 2)) = some dv ∧ OldBytes w.heap.size w dv o.2.2 := fun i hlt => by
      obtain ⟨cs', hc, ht'⟩ := hi i (by omega)
      rw [hC] at hc
      obtain ⟨_, hcl, hat⟩ := World.cells?_some hc
      obtain ⟨ys, n', _, _, _, hyl, hf⟩ := DataW.trod_struct Try.underlying37 ht'
      match cs', hcl with
      | [v0, v1, v2], _ =>
        match ys, hyl with
        | [y0, y1, y2], _ =>
          have h0 : DataW.trod enc Try.prog w base spare held n' 3 (List.take (Try.prog.cellsOf 3) (List.drop 0 [v0, v1, v2])) = some y0 := hf 0 _ rfl
          have h1 : DataW.trod enc Try.prog w base spare held n' 3 (List.take (Try.prog.cellsOf 3) (List.drop 1 [v0, v1, v2])) = some y1 := hf 1 _ rfl
          have h2 : DataW.trod enc Try.prog w base spare held n' 29 (List.take (Try.prog.cellsOf 29) (List.drop 2 [v0, v1, v2])) = some y2 := hf 2 _ rfl
          rw [hI] at h0 h1
          rw [hS] at h2
          obtain ⟨z0, e0, _⟩ := DataW.trod_int Try.underlying3 h0
          obtain ⟨z1, e1, _⟩ := DataW.trod_int Try.underlying3 h1
          obtain ⟨l, ho, _⟩ := open_old h2
          have e0' : v0 = .int .i64 z0 := by injection e0
          have e1' : v1 = .int .i64 z1 := by injection e1
          have c0 := hat 0 (by omega)
          have c1 := hat 1 (by omega)
          have c2 := hat 2 (by omega)
          rw [add_add] at c0 c1 c2
          have hb := World.block_lt_of_cell? _ _ (c0.trans rfl)
          rw [block_add] at hb
          subst e0' e1'
          exact ⟨(z0, z1, l), hb, c0, c1, v2, c2, ho⟩
    obtain ⟨V, hV⟩ := choose_lt hex
    have hlen : ((List.range len).map fun i => (⟨(V i).1, (V i).2.1, (V i).2.2⟩ : Op3)).length = len := by simp
    refine ⟨some a, cap, (List.range len).map fun i => ⟨(V i).1, (V i).2.1, (V i).2.2⟩, by rw [hlen], by rw [hlen]; omega, fun i o hio => ?_⟩
    have hlt : i < len := by have := (List.getElem?_eq_some_iff.1 hio).1; omega
    rw [List.getElem?_map, List.getElem?_range hlt] at hio
    simp only [Option.map_some, Option.some.injEq] at hio
    subst hio
    obtain ⟨hb, h0, h1, dv, h2, ho⟩ := hV i hlt
    exact ⟨a, dv, rfl, hb, h0, h1, h2, ho⟩
end
end Go.Proofs.Ytgkohbjbfjnllaa
