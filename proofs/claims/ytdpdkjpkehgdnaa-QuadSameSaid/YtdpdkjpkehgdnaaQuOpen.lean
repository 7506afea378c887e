/-
  The quad's statements: an argument of calls ([]Op), a call by value, opened: what lies in memory. No condition.
-/
import Derived.Test.YtdpdkjpkehgdnaaQuP
import Derived.Deep.Slices
import Derived.Deep.Fields
import Derived.ChangeSame
import Derived.OpenShut
namespace Go.Proofs.Ytdpdkjpkehgdnaa
open Go.ChangeShapes Go.WideShapes Go.RowKit Go.Deep

instance : Inhabited Op5 := ⟨⟨0, 0, 0, 0, 0⟩⟩

section
variable {H : Type} {enc : TypeId × Value → H} {w : World} {base : Nat} {spare : Nat → Bool} {held : Bool}

theorem rect_cells {n : Nat} {cs : List Value} {x : DataW H × List MemPlace} (h : DataW.trod enc Try.prog w base spare held n 24 cs = some x) (hl : cs.length = 4) : ∃ a b c d : Int, cs = [.int .i64 a, .int .i64 b, .int .i64 c, .int .i64 d] := by
  have hI : Try.prog.cellsOf 3 = 1 := by kernel_rfl
  obtain ⟨ys, n', _, _, _, hyl, hf⟩ := DataW.trod_struct Try.underlying24 h
  match cs, hl with
  | [v0, v1, v2, v3], _ =>
    match ys, hyl with
    | [y0, y1, y2, y3], _ =>
      have h0 : DataW.trod enc Try.prog w base spare held n' 3 (List.take (Try.prog.cellsOf 3) (List.drop 0 [v0, v1, v2, v3])) = some y0 := hf 0 _ rfl
      have h1 : DataW.trod enc Try.prog w base spare held n' 3 (List.take (Try.prog.cellsOf 3) (List.drop 1 [v0, v1, v2, v3])) = some y1 := hf 1 _ rfl
      have h2 : DataW.trod enc Try.prog w base spare held n' 3 (List.take (Try.prog.cellsOf 3) (List.drop 2 [v0, v1, v2, v3])) = some y2 := hf 2 _ rfl
      have h3 : DataW.trod enc Try.prog w base spare held n' 3 (List.take (Try.prog.cellsOf 3) (List.drop 3 [v0, v1, v2, v3])) = some y3 := hf 3 _ rfl
      rw [hI] at h0 h1 h2 h3
      obtain ⟨z0, e0, _⟩ := DataW.trod_int Try.underlying3 h0
      obtain ⟨z1, e1, _⟩ := DataW.trod_int Try.underlying3 h1
      obtain ⟨z2, e2, _⟩ := DataW.trod_int Try.underlying3 h2
      obtain ⟨z3, e3, _⟩ := DataW.trod_int Try.underlying3 h3
      have e0' : v0 = .int .i64 z0 := by injection e0
      have e1' : v1 = .int .i64 z1 := by injection e1
      have e2' : v2 = .int .i64 z2 := by injection e2
      have e3' : v3 = .int .i64 z3 := by injection e3
      subst e0' e1' e2' e3'
      exact ⟨z0, z1, z2, z3, rfl⟩

theorem op_cells {n : Nat} {cs : List Value} {x : DataW H × List MemPlace} (h : DataW.trod enc Try.prog w base spare held n 26 cs = some x) (hl : cs.length = 5) : ∃ o : Op5, cs = [.int .i64 o.x, .int .i64 o.y, .int .i64 o.m, .int .i64 o.n, .int .i64 o.v] := by
  have hI : Try.prog.cellsOf 3 = 1 := by kernel_rfl
  have hR : Try.prog.cellsOf 24 = 4 := by kernel_rfl
  obtain ⟨ys, n', _, _, _, hyl, hf⟩ := DataW.trod_struct Try.underlying26 h
  match cs, hl with
  | [v0, v1, v2, v3, v4], _ =>
    match ys, hyl with
    | [y0, y1], _ =>
      have h0 : DataW.trod enc Try.prog w base spare held n' 24 (List.take (Try.prog.cellsOf 24) (List.drop 0 [v0, v1, v2, v3, v4])) = some y0 := hf 0 _ rfl
      have h1 : DataW.trod enc Try.prog w base spare held n' 3 (List.take (Try.prog.cellsOf 3) (List.drop 4 [v0, v1, v2, v3, v4])) = some y1 := hf 1 _ rfl
      rw [hR] at h0
      rw [hI] at h1
      obtain ⟨a, b, c, d, e⟩ := rect_cells h0 rfl
      obtain ⟨z4, e4, _⟩ := DataW.trod_int Try.underlying3 h1
      have e4' : v4 = .int .i64 z4 := by injection e4
      subst e4'
      simp at e
      obtain ⟨rfl, rfl, rfl, rfl⟩ := e
      exact ⟨⟨a, b, c, d, z4⟩, rfl⟩

theorem open_op {r : Reach} {b0 : Nat} {v : Value} {d : DataW H} {p : List MemPlace} (hv : Value.okWide Try.prog w r b0 26 v) (h : DataW.Trod enc Try.prog w base spare held 26 v d p) : ∃ o : Op5, v = .agg #[.int .i64 o.x, .int .i64 o.y, .int .i64 o.m, .int .i64 o.n, .int .i64 o.v] := by
  have hC : Try.prog.cellsOf 26 = 5 := by kernel_rfl
  obtain ⟨cs, rfl, hsz⟩ := okWide_struct Try.underlying26 hv
  obtain ⟨fuel, hf⟩ := h
  obtain ⟨o, ho⟩ := op_cells (cs := cs.toList) hf (by simpa [hC] using hsz)
  refine ⟨o, ?_⟩
  congr 1
  apply Array.ext'
  simpa using ho

theorem open_ops {fuel : Nat} {v : Value} {x : DataW H × List MemPlace} (h : DataW.trod enc Try.prog w base spare held fuel 22 [v] = some x) : ∃ (A : Option Addr) (cap : Nat) (ops : List Op5), v = .slice A ops.length cap ∧ ops.length ≤ maxLen ∧ OpsAt w.heap.size w A ops := by
  rcases open_slice Try.underlying22 h with ⟨hcs, _⟩ | ⟨a, len, cap, m, n, D, Pl, hcs, _, hl, hm, hmm, _, hi⟩
  · injection hcs with hcs _
    subst hcs
    exact ⟨none, 0, [], rfl, Nat.zero_le _, fun i o hio => by simp at hio⟩
  · injection hcs with hcs _
    subst hcs
    have hml : len ≤ m := by rw [hmm]; split <;> omega
    have hC : Try.prog.cellsOf 26 = 5 := by kernel_rfl
    have hex : ∀ i, i < len → ∃ o : Op5, a.block < w.heap.size ∧ w.cell? (a.add (i * 5)) = some (.int .i64 o.x) ∧ w.cell? (a.add (i * 5 + 1)) = some (.int .i64 o.y) ∧ w.cell? (a.add (i * 5 + 2)) = some (.int .i64 o.m) ∧ w.cell? (a.add (i * 5 + 3)) = some (.int .i64 o.n) ∧ w.cell? (a.add (i * 5 + 4)) = some (.int .i64 o.v) := fun i hlt => by
      obtain ⟨cs', hc, ht'⟩ := hi i (by omega)
      rw [hC] at hc
      obtain ⟨_, hcl, hat⟩ := World.cells?_some hc
      obtain ⟨o, ho⟩ := op_cells ht' hcl
      subst ho
      have c0 := hat 0 (by omega)
      have c1 := hat 1 (by omega)
      have c2 := hat 2 (by omega)
      have c3 := hat 3 (by omega)
      have c4 := hat 4 (by omega)
      rw [add_add] at c0 c1 c2 c3 c4
      have hb := World.block_lt_of_cell? _ _ (c0.trans rfl)
      rw [block_add] at hb
      exact ⟨o, hb, c0, c1, c2, c3, c4⟩
    obtain ⟨V, hV⟩ := choose_lt hex
    have hlen : ((List.range len).map fun i => V i).length = len := by simp
    refine ⟨some a, cap, (List.range len).map fun i => V i, by rw [hlen], by rw [hlen]; omega, fun i o hio => ?_⟩
    have hlt : i < len := by have := (List.getElem?_eq_some_iff.1 hio).1; omega
    rw [List.getElem?_map, List.getElem?_range hlt] at hio
    simp only [Option.map_some, Option.some.injEq] at hio
    subst hio
    obtain ⟨hb, h0, h1, h2, h3, h4⟩ := hV i hlt
    exact ⟨a, rfl, hb, h0, h1, h2, h3, h4⟩
end
end Go.Proofs.Ytdpdkjpkehgdnaa
