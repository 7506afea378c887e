/-
  The statement QuadParses: any bytes are a quad's of a side, or none: what is read has just these bytes. No condition.
-/
import Derived.Test.YtdpdkjpkehgdnaaQuadParses
import Derived.Test.YtdpdkjpkehgdnaaQuOpen
import Derived.ProofKit
import Derived.Lib.SmallJoins
import Derived.Carry
namespace Go.Proofs.Ytdpdkjpkehgdnaa.quadParses
open Go.ChangeShapes Go.WideShapes Go.ChangeAt Go.RowKit Go.Joins

theorem own : ownKnob Try.prog.godebug = none := by kernel_rfl
theorem laid : laidOutB Try.prog = true := by kernel_rfl

section
variable {H : Type} {enc : TypeId × Value → H} {w : World} {base : Nat} {spare : Nat → Bool} {held : Bool}
theorem open_bytes {fuel : Nat} {v : Value} {x : DataW H × List MemPlace} (h : DataW.trod enc Try.prog w base spare held fuel 54 [v] = some x) : ∃ l : List UInt8, BAt w w.heap.size v l ∧ ∃ A cap, v = .slice A l.length cap := by
  rcases open_ints Try.underlying54 Try.underlying5 (by kernel_rfl) h with ⟨hcs, _⟩ | ⟨a, len, cap, zs, hcs, _, hl, hm, hz, _, hcell, hwf⟩
  · injection hcs with hcs _
    subst hcs
    exact ⟨[], .inl ⟨rfl, rfl⟩, _, _, rfl⟩
  · injection hcs with hcs _
    subst hcs
    have hzl : len ≤ zs.length := by rw [hz]; split <;> omega
    have hlen : ((zs.take len).map fun z => UInt8.ofNat z.toNat).length = len := by rw [List.length_map, List.length_take]; omega
    have hc : ∀ j b, ((zs.take len).map fun z => UInt8.ofNat z.toNat)[j]? = some b → w.cell? (a.add j) = some (.int .u8 (b.toNat : Int)) := fun j b hj => by
      have hjl : j < len := by have := (List.getElem?_eq_some_iff.1 hj).1; omega
      have h1 : zs[j]? = some (zs[j]'(by omega)) := List.getElem?_eq_getElem (by omega)
      rw [List.getElem?_map, List.getElem?_take_of_lt hjl, h1] at hj
      simp only [Option.map_some, Option.some.injEq] at hj
      have hb := bounds_u8 (hwf _ (List.getElem_mem (show j < zs.length by omega)))
      rw [hcell j (by omega)]
      subst hj
      simp only [List.getD_eq_getElem?_getD, h1, Option.getD_some, Option.some.injEq, Value.int.injEq, true_and]
      simp
      omega
    refine ⟨_, .inr ⟨a, cap, by rw [hlen], by rw [hlen]; exact hl, fun hne => ?_, fun j u hj => ?_⟩, some a, cap, by rw [hlen]⟩
    · obtain ⟨b, hb⟩ := List.getElem?_of_mem (List.head_mem hne)
      have := World.block_lt_of_cell? _ _ (hc b _ hb)
      rwa [block_add] at this
    · unfold cellsB at hj
      rw [List.getElem?_map] at hj
      cases hx : ((zs.take len).map fun z => UInt8.ofNat z.toNat)[j]? with
      | none => rw [hx] at hj; cases hj
      | some b =>
        rw [hx] at hj
        simp only [Option.map_some, Option.some.injEq] at hj
        rw [← hj]
        exact hc j b hx
end

theorem walk (n : Int) (v : Value) (l : List UInt8) (w : World) (hb : BAt w w.heap.size v l) (hv : ∃ A cap, v = .slice A l.length cap) :
    Calls Try.prog 6 #[v, .int .i64 n] w fun e w' => e = .returned (.bool true) ∧ Below w.heap.size w w' := by
  by_cases hs : (n < 0 ∨ 5 < n) ∨ 2000 < l.length
  · obtain ⟨A, cap, rfl⟩ := hv
    exact parses_short n A l.length cap w hs
  · obtain ⟨k, rfl⟩ : ∃ k : Nat, n = k := ⟨n.toNat, by omega⟩
    exact parses_long k (by omega) l v w hb (by omega)

set_option maxRecDepth 100000 in
theorem lifted (os : Os) (started : os.Started) (H : Type) (enc : TypeId × Value → H) :
    ReturnsInHanded {} Try.checked os 6 .any (Rows.quadParsesSpec.pre6 enc Try.prog Try.f6 Rows.quadParsesRow.domain false) (Rows.quadParsesSpec.post enc Try.prog Try.f6 false true false false) := by
  refine returnsInHanded_of_change (C := Try.checked) own started (by kernel_rfl) Try.func6
    (ChangeSpec.witness6 (enc := enc) (C := Try.checked) false ⟨#[], #[.slice none 0 0, .int .i64 0], []⟩ 8 (by kernel_rfl) (by kernel_rfl) (by kernel_rfl) (by kernel_rfl)) ?_
  intro W base args ds gs before hval0 hW _ _
  have hval : ∀ (j : Nat) t v, Try.f6.params[j]? = some t → args[j]? = some v → Value.okWide Try.prog W .any base t v := hval0
  have hW' := hW
  obtain ⟨p, q, hA0, hV, rfl, _, _⟩ := hW
  have hA : DataW.TrodAll enc Try.prog W 0 (fun _ => true) true Try.f6.params.toList args.toList ds p := hA0
  rw [Try.params6] at hA hval
  obtain ⟨v0, v1, d0, d1, p0, p1, rfl, rfl, rfl, h0, h1⟩ := trodAll_two hA
  obtain ⟨rfl, rfl⟩ := trodVars_none hV
  have hlt0 : ∀ x ∈ p0, x.block < W.heap.size := fun x hx => hW'.lt x (by simp [hx])
  obtain ⟨a1, rfl, rfl, rfl, wa1⟩ := open_int Try.underlying3 (hval 1 3 v1 rfl rfl) h1
  have hk0 := h0
  obtain ⟨B0, n0, m0, rfl⟩ := okWide_slice Try.underlying54 (hval 0 54 v0 rfl rfl)
  obtain ⟨fuel0, hf0⟩ := h0
  obtain ⟨l0, hb0, hv0⟩ := open_bytes hf0
  clear hA0 hval0
  have hwalk := walk a1 _ l0 W hb0 hv0
  refine hwalk.mono fun e W' ⟨he, hb⟩ => ?_
  subst he
  exact ⟨_, rfl, ⟨_, _, _, [], _, [], hW', trodAll_mk1 (shut_bool Try.underlying4 _), trodAll_mk2 (Below.trod laid (by kernel_rfl) (of_decide_eq_true (by kernel_rfl)) hk0 hb hlt0) (shut_int Try.underlying3 wa1), rfl, hb.frame _, fun h => by cases h⟩⟩

theorem holds : Rows.QuadParsesSaid :=
  OpenClaim.holds_of_wide 6 Try.f6 rfl rfl rfl rfl rfl rfl rfl ⟨rfl, rfl, rfl, rfl, rfl⟩ rfl rfl rfl rfl rfl (by kernel_rfl) Try.func6 (by kernel_rfl)
    (of_decide_eq_true (by kernel_rfl)) (by unfold Func.isWrapper; first | (rw [if_pos (by decide +kernel)]; kernel_rfl) | (rw [if_neg (by decide +kernel)]; exact ⟨rfl, rfl⟩))
    (fun os started H enc _ => lifted os started H enc)

#print axioms holds
end Go.Proofs.Ytdpdkjpkehgdnaa.quadParses
