/-
  The statement QuadPlays: a quad played by calls tells each tile, nothing outside, just the reference's squares and bytes. No condition.
-/
import Derived.Test.YtdpdkjpkehgdnaaQuadPlays
import Derived.Test.YtdpdkjpkehgdnaaQuOpen
import Derived.ProofKit
import Derived.Lib.SmallJoins
import Derived.Carry
namespace Go.Proofs.Ytdpdkjpkehgdnaa.quadPlays
open Go.ChangeShapes Go.WideShapes Go.ChangeAt Go.RowKit Go.Joins

theorem own : ownKnob Try.prog.godebug = none := by kernel_rfl
theorem laid : laidOutB Try.prog = true := by kernel_rfl

theorem walk (n : Int) (A : Option Addr) (cap : Nat) (l : List Op5) (w : World) (ho : OpsAt w.heap.size w A l) (hl : l.length ≤ maxLen) :
    Calls Try.prog 5 #[.int .i64 n, .slice A l.length cap] w fun e w' => e = .returned (.bool true) ∧ Below w.heap.size w w' := by
  by_cases hs : (n < 0 ∨ 5 < n) ∨ ((0 ≤ n ∧ n ≤ 5) ∧ 25 < l.length)
  · exact plays_short n A l.length cap w hs hl
  · obtain ⟨k, rfl⟩ : ∃ k : Nat, n = k := ⟨n.toNat, by omega⟩
    exact plays_long k (by omega) A cap l w ho (by omega)

set_option maxRecDepth 100000 in
theorem lifted (os : Os) (started : os.Started) (H : Type) (enc : TypeId × Value → H) :
    ReturnsInHanded {} Try.checked os 5 .any (Rows.quadPlaysSpec.pre6 enc Try.prog Try.f5 Rows.quadPlaysRow.domain false) (Rows.quadPlaysSpec.post enc Try.prog Try.f5 false true false false) := by
  refine returnsInHanded_of_change (C := Try.checked) own started (by kernel_rfl) Try.func5
    (ChangeSpec.witness6 (enc := enc) (C := Try.checked) false ⟨#[], #[.int .i64 0, .slice none 0 0], []⟩ 8 (by kernel_rfl) (by kernel_rfl) (by kernel_rfl) (by kernel_rfl)) ?_
  intro W base args ds gs before hval0 hW _ _
  have hval : ∀ (j : Nat) t v, Try.f5.params[j]? = some t → args[j]? = some v → Value.okWide Try.prog W .any base t v := hval0
  have hW' := hW
  obtain ⟨p, q, hA0, hV, rfl, _, _⟩ := hW
  have hA : DataW.TrodAll enc Try.prog W 0 (fun _ => true) true Try.f5.params.toList args.toList ds p := hA0
  rw [Try.params5] at hA hval
  obtain ⟨v0, v1, d0, d1, p0, p1, rfl, rfl, rfl, h0, h1⟩ := trodAll_two hA
  obtain ⟨rfl, rfl⟩ := trodVars_none hV
  have hlt1 : ∀ x ∈ p1, x.block < W.heap.size := fun x hx => hW'.lt x (by simp [hx])
  obtain ⟨a0, rfl, rfl, rfl, wa0⟩ := open_int Try.underlying3 (hval 0 3 v0 rfl rfl) h0
  have hk1 := h1
  obtain ⟨B1, n1, m1, rfl⟩ := okWide_slice Try.underlying22 (hval 1 22 v1 rfl rfl)
  obtain ⟨fuel1, hf1⟩ := h1
  obtain ⟨A1, cap1, ops1, ev1, hl1, ho1⟩ := open_ops hf1
  clear hA0 hval0
  have hwalk := walk a0 A1 cap1 ops1 W ho1 hl1
  rw [← ev1] at hwalk
  refine hwalk.mono fun e W' ⟨he, hb⟩ => ?_
  subst he
  exact ⟨_, rfl, ⟨_, _, _, [], _, [], hW', trodAll_mk1 (shut_bool Try.underlying4 _), trodAll_mk2 (shut_int Try.underlying3 wa0) (Below.trod laid (by kernel_rfl) (of_decide_eq_true (by kernel_rfl)) hk1 hb hlt1), rfl, hb.frame _, fun h => by cases h⟩⟩

theorem holds : Rows.QuadPlaysSaid :=
  OpenClaim.holds_of_wide 5 Try.f5 rfl rfl rfl rfl rfl rfl rfl ⟨rfl, rfl, rfl, rfl, rfl⟩ rfl rfl rfl rfl rfl (by kernel_rfl) Try.func5 (by kernel_rfl)
    (of_decide_eq_true (by kernel_rfl)) (by unfold Func.isWrapper; first | (rw [if_pos (by decide +kernel)]; kernel_rfl) | (rw [if_neg (by decide +kernel)]; exact ⟨rfl, rfl⟩))
    (fun os started H enc _ => lifted os started H enc)

#print axioms holds
end Go.Proofs.Ytdpdkjpkehgdnaa.quadPlays
