/-
  The statement QuadAsks: of any rectangle it is told whether a tile has any value, and which one all have; how many tiles have it. No condition.
-/
import Derived.Test.YtdpdkjpkehgdnaaQuadAsks
import Derived.Test.YtdpdkjpkehgdnaaQuOpen
import Derived.ProofKit
import Derived.Lib.SmallJoins
import Derived.Carry
namespace Go.Proofs.Ytdpdkjpkehgdnaa.quadAsks
open Go.ChangeShapes Go.WideShapes Go.ChangeAt Go.RowKit Go.Joins

theorem own : ownKnob Try.prog.godebug = none := by kernel_rfl
theorem laid : laidOutB Try.prog = true := by kernel_rfl

theorem walk (n : Int) (A : Option Addr) (cap : Nat) (l : List Op5) (z : Op5) (w : World) (ho : OpsAt w.heap.size w A l) (hl : l.length ≤ maxLen) :
    Calls Try.prog 3 #[.int .i64 n, .slice A l.length cap, .agg #[.int .i64 (z.x), .int .i64 (z.y), .int .i64 (z.m), .int .i64 (z.n), .int .i64 (z.v)]] w fun e w' => e = .returned (.bool true) ∧ Below w.heap.size w w' := by
  by_cases hs : (n < 0 ∨ 5 < n) ∨ ((0 ≤ n ∧ n ≤ 5) ∧ 25 < l.length)
  · exact asks_short n A l.length cap z.x z.y z.m z.n z.v w hs hl
  · obtain ⟨k, rfl⟩ : ∃ k : Nat, n = k := ⟨n.toNat, by omega⟩
    exact asks_long k (by omega) A cap l z.x z.y z.m z.n z.v w ho (by omega)

set_option maxRecDepth 100000 in
theorem lifted (os : Os) (started : os.Started) (H : Type) (enc : TypeId × Value → H) :
    ReturnsInHanded {} Try.checked os 3 .any (Rows.quadAsksSpec.pre6 enc Try.prog Try.f3 Rows.quadAsksRow.domain false) (Rows.quadAsksSpec.post enc Try.prog Try.f3 false true false false) := by
  refine returnsInHanded_of_change (C := Try.checked) own started (by kernel_rfl) Try.func3
    (ChangeSpec.witness6 (enc := enc) (C := Try.checked) false ⟨#[], #[.int .i64 0, .slice none 0 0, .agg #[.int .i64 0, .int .i64 0, .int .i64 0, .int .i64 0, .int .i64 0]], []⟩ 8 (by kernel_rfl) (by kernel_rfl) (by kernel_rfl) (by kernel_rfl)) ?_
  intro W base args ds gs before hval0 hW _ _
  have hval : ∀ (j : Nat) t v, Try.f3.params[j]? = some t → args[j]? = some v → Value.okWide Try.prog W .any base t v := hval0
  have hW' := hW
  obtain ⟨p, q, hA0, hV, rfl, _, _⟩ := hW
  have hA : DataW.TrodAll enc Try.prog W 0 (fun _ => true) true Try.f3.params.toList args.toList ds p := hA0
  rw [Try.params3] at hA hval
  obtain ⟨v0, v1, v2, d0, d1, d2, p0, p1, p2, rfl, rfl, rfl, h0, h1, h2⟩ := trodAll_three hA
  obtain ⟨rfl, rfl⟩ := trodVars_none hV
  have hlt1 : ∀ x ∈ p1, x.block < W.heap.size := fun x hx => hW'.lt x (by simp [hx])
  have hlt2 : ∀ x ∈ p2, x.block < W.heap.size := fun x hx => hW'.lt x (by simp [hx])
  obtain ⟨a0, rfl, rfl, rfl, wa0⟩ := open_int Try.underlying3 (hval 0 3 v0 rfl rfl) h0
  have hk1 := h1
  have hk2 := h2
  obtain ⟨B1, n1, m1, rfl⟩ := okWide_slice Try.underlying22 (hval 1 22 v1 rfl rfl)
  obtain ⟨fuel1, hf1⟩ := h1
  obtain ⟨A1, cap1, ops1, ev1, hl1, ho1⟩ := open_ops hf1
  obtain ⟨z, rfl⟩ := open_op (hval 2 26 v2 rfl rfl) h2
  clear hA0 hval0
  have hwalk := walk a0 A1 cap1 ops1 z W ho1 hl1
  rw [← ev1] at hwalk
  refine hwalk.mono fun e W' ⟨he, hb⟩ => ?_
  subst he
  exact ⟨_, rfl, ⟨_, _, _, [], _, [], hW', trodAll_mk1 (shut_bool Try.underlying4 _), trodAll_mk3 (shut_int Try.underlying3 wa0) (Below.trod laid (by kernel_rfl) (of_decide_eq_true (by kernel_rfl)) hk1 hb hlt1) (Below.trod laid (by kernel_rfl) (of_decide_eq_true (by kernel_rfl)) hk2 hb hlt2), rfl, hb.frame _, fun h => by cases h⟩⟩

theorem holds : Rows.QuadAsksSaid :=
  OpenClaim.holds_of_wide 3 Try.f3 rfl rfl rfl rfl rfl rfl rfl ⟨rfl, rfl, rfl, rfl, rfl⟩ rfl rfl rfl rfl rfl (by kernel_rfl) Try.func3 (by kernel_rfl)
    (of_decide_eq_true (by kernel_rfl)) (by unfold Func.isWrapper; first | (rw [if_pos (by decide +kernel)]; kernel_rfl) | (rw [if_neg (by decide +kernel)]; exact ⟨rfl, rfl⟩))
    (fun os started H enc _ => lifted os started H enc)

#print axioms holds
end Go.Proofs.Ytdpdkjpkehgdnaa.quadAsks
