/-
  The statement RectJoins: for every two rectangles, Join gives the least one that has the tiles of both, and Growth what it has more. No condition.
-/
import Derived.Test.YtipfngliahhhiaaRectJoins
import Derived.ProofKit
import Derived.Lib.SmallJoins
namespace Go.Proofs.Ytipfngliahhhiaa.rectJoins
open Go.ChangeShapes Go.WideShapes Go.ChangeAt Go.RowKit Go.Joins

theorem own : ownKnob Try.prog.godebug = none := by kernel_rfl
theorem cellsR : Try.prog.cellsOf 23 = 4 := by kernel_rfl

set_option maxRecDepth 100000 in
theorem lifted (os : Os) (started : os.Started) (H : Type) (enc : TypeId × Value → H) :
    ReturnsInHanded {} Try.checked os 5 .any (Rows.rectJoinsSpec.pre6 enc Try.prog Try.f5 Rows.rectJoinsRow.domain false) (Rows.rectJoinsSpec.post enc Try.prog Try.f5 false true false false) := by
  refine returnsInHanded_of_change (C := Try.checked) own started (by kernel_rfl) Try.func5
    (ChangeSpec.witness6 (enc := enc) (C := Try.checked) false ⟨#[], #[.agg #[.int .i64 0, .int .i64 0, .int .i64 0, .int .i64 0], .agg #[.int .i64 0, .int .i64 0, .int .i64 0, .int .i64 0]], []⟩ 8 (by kernel_rfl) (by kernel_rfl) (by kernel_rfl) (by kernel_rfl)) ?_
  intro W base args ds gs before hval0 hW _ _
  have hval : ∀ (j : Nat) t v, Try.f5.params[j]? = some t → args[j]? = some v → Value.okWide Try.prog W .any base t v := hval0
  have hW' := hW
  obtain ⟨p, q, hA0, hV, rfl, _, _⟩ := hW
  have hA : DataW.TrodAll enc Try.prog W 0 (fun _ => true) true Try.f5.params.toList args.toList ds p := hA0
  rw [Try.params5] at hA hval
  obtain ⟨v0, v1, d0, d1, p0, p1, rfl, rfl, rfl, h0, h1⟩ := trodAll_two hA
  obtain ⟨rfl, rfl⟩ := trodVars_none hV
  obtain ⟨c00, c01, c02, c03, y00, y01, y02, y03, m0, rfl, rfl, rfl, hy00, hy01, hy02, hy03⟩ := open_agg4 Try.underlying23 (by kernel_rfl) cellsR (hval 0 23 v0 rfl rfl) h0
  obtain ⟨a0, e00, rfl, wa0⟩ := DataW.trod_int Try.underlying3 hy00
  obtain ⟨b0, e01, rfl, wb0⟩ := DataW.trod_int Try.underlying3 hy01
  obtain ⟨c0, e02, rfl, wc0⟩ := DataW.trod_int Try.underlying3 hy02
  obtain ⟨d0, e03, rfl, wd0⟩ := DataW.trod_int Try.underlying3 hy03
  simp at e00 e01 e02 e03
  subst e00 e01 e02 e03
  have reads0 : ∀ (W' : World) (sp : Nat → Bool), DataW.Trod enc Try.prog W' 0 sp true 23 (.agg #[.int .i64 a0, .int .i64 b0, .int .i64 c0, .int .i64 d0]) (.agg [.lit (.int .i64 a0), .lit (.int .i64 b0), .lit (.int .i64 c0), .lit (.int .i64 d0)]) [] := fun W' sp =>
    shut_agg4 (y0 := (.lit (.int .i64 a0), [])) (y1 := (.lit (.int .i64 b0), [])) (y2 := (.lit (.int .i64 c0), [])) (y3 := (.lit (.int .i64 d0), [])) Try.underlying23 (by kernel_rfl) cellsR ⟨1, by simp [DataW.trod, Try.underlying3, wa0]⟩ ⟨1, by simp [DataW.trod, Try.underlying3, wb0]⟩ ⟨1, by simp [DataW.trod, Try.underlying3, wc0]⟩ ⟨1, by simp [DataW.trod, Try.underlying3, wd0]⟩
  obtain ⟨c10, c11, c12, c13, y10, y11, y12, y13, m1, rfl, rfl, rfl, hy10, hy11, hy12, hy13⟩ := open_agg4 Try.underlying23 (by kernel_rfl) cellsR (hval 1 23 v1 rfl rfl) h1
  obtain ⟨a1, e10, rfl, wa1⟩ := DataW.trod_int Try.underlying3 hy10
  obtain ⟨b1, e11, rfl, wb1⟩ := DataW.trod_int Try.underlying3 hy11
  obtain ⟨c1, e12, rfl, wc1⟩ := DataW.trod_int Try.underlying3 hy12
  obtain ⟨d1, e13, rfl, wd1⟩ := DataW.trod_int Try.underlying3 hy13
  simp at e10 e11 e12 e13
  subst e10 e11 e12 e13
  have reads1 : ∀ (W' : World) (sp : Nat → Bool), DataW.Trod enc Try.prog W' 0 sp true 23 (.agg #[.int .i64 a1, .int .i64 b1, .int .i64 c1, .int .i64 d1]) (.agg [.lit (.int .i64 a1), .lit (.int .i64 b1), .lit (.int .i64 c1), .lit (.int .i64 d1)]) [] := fun W' sp =>
    shut_agg4 (y0 := (.lit (.int .i64 a1), [])) (y1 := (.lit (.int .i64 b1), [])) (y2 := (.lit (.int .i64 c1), [])) (y3 := (.lit (.int .i64 d1), [])) Try.underlying23 (by kernel_rfl) cellsR ⟨1, by simp [DataW.trod, Try.underlying3, wa1]⟩ ⟨1, by simp [DataW.trod, Try.underlying3, wb1]⟩ ⟨1, by simp [DataW.trod, Try.underlying3, wc1]⟩ ⟨1, by simp [DataW.trod, Try.underlying3, wd1]⟩
  clear hA0 hval0
  simp only [List.append_nil] at hW'
  refine (lawJoins a0 b0 c0 d0 a1 b1 c1 d1 W).mono fun e W' ⟨he, hb⟩ => ?_
  subst he
  exact ⟨_, rfl, ⟨_, _, _, [], [], [], hW', trodAll_mk1 (shut_bool Try.underlying4 _), trodAll_mk2 (reads0 _ _) (reads1 _ _), rfl, hb.frame _, fun h => by cases h⟩⟩

theorem holds : Rows.RectJoinsSaid :=
  OpenClaim.holds_of_wide 5 Try.f5 rfl rfl rfl rfl rfl rfl rfl ⟨rfl, rfl, rfl, rfl, rfl⟩ rfl rfl rfl rfl rfl (by kernel_rfl) Try.func5 (by kernel_rfl)
    (of_decide_eq_true (by kernel_rfl)) (by unfold Func.isWrapper; first | (rw [if_pos (by decide +kernel)]; kernel_rfl) | (rw [if_neg (by decide +kernel)]; exact ⟨rfl, rfl⟩))
    (fun os started H enc _ => lifted os started H enc)

#print axioms holds
end Go.Proofs.Ytipfngliahhhiaa.rectJoins
