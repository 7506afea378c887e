/-
  The law's awake (of quad): it returns true. No condition.
-/
import Derived.Test.YtdpdkjpkehgdnaaQuM
namespace Go.Proofs.Ytdpdkjpkehgdnaa
open Go.RowKit

theorem awake_any (w : World) :
    Calls Try.prog 9 #[] w fun e w' => e = .returned (.bool true) ∧ Below w.heap.size w w' := by
  have ht : setT 2 0 0 0 0 2 2 1 (.leaf 0) = .node (.leaf 1) (.leaf 0) (.leaf 0) (.leaf 0) := by kernel_rfl
  have hfit : (Sq.node (.leaf 1) (.leaf 0) (.leaf 0) (.leaf 0)).fits 2 := ⟨1, rfl, trivial, trivial, trivial, trivial⟩
  have ho : onlyV (lvs 2 0 0 1 1 1 1 (.node (.leaf 1) (.leaf 0) (.leaf 0) (.leaf 0))) = (1, true) := by kernel_rfl
  have hc : cntL 1 (lvs 2 0 0 0 0 (sd 2) (sd 2) (.node (.leaf 1) (.leaf 0) (.leaf 0) (.leaf 0))) = 4 := by kernel_rfl
  have ha : ((lvs 2 0 0 1 1 9 9 (.node (.leaf 1) (.leaf 0) (.leaf 0) (.leaf 0))).any fun p => p.2.2.2 == 1) = true := by kernel_rfl
  have hn : (Sq.node (.leaf 1) (.leaf 0) (.leaf 0) (.leaf 0)).nodes = 5 := by kernel_rfl
  generalize hT : Sq.node (.leaf 1) (.leaf 0) (.leaf 0) (.leaf 0) = T at *
  clear hT
  go_enter Try.func9, Try.ntmps9
  go_wp2_with fail
  refine (new_yes 4 w rfl).mono ?_
  rintro e w1 ⟨⟨g, rfl, hq⟩, hb1⟩
  replace hq : QuadAt w1 w.heap.size g (sd 2) (.leaf 0) := hq
  go_wp2_with fail
  refine (qset_yes w.heap.size g 2 (.leaf 0) 0 0 2 2 1 w1 hq trivial (by decide) rfl).mono ?_
  rintro e w2 ⟨rfl, hq2, hb2⟩
  rw [ht] at hq2
  replace hb2 := hb1.trans hb2
  clear hq hb1 ht
  go_wp2_with fail
  refine (qset_no w.heap.size g (sd 2) _ 0 0 5 1 1 w2 hq2 rfl).mono ?_
  rintro e w3 ⟨rfl, hb3⟩
  have hq3 := hq2.below hb3
  replace hb3 := bthrough hb2 hb3 hb2.size
  clear hq2 hb2
  go_wp2_with fail
  refine (at_any w.heap.size g 2 _ 1 1 w3 hq3 hfit (by decide)).mono ?_
  rintro e w4 ⟨rfl, hb4⟩
  rw [ho]
  have hq4 := hq3.below hb4
  replace hb4 := bthrough hb3 hb4 hb3.size
  clear hq3 hb3
  go_wp2_with fail
  refine (nodes_get w.heap.size g _ _ w4 hq4 (by rw [hn]; decide)).mono ?_
  rintro e w5 ⟨rfl, hb5⟩
  rw [hn]
  have hq5 := hq4.below hb5
  replace hb5 := bthrough hb4 hb5 hb4.size
  clear hq4 hb4
  go_wp2_with fail
  refine (count_any w.heap.size g 2 _ 1 w5 hq5 hfit (by decide) (by rw [hn]; decide)).mono ?_
  rintro e w6 ⟨rfl, hb6⟩
  rw [hc]
  have hq6 := hq5.below hb6
  replace hb6 := bthrough hb5 hb6 hb5.size
  clear hq5 hb5
  go_wp2_with fail
  refine (any_any w.heap.size g 2 _ 1 1 9 9 1 w6 hq6 hfit (by decide)).mono ?_
  rintro e w7 ⟨rfl, hb7⟩
  rw [ha]
  replace hb7 := bthrough hb6 hb7 hb6.size
  go_wp2
  go_ret
  exact ⟨rfl, hb7⟩
end Go.Proofs.Ytdpdkjpkehgdnaa
