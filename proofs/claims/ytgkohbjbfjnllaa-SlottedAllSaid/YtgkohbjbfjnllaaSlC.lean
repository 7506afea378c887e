/-
  Package slotted: Room; bytes.Clone: for every page.
-/
import Derived.Test.YtgkohbjbfjnllaaSlB
namespace Go.Proofs.Ytgkohbjbfjnllaa
open Go.RowKit

theorem PageAt.drewN [fb : Forbid] {w : World} {B bp : Nat} {size : Int} {sv : Value} {recs : List (List UInt8)} (h : PageAt w B bp size sv recs) (n : Nat) : PageAt (w.drewN n) B bp size sv recs := by
  simpa [PageAt, RecAt, World.ownsRow] using h
theorem PageAt.same [fb : Forbid] {w w' : World} {B bp : Nat} {size : Int} {sv : Value} {recs : List (List UInt8)} (h : PageAt w B bp size sv recs) (hh : w'.heap = w.heap) : PageAt w' B bp size sv recs := by
  unfold PageAt RecAt World.ownsRow at *
  rw [hh]
  exact h

/-- the room that is told -/
def roomV (size : Int) (recs : List (List UInt8)) : Int :=
  if emptyAt recs = recs.length then (if recs.length = 63 then 0 else max (size - (tot recs : Int) - 2) 0) else max (size - (tot recs : Int)) 0

set_option maxHeartbeats 400000 in
theorem room_any [fb : Forbid] {B : Nat} (bp : Nat) (size : Int) (sv : Value) (recs : List (List UInt8)) (w : World) (hp : PageAt w B bp size sv recs) (hb : tot recs ≤ 1048576) (hs : 0 ≤ size ∧ size ≤ 1048576) :
    Calls Try.prog 11 #[.pointer (some ⟨bp, 0, none⟩)] w fun e w' => e = .returned (.int .i64 (roomV size recs)) ∧ Below w.heap.size w w' ∧ w'.heap = w.heap := by
  have hc := hp.slots_cell
  have hz := hp.size_cell
  have hlen := len_le_sumL recs
  have hlen2 : recs.length ≤ 1048576 := by unfold tot at hb; omega
  obtain ⟨A, cap, hsv⟩ : ∃ A cap, sv = .slice A recs.length cap := by
    rcases hp.rows with ⟨rfl, rfl⟩ | ⟨g, cap, rfl, _⟩
    · exact ⟨_, _, rfl⟩
    · exact ⟨_, _, rfl⟩
  have HP := hid hp
  have hle := emptyAt_le recs
  have HB := hid hb
  clear hp hlen
  have HR := hid (show roomV size recs = if emptyAt recs = recs.length then (if recs.length = 63 then 0 else max (size - (tot recs : Int) - 2) 0) else max (size - (tot recs : Int)) 0 from rfl)
  obtain ⟨hs1, hs2⟩ := hs
  subst hsv
  have hw1 : IntKind.i64.wrap (size - (tot recs : Int)) = size - (tot recs : Int) := IntWalk.i64_in _ (by omega)
  go_enter Try.func11, Try.ntmps11
  go_wp2
  go_quiet ((go_at_call 27; exact (length_any bp size _ recs _ (HP.out.drewN _) HB.out).mono (fun _ _ hx => ⟨hx.1, _, hx.2.symm⟩)))
  go_wp2_with fail
  refine (empty_any bp size _ recs _ (HP.out.drewN _) hlen2).mono ?_
  rintro e w1 ⟨rfl, rfl⟩
  by_cases he : emptyAt recs = recs.length
  · have he' : ((emptyAt recs : Int) == (recs.length : Int)) = true := by simp [he]
    by_cases h63 : recs.length = 63
    · go_wp2
      go_ret
      exact ⟨ret_int (by rw [HR.out, if_pos he, if_pos h63]), below_drewN (Below.refl _ _) _, by simp⟩
    · go_wp2
      all_goals go_ret
      all_goals exact ⟨ret_int (by rw [HR.out, if_pos he, if_neg h63]; omega), below_drewN (Below.refl _ _) _, by simp⟩
  · have he' : ((emptyAt recs : Int) == (recs.length : Int)) = false := by simp; omega
    go_wp2
    all_goals go_ret
    all_goals exact ⟨ret_int (by rw [HR.out, if_neg he]; omega), below_drewN (Below.refl _ _) _, by simp⟩
end Go.Proofs.Ytgkohbjbfjnllaa
