/-
  Package slotted: Del: for every page.
-/
import Derived.Test.YtgkohbjbfjnllaaSlF
namespace Go.Proofs.Ytgkohbjbfjnllaa
open Go.RowKit

/-- without those at the end that have nothing -/
def cutV (recs : List (List UInt8)) : List (List UInt8) := (recs.reverse.dropWhile List.isEmpty).reverse
theorem cutV_nil : cutV [] = [] := rfl
theorem cutV_empty (a : List (List UInt8)) : cutV (a ++ [[]]) = cutV a := by simp [cutV]
theorem cutV_full (a : List (List UInt8)) (l : List UInt8) (h : l ≠ []) : cutV (a ++ [l]) = a ++ [l] := by
  cases l with
  | nil => exact absurd rfl h
  | cons x r => simp [cutV]

/-- the slots' slice made shorter by one -/
theorem PageAt.shorter [fb : Forbid] {w : World} {B bp : Nat} {size : Int} {g cap : Nat} {recs : List (List UInt8)} {l : List UInt8} (h : PageAt w B bp size (.slice (some ⟨g, 0, none⟩) (recs ++ [l]).length cap) (recs ++ [l])) :
    PageAt (w.setCell ⟨bp, 1, none⟩ (.slice (some ⟨g, 0, none⟩) recs.length cap)) B bp size (.slice (some ⟨g, 0, none⟩) recs.length cap) recs ∧ Touch B bp w (w.setCell ⟨bp, 1, none⟩ (.slice (some ⟨g, 0, none⟩) recs.length cap)) := by
  have t : Touch B bp w (w.setCell ⟨bp, 1, none⟩ (.slice (some ⟨g, 0, none⟩) recs.length cap)) := Touch.set_bp w 1 _ h.2.1.1
  obtain ⟨h1, h2, vs, ⟨hl, hv⟩, hr⟩ := h
  rcases hv with ⟨hv, _⟩ | ⟨g', cap', cur, hv, hg, hh, hn, hm, hs, ht⟩
  · cases hv
  · injection hv with hv _ hv2
    injection hv with hv
    injection hv with hv _ _
    subst hv hv2
    have hne : g ≠ bp := by
      intro hx
      subst hx
      rw [hh] at h1
      injection h1 with h1
      injection h1 with _ h1 _
      exact absurd h1 (by decide)
    simp at hl hn ht
    have hvs : (vs.take recs.length).length = recs.length * 1 := by simp; omega
    refine ⟨⟨?_, ⟨h2.1, fun b hb2 => Nat.lt_of_lt_of_le (h2.2 b hb2) t.below.size⟩, vs.take recs.length, ⟨hvs, .inr ⟨g, cap, cur, rfl, hg, ?_, by omega, hm, hs, ?_⟩⟩, fun j lj hj => ?_⟩, t⟩
    · rw [heap_set_self _ h1]
      rfl
    · rw [Below.heap_setCell _ _ _ _ (by simpa using hne)]
      exact hh
    · rw [← ht, List.take_take]
      congr 1
      omega
    · have hlt : j < recs.length := (List.getElem?_eq_some_iff.1 hj).1
      obtain ⟨v0, hv0, hr0⟩ := hr j lj (by rw [List.getElem?_append_left hlt]; exact hj)
      exact ⟨v0, by rw [List.getElem?_take_of_lt hlt]; exact hv0, hr0.1.touch t h1, hr0.2⟩

theorem Touch.drewN (B bp : Nat) (w : World) (n : Nat) : Touch B bp w (w.drewN n) := ⟨below_drewN (Below.refl _ _) _, fun _ _ _ _ _ _ _ => by simp⟩

theorem del_none [fb : Forbid] {B : Nat} (bp : Nat) (size : Int) (sv : Value) (recs : List (List UInt8)) (i : Int) (w : World) (hp : PageAt w B bp size sv recs) (hh : hasV recs i = false) :
    Calls Try.prog 12 #[.pointer (some ⟨bp, 0, none⟩), .int .i64 i] w fun e w' => e = .returned (.int .i64 14) ∧ w = w' := by
  have hcon := has_any bp size sv recs i w hp
  rw [hh] at hcon
  clear hp hh
  go_enter Try.func12, Try.ntmps12
  go_wp2_with fail
  refine hcon.mono ?_
  rintro e w1 ⟨rfl, rfl⟩
  go_wp2
  go_ret
  exact ⟨rfl, rfl⟩

/-- how many slots the page at bp has -/
def lenOf (w : World) (bp : Nat) : Nat := match w.cell? ⟨bp, 1, none⟩ with
  | some (.slice _ n _) => n
  | _ => 0
theorem PageAt.lenOf [fb : Forbid] {w : World} {B bp : Nat} {size : Int} {A : Option Addr} {n cap : Nat} {recs : List (List UInt8)} (hp : PageAt w B bp size (.slice A n cap) recs) : lenOf w bp = n := by
  simp [Go.Proofs.Ytgkohbjbfjnllaa.lenOf, hp.slots_cell]

theorem del_some [fb : Forbid] {B : Nat} (bp : Nat) (size : Int) (sv : Value) (recs : List (List UInt8)) (k : Nat) (w : World) (hp : PageAt w B bp size sv recs) (hb : recs.length ≤ 1048576) (hh : hasV recs (k : Int) = true) (hk : k < recs.length) :
    Calls Try.prog 12 #[.pointer (some ⟨bp, 0, none⟩), .int .i64 (k : Int)] w fun e w' => e = .returned (.int .i64 0) ∧ (∃ sv', PageAt w' B bp size sv' (cutV (recs.set k []))) ∧ Touch B bp w w' := by
  have hcon := has_any bp size sv recs k w hp
  rw [hh] at hcon
  have HP := hid hp
  have hc := hp.slots_cell
  obtain ⟨g, cap, hsv⟩ : ∃ g cap, sv = .slice (some ⟨g, 0, none⟩) recs.length cap := by
    rcases hp.rows with ⟨_, h00⟩ | ⟨g, cap, h, _⟩
    · subst h00; simp at hk
    · exact ⟨g, cap, h⟩
  subst hsv
  have hf := (hp.row_cell k hk).2
  obtain ⟨u, hu⟩ := (hp.row_cell k hk).1
  clear hp hh
  obtain ⟨hP2, ht2⟩ := HP.out.put (.inl ⟨rfl, rfl⟩ : RecAt w (.slice none 0 0) []) far_nil k
  have HP2 := hid hP2
  have HT2 := hid ht2
  clear hP2 ht2
  go_enter Try.func12, Try.ntmps12
  go_wp2_with fail
  refine hcon.mono ?_
  rintro e w1 ⟨rfl, rfl⟩
  go_wp2
  generalize w.setCell ⟨g, k, none⟩ (.slice none 0 0) = w2 at HP2 HT2 ⊢
  clear hc hf hu hcon
  go_loopw [] (fun wl => ∃ rs : List (List UInt8), PageAt wl B bp size (.slice (some ⟨g, 0, none⟩) rs.length cap) rs ∧ cutV rs = cutV (recs.set k []) ∧ Touch B bp w wl ∧ rs.length ≤ 1048576) (fun wl => lenOf wl bp)
  case atStart => exact ⟨recs.set k [], by simpa using HP2.out, rfl, HT2.out, by simpa using hb⟩
  case round =>
    obtain ⟨rs, hP, hcut, hT, hlen⟩ := hrel
    have hcl := hP.slots_cell
    have HL := hid hP.lenOf
    have HPl := hid hP
    have HC := hid hcut
    have HT := hid hT
    rcases List.eq_nil_or_concat rs with hrs | ⟨a, l, hrs⟩
    · subst hrs
      clear hP hcut hT
      go_wp2
      go_quiet (fail)
      go_wp2
      go_ret
      refine ⟨rfl, ⟨.slice (some ⟨g, 0, none⟩) 0 cap, ?_⟩, HT.out.trans (Touch.drewN B bp wr nq)⟩
      rw [← HC.out, cutV_nil]
      exact HPl.out.drewN nq
    · rw [List.concat_eq_append] at hrs
      subst hrs
      have hal : (a ++ [l]).length = a.length + 1 := by simp
      obtain ⟨A2, c2, hcell⟩ : ∃ A2 c2, wr.cell? ⟨g, a.length, none⟩ = some (.slice A2 l.length c2) := by
        rcases hP.rows with ⟨hx, _⟩ | ⟨g', cap', hx, _, _, hrow⟩
        · cases hx
        · injection hx with hx
          injection hx with hx
          injection hx with hx
          subst hx
          obtain ⟨A2, c2, hc2, _⟩ := hrow a.length l (by simp)
          exact ⟨A2, c2, hc2⟩
      have hshort := hid hP.shorter
      have hfz := hP.frozen_bp 1
      have hcap : a.length + 1 ≤ cap ∧ cap ≤ maxLen := by
        rcases hP.rows with ⟨hx, _⟩ | ⟨g', cap', hx, hn, hm, _⟩
        · cases hx
        · injection hx with _ _ hx
          subst hx
          exact ⟨by simpa using hn, hm⟩
      obtain ⟨hcap1, hcap2⟩ := hcap
      unfold maxLen at hcap2
      clear hP hcut hT
      rw [hal] at hcl hlen
      have hg0 : decide ((((a.length + 1 : Nat) : Int)) > 0) = true := decide_eq_true (by omega)
      have hw0 : IntKind.i64.wrap (((a.length + 1 : Nat) : Int) - 1) = (a.length : Int) := by rw [IntWalk.i64_in _ (by omega)]; omega
      by_cases hl : l = []
      · subst hl
        go_wp2
        go_quiet (fail)
        go_wp2
        go_region
        go_wp2
        have hs := (HPl.out.drewN (nq + 1)).shorter
        have ht := Touch.drewN B bp wr (nq + 1)
        go_roundw
        case rel => exact ⟨a, hs.1, by rw [← HC.out, cutV_empty], HT.out.trans (ht.trans hs.2), by omega⟩
        case measure =>
          rw [hs.1.lenOf, HL.out]
          simp
      · have hl0 : ((l.length : Int) == 0) = false := by
          simpa using hl
        go_wp2
        go_quiet (fail)
        go_wp2
        go_ret
        refine ⟨rfl, ⟨.slice (some ⟨g, 0, none⟩) (a ++ [l]).length cap, ?_⟩, HT.out.trans (Touch.drewN B bp wr nq)⟩
        rw [← HC.out, cutV_full a l hl]
        exact HPl.out.drewN nq
end Go.Proofs.Ytgkohbjbfjnllaa
