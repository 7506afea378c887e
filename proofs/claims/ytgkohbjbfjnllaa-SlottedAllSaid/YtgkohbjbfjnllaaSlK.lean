/-
  slices.Grow of nothing, slices.Concat of a page's slots: for every page.
-/
import Derived.Test.YtgkohbjbfjnllaaSlI
import Derived.Test.YtgkohbjbfjnllaaZeros
import Derived.Laws.AppendOwnNone
namespace Go.Proofs.Ytgkohbjbfjnllaa
open Go.RowKit

theorem grow_zero (w : World) :
    Calls Try.prog 40 #[.slice none 0 0, .int .i64 0] w fun e w' => e = .returned (.slice none 0 0) ∧ w = w' := by
  go_enter Try.func40, Try.ntmps40
  go_wp2
  go_ret
  exact ⟨rfl, rfl⟩

set_option maxHeartbeats 400000 in
theorem grow_nil (n : Nat) (w : World) (h0 : 0 < n) (hn : n ≤ 1048576) :
    Calls Try.prog 40 #[.slice none 0 0, .int .i64 (n : Int)] w fun e w' => ∃ v, e = .returned v ∧ w'.ownsRow w.heap.size 5 1 v 0 [] ∧ Below w.heap.size w w' := by
  obtain ⟨i0, hi, hz0, hz1, hz2⟩ := info_parts infoB
  go_enter Try.func40, Try.ntmps40
  go_wp2_with (first
    | (at_builtin; refine wpList_zeros_own w rfl (.tmp 20) (.tmp 21) 29 3 rfl w.heap.size 5 i0 .i64 .i64 Try.underlying29 Try.underlying3 hi hz0 hz1 hz2 (.slice none 0 0) 0 [] rfl (World.ownsRow_nil _ _ _ _) n rfl (by omega) hn (Nat.le_refl _) ?_))
  intro v' w1 hown hgrow
  have HO := hid hown
  have HG := hid hgrow
  obtain ⟨g, cap, hv⟩ : ∃ g cap, v' = .slice (some ⟨g, 0, none⟩) n cap := by
    obtain ⟨_, ⟨_, h00⟩ | ⟨g, cap, cur, hx, _⟩⟩ := hown
    · omega
    · exact ⟨g, cap, by simpa using hx⟩
  clear hown hgrow
  subst hv
  go_wp2
  go_ret
  refine ⟨_, rfl, ?_, (Below.refl _ _).grown HG.out (Nat.le_refl _) (fun k hk => by simp [Value.ownBlock] at hk)⟩
  obtain ⟨_, ⟨hx, _⟩ | ⟨g', cap', cur, hx, hb, hh, hn2, hm, hs, ht⟩⟩ := HO.out
  · cases hx
  · exact ⟨rfl, .inr ⟨g', cap', cur, by injection hx with h1 _ h2; injection h1 with h1; injection h1 with h1; subst h1 h2; rfl, hb, hh, Nat.zero_le _, hm, hs, by simp⟩⟩

theorem grow_any (n : Nat) (w : World) (hn : n ≤ 1048576) :
    Calls Try.prog 40 #[.slice none 0 0, .int .i64 (n : Int)] w fun e w' => ∃ v, e = .returned v ∧ w'.ownsRow w.heap.size 5 1 v 0 [] ∧ Below w.heap.size w w' := by
  by_cases h0 : n = 0
  · subst h0
    exact (grow_zero w).mono fun e w' ⟨he, hw⟩ => ⟨_, he, World.ownsRow_nil _ _ _ _, by rw [hw]; exact Below.refl _ _⟩
  · exact grow_nil n w (by omega) hn

/-- the bytes as cells -/
def cellsB (l : List UInt8) : List Value := l.map fun b => Value.int .u8 (b.toNat : Int)
theorem cellsB_append (a b : List UInt8) : cellsB (a ++ b) = cellsB a ++ cellsB b := List.map_append
theorem cellsB_length (l : List UInt8) : (cellsB l).length = l.length := List.length_map _
theorem cellsB_one (l : List UInt8) : ∀ u ∈ cellsB l, u.oneCell' = true := by simp [cellsB, Value.oneCell']
theorem cellsB_get (l : List UInt8) (j : Nat) (u : Value) (h : (cellsB l)[j]? = some u) : ∃ b, l[j]? = some b ∧ u = .int .u8 (b.toNat : Int) := by
  simp only [cellsB, List.getElem?_map, Option.map_eq_some_iff] at h
  obtain ⟨b, hb, rfl⟩ := h
  exact ⟨b, hb, rfl⟩

/-- append(v, r...) of a record's bytes -/
theorem wpList_append_rec {w : World} {ops : Array Oper} {rest : List Oper} {o : Oper} {a : Act} {Q : Exit → Act → World → Prop} (hgd : o.guard = none) (s x : Operand)
    (ho : o.op = .call { callee := .builtin .append, args := #[s, x], argTypes := #[29, 29] }) (base : Nat) (v : Value) (n : Nat) (xs : List Value) (hs : a.eval s = v) (hown : w.ownsRow base 5 1 v n xs)
    (xv : Value) (l : List UInt8) (hx : a.eval x = xv) (hrec : RecAt w xv l) (hn : n ≤ 1048576) (hl : l.length ≤ 1048576) (hbase : base ≤ w.heap.size)
    (h : ∀ v' w', w'.ownsRow base 5 1 v' (n + l.length) (xs ++ cellsB l) → w.grownBy w' v.ownBlock → wpList Try.prog ops Q rest (a.put o.dst v') w') : wpList Try.prog ops Q (o :: rest) a w := by
  obtain ⟨i0, hi, hz0, hz1, hz2⟩ := info_parts infoB
  rcases hrec with ⟨rfl, rfl⟩ | ⟨g, off, cap, cur, fr, rfl, hcap, hg, hcur⟩
  · exact wpList_append_own_none hgd s x 29 ho base 5 i0 1 Try.underlying29 hi v n xs hs hown hx (h v w (by simpa [cellsB] using hown) ⟨rfl, rfl, rfl, Nat.le_refl _, fun _ _ _ => rfl⟩)
  · refine wpList_append_own w hgd s x 29 ho base 5 i0 (.int .u8 0) 1 1 Try.underlying29 hi hz0 hz1 hz2 rfl (by decide) v n xs hs hown ⟨g, off, none⟩ l.length cap (cellsB l) hx (by rw [cellsB_length]; omega) ?_ (cellsB_one l) (by unfold maxLen; omega) (by omega) hbase (fun v' w' h1 h2 _ => h v' w' h1 h2)
    intro j u hu
    obtain ⟨b, hb, rfl⟩ := cellsB_get l j u hu
    have := hcur j b hb
    by_cases h0 : j = 0
    · subst h0; simp at this; simp [World.cell?, Addr.add, hg, this]
    · simp [World.cell?, Addr.add, hg, this, h0]

/-- the records, one behind another -/
def catB (recs : List (List UInt8)) : List UInt8 := recs.flatten
theorem catL_succ (recs : List (List UInt8)) (k : Nat) (hk : k < recs.length) : catB (recs.take (k + 1)) = catB (recs.take k) ++ recs[k] := by
  unfold catB
  rw [List.take_add_one, List.getElem?_eq_getElem hk]
  simp only [Option.toList_some, List.flatten_append, List.flatten_cons, List.flatten_nil, List.append_nil]
theorem catL_le (recs : List (List UInt8)) : (catB recs).length ≤ sumL recs := by
  unfold catB
  induction recs with
  | nil => simp
  | cons l r ih => simp only [List.flatten_cons, List.length_append, sumL]; omega
theorem catL_take_le (recs : List (List UInt8)) (k : Nat) : (catB (recs.take k)).length ≤ sumL recs := Nat.le_trans (catL_le _) (sumL_take_le _ _)

/-- how many bytes records have together -/
def catN (recs : List (List UInt8)) : Nat := (catB recs).length
theorem catN_succ (recs : List (List UInt8)) (k : Nat) (hk : k < recs.length) : catN (recs.take (k + 1)) = catN (recs.take k) + recs[k].length := by rw [catN, catL_succ recs k hk, List.length_append]; rfl
theorem catN_le (recs : List (List UInt8)) : catN recs ≤ sumL recs := catL_le recs
theorem catN_take_le (recs : List (List UInt8)) (k : Nat) : catN (recs.take k) ≤ sumL recs := catL_take_le recs k

set_option maxHeartbeats 1000000 in
theorem concat_any {B : Nat} (bp : Nat) (size : Int) (sv : Value) (recs : List (List UInt8)) (w : World) (hp : PageAt w B bp size sv recs) (hb : tot recs ≤ 1048576) :
    Calls Try.prog 37 #[sv] w fun e w' => ∃ v, e = .returned v ∧ w'.ownsRow w.heap.size 5 1 v (catN recs) (cellsB (catB recs)) ∧ Below w.heap.size w w' := by
  obtain ⟨A, cap, hsv⟩ := hp.sv_form
  subst hsv
  have hl0 := len_le_sumL recs
  have hl1 : recs.length ≤ 1048576 ∧ sumL recs ≤ 1048576 := by unfold tot at hb; omega
  obtain ⟨hl1, hl2⟩ := hl1
  have hcl := catN_le recs
  have HP := hid hp
  clear hp hl0 hb
  go_enter Try.func37, Try.ntmps37
  go_wp2
  go_loop [3, 11] (fun s3 s11 => ∃ k : Nat, k ≤ recs.length ∧ s11 = .int .i64 k ∧ s3 = .int .i64 (catN (recs.take k) : Int)) (fun _ s11 => recs.length - (intOf s11).toNat)
  case atStart => exact ⟨0, Nat.zero_le _, rfl, rfl⟩
  case round =>
    obtain ⟨k, hk, rfl, rfl⟩ := hrel
    by_cases hlt : k < recs.length
    · obtain ⟨g, cap', hsv⟩ := HP.out.sv_row (by omega)
      injection hsv with hA _ hcap
      subst hA hcap
      obtain ⟨A2, c2, hcell, hrec⟩ := HP.out.row_rec k hlt
      have hsucc := catN_succ recs k hlt
      have hle := catN_take_le recs (k + 1)
      have HS := hid hsucc
      rw [hsucc] at hle
      generalize catN (recs.take k) = q at hle HS ⊢
      generalize recs[k].length = r at hle hcell HS
      clear hsucc hrec
      go_wp2
      go_round
      case rel => exact ⟨k + 1, by omega, by go_num, by rw [HS.out]; go_num⟩
      case measure => simp [intOf]; omega
    · obtain rfl : k = recs.length := by omega
      rw [List.take_length]
      go_wp2_with fail
      refine (grow_any _ _ (by omega)).mono ?_
      rintro e w1 ⟨v0, rfl, ho, hb1⟩
      have HO := hid ho
      clear ho
      go_wp2_with fail
      go_loopw [6, 27] (fun s6 s27 wr => ∃ k : Nat, k ≤ recs.length ∧ s27 = .int .i64 k ∧ wr.ownsRow w.heap.size 5 1 s6 (catN (recs.take k)) (cellsB (catB (recs.take k))) ∧ Below w.heap.size w wr) (fun _ s27 _ => recs.length - (intOf s27).toNat)
      case atStart => exact ⟨0, Nat.zero_le _, rfl, HO.out, hb1⟩
      case round =>
        obtain ⟨k, hk, rfl, hown, hbw⟩ := hrel
        have HO := hid hown
        have HB := hid hbw
        clear hown hbw
        have hsz : w.heap.size ≤ wr.heap.size := HB.out.size
        by_cases hlt : k < recs.length
        · obtain ⟨g, cap', hsv⟩ := HP.out.sv_row (by omega)
          injection hsv with hA _ hcap
          subst hA hcap
          obtain ⟨A2, c2, hcell, hrec⟩ := (HP.out.kept HB.out).row_rec k hlt
          have HREC := hid hrec
          have hsucc := catN_succ recs k hlt
          have hle := catN_take_le recs (k + 1)
          have HS := hid hsucc
          rw [hsucc] at hle
          clear hsucc hrec
          go_wp2_with (first
            | (at_builtin; refine wpList_append_rec rfl (.tmp 31) (.tmp 32) rfl w.heap.size _ _ _ rfl HO.out _ _ rfl HREC.out (by omega) (by omega) hsz ?_))
          intro v' w2 hown2 hgrow
          have HO2 := hid hown2
          have HB2 : Hid (Below w.heap.size w w2) := hid (HB.out.grown hgrow hsz (fun k hk => (HO.out.lt k hk).1))
          clear hown2 hgrow
          go_wp2
          go_roundw
          case rel => exact ⟨k + 1, by omega, by go_num, by rw [HS.out, catL_succ recs k hlt, cellsB_append]; exact HO2.out, HB2.out⟩
          case measure => simp [intOf]; omega
        · obtain rfl : k = recs.length := by omega
          have HO3 := hid (show wr.ownsRow w.heap.size 5 1 _ (catN recs) (cellsB (catB recs)) by simpa using HO.out)
          go_wp2
          go_ret
          exact ⟨_, rfl, HO3.out, HB.out⟩
end Go.Proofs.Ytgkohbjbfjnllaa
