/-
  Layer 9's reference: texts (as values, lists of them in memory); total, Put, Cut: for every list of texts.
-/
import Derived.Test.YtgkohbjbfjnllaaSlN
import Derived.Test.YtgkohbjbfjnllaaSlL
namespace Go.Proofs.Ytgkohbjbfjnllaa
open Go.RowKit

/-- bytes as a text -/
def baOf (l : List UInt8) : ByteArray := ⟨l.toArray⟩
theorem baOf_toList (l : List UInt8) : (baOf l).toList = l := by simp [baOf]
theorem baOf_size (l : List UInt8) : (baOf l).size = l.length := by simp [baOf, ByteArray.size]
theorem baOf_append (a b : List UInt8) : baOf a ++ baOf b = baOf (a ++ b) := ByteArray.mk_append_mk a b

/-- a list of texts in memory, in blocks of the call's own -/
def StrsAt (w : World) (B : Nat) (v : Value) (recs : List (List UInt8)) : Prop := w.ownsRow B 9 1 v recs.length (recs.map fun l => Value.string (baOf l))

theorem StrsAt.form {w : World} {B : Nat} {v : Value} {recs : List (List UInt8)} (h : StrsAt w B v recs) : ∃ A c, v = .slice A recs.length c := own_form h
theorem StrsAt.row {w : World} {B : Nat} {v : Value} {recs : List (List UInt8)} (h : StrsAt w B v recs) (h0 : 0 < recs.length) : ∃ g c, v = .slice (some ⟨g, 0, none⟩) recs.length c := by
  obtain ⟨_, ⟨_, h2⟩ | ⟨g, cap, cur, h2, _⟩⟩ := h
  · omega
  · exact ⟨g, cap, h2⟩
theorem StrsAt.cell {w : World} {B : Nat} {g n c : Nat} {recs : List (List UInt8)} (h : StrsAt w B (.slice (some ⟨g, 0, none⟩) n c) recs) (k : Nat) (hk : k < recs.length) : w.cell? ⟨g, k, none⟩ = some (.string (baOf recs[k])) := by
  obtain ⟨_, ⟨h2, _⟩ | ⟨g', cap, cur, h2, _, hh, hn, _, hs, ht⟩⟩ := h
  · cases h2
  · injection h2 with h2
    injection h2 with h2
    injection h2 with h2
    subst h2
    have h3 : (cur.toList.take (recs.length * 1))[k]? = some (.string (baOf recs[k])) := by rw [ht, List.getElem?_map, List.getElem?_eq_getElem hk]; rfl
    rw [List.getElem?_take_of_lt (by omega)] at h3
    simpa [World.cell?, hh] using h3
theorem StrsAt.free {w : World} {B : Nat} {g n c : Nat} {recs : List (List UInt8)} (h : StrsAt w B (.slice (some ⟨g, 0, none⟩) n c) recs) (k : Nat) : w.frozen? ⟨g, k, none⟩ = false := by
  obtain ⟨_, ⟨h2, _⟩ | ⟨g', cap, cur, h2, _, hh, _⟩⟩ := h
  · cases h2
  · injection h2 with h2
    injection h2 with h2
    injection h2 with h2
    subst h2
    simp [World.frozen?, hh]
theorem StrsAt.kept {w w' : World} {B : Nat} {v : Value} {recs : List (List UInt8)} (h : StrsAt w B v recs) (hk : ∀ (k : Nat) (cur : Array Value), w.heap[k]? = some (Obj.cells cur 9 (0, 0)) → w'.heap[k]? = w.heap[k]?) : StrsAt w' B v recs := by
  obtain ⟨h1, h2 | ⟨g, cap, cur, h2, h3, hh, r⟩⟩ := h
  · exact ⟨h1, .inl h2⟩
  · exact ⟨h1, .inr ⟨g, cap, cur, h2, h3, (hk g cur hh).trans hh, r⟩⟩
theorem StrsAt.below {w w' : World} {B : Nat} {v : Value} {recs : List (List UInt8)} (h : StrsAt w B v recs) (hb : Below w.heap.size w w') : StrsAt w' B v recs := h.kept fun k _ hk => hb.block k (heap_lt hk)
theorem StrsAt.touch {w w' : World} {B B' bp : Nat} {v : Value} {recs : List (List UInt8)} {c : Array Value} {fr : Nat × Nat} (h : StrsAt w B v recs) (t : Touch B' bp w w') (hb : w.heap[bp]? = some (.cells c 53 fr)) : StrsAt w' B v recs :=
  h.kept fun k cur hk => t.block k cur _ _ hk (by decide) (fun hkb => by
    subst hkb
    rw [hb] at hk
    injection hk with hk
    injection hk with _ hk _
    exact absurd hk (by decide))

set_option maxHeartbeats 400000 in
theorem total_any {B : Nat} (v : Value) (recs : List (List UInt8)) (w : World) (hx : StrsAt w B v recs) (hb : tot recs ≤ 1048576) :
    Calls Try.prog 30 #[v] w fun e w' => e = .returned (.int .i64 (tot recs : Int)) ∧ w = w' := by
  obtain ⟨A, c, hv⟩ := hx.form
  subst hv
  have hbs := baOf_size
  have HT := hid (show tot recs = 1 + sumL recs from rfl)
  have hl0 := len_le_sumL recs
  have hl : recs.length ≤ 1048576 ∧ sumL recs ≤ 1048576 := by unfold tot at hb; omega
  obtain ⟨hl1, hl2⟩ := hl
  have HX := hid hx
  clear hx hl0 hb
  go_enter Try.func30, Try.ntmps30
  go_wp2
  go_loop [3, 8] (fun s3 s8 => ∃ k : Nat, k ≤ recs.length ∧ s8 = .int .i64 k ∧ s3 = .int .i64 (1 + (sumL (recs.take k) : Int))) (fun _ s8 => recs.length - (intOf s8).toNat)
  case atStart => exact ⟨0, Nat.zero_le _, rfl, by simp [sumL]⟩
  case round =>
    obtain ⟨k, hk, rfl, rfl⟩ := hrel
    by_cases hlt : k < recs.length
    · obtain ⟨g, c', hv⟩ := HX.out.row (by omega)
      injection hv with hA _ hc
      subst hA hc
      have hcell := HX.out.cell k hlt
      have hsucc := sumL_take_succ recs k _ (List.getElem?_eq_getElem hlt)
      have hle := sumL_take_le recs (k + 1)
      have HS := hid hsucc
      rw [hsucc] at hle
      generalize sumL (recs.take k) = q at hle HS ⊢
      generalize recs[k] = r at hle hcell HS
      clear hsucc
      go_wp2
      go_round
      case rel => exact ⟨k + 1, by omega, by go_num, by rw [HS.out]; go_num⟩
      case measure => simp [intOf]; omega
    · obtain rfl : k = recs.length := by omega
      go_wp2
      go_ret
      exact ⟨ret_int (by rw [HT.out]; simp), rfl⟩

/-- where a record of so many bytes would stand; -1: there is no room -/
def placeV (size : Int) (recs : List (List UInt8)) (n : Int) : Int :=
  if 62 < emptyAt recs ∨ size < (tot recs : Int) + (if emptyAt recs = recs.length then 2 else 0) + n then -1 else (emptyAt recs : Int)

set_option maxHeartbeats 1000000 in
theorem refPut_any {B : Nat} (v : Value) (recs : List (List UInt8)) (size n : Int) (w : World) (hx : StrsAt w B v recs) (hb : tot recs ≤ 1048576) (hs : 0 ≤ size ∧ size ≤ 1048576) (hn : 0 ≤ n ∧ n ≤ 1048576) :
    Calls Try.prog 18 #[v, .int .i64 size, .int .i64 n] w fun e w' => e = .returned (.int .i64 (placeV size recs n)) ∧ w = w' := by
  obtain ⟨A, c, hv⟩ := hx.form
  subst hv
  obtain ⟨hs1, hs2⟩ := hs
  obtain ⟨hn1, hn2⟩ := hn
  have hbs := baOf_size
  have hbt := baOf_toList
  have HT := hid (show tot recs = 1 + sumL recs from rfl)
  have HPV := hid (show placeV size recs n = if 62 < emptyAt recs ∨ size < (tot recs : Int) + (if emptyAt recs = recs.length then 2 else 0) + n then -1 else (emptyAt recs : Int) from rfl)
  have hel := emptyAt_le recs
  have hl0 := len_le_sumL recs
  have hl : recs.length ≤ 1048576 ∧ sumL recs ≤ 1048576 := by unfold tot at hb; omega
  obtain ⟨hl1, hl2⟩ := hl
  have HX := hid hx
  clear hx hl0 hb
  go_enter Try.func18, Try.ntmps18
  go_wp2
  go_loop [7, 8, 9] (fun s7 s8 s9 => ∃ k : Nat, k ≤ recs.length ∧ s9 = .int .i64 k ∧ s7 = .int .i64 (1 + (sumL (recs.take k) : Int)) ∧ ((emptyAt recs < k ∧ s8 = .int .i64 (emptyAt recs : Int)) ∨ (k ≤ emptyAt recs ∧ s8 = .int .i64 (-1)))) (fun _ _ s9 => recs.length - (intOf s9).toNat)
  case atStart => exact ⟨0, Nat.zero_le _, rfl, by simp [sumL], .inr ⟨Nat.zero_le _, rfl⟩⟩
  case round =>
    obtain ⟨k, hk, rfl, rfl, hat⟩ := hrel
    by_cases hlt : k < recs.length
    · obtain ⟨g, c', hv⟩ := HX.out.row (by omega)
      injection hv with hA _ hc
      subst hA hc
      have hcell := HX.out.cell k hlt
      have hsucc := sumL_take_succ recs k _ (List.getElem?_eq_getElem hlt)
      have hle := sumL_take_le recs (k + 1)
      have HS := hid hsucc
      rw [hsucc] at hle
      have hsk := fun he (h0 : recs[k].length ≠ 0) => emptyAt_skip recs k he hlt h0
      have hst := fun he (h0 : recs[k].length = 0) => emptyAt_stop recs k he hlt h0
      generalize sumL (recs.take k) = q at hle HS ⊢
      generalize recs[k] = r at hle hcell HS hsk hst
      clear hsucc
      rcases hat with ⟨he, rfl⟩ | ⟨he, rfl⟩
      · clear hsk hst
        have hf : decide ((emptyAt recs : Int) < 0) = false := decide_eq_false (by omega)
        go_wp2
        go_round
        case rel => exact ⟨k + 1, by omega, by go_num, by rw [HS.out]; go_num, .inl ⟨by omega, rfl⟩⟩
        case measure => simp [intOf]; omega
      · cases r with
        | nil =>
          have he2 := hid (hst he rfl)
          clear hsk hst
          go_wp2
          go_round
          case rel => exact ⟨k + 1, by omega, by go_num, by rw [HS.out]; go_num, .inl ⟨by rw [← he2.out]; omega, by rw [← he2.out]⟩⟩
          case measure => simp [intOf]; omega
        | cons b t =>
          have he2 := hid (hsk he (by simp))
          clear hsk hst
          simp only [List.length_cons] at hle HS
          go_wp2
          go_round
          case rel => exact ⟨k + 1, by omega, by go_num, by rw [HS.out]; go_num, .inr ⟨he2.out, rfl⟩⟩
          case measure => simp [intOf]; omega
    · obtain rfl : k = recs.length := by omega
      rw [List.take_length]
      rcases hat with ⟨he, rfl⟩ | ⟨he, rfl⟩
      · have hf : decide ((emptyAt recs : Int) < 0) = false := decide_eq_false (by omega)
        have HI := hid (show (if emptyAt recs = recs.length then (2 : Int) else 0) = 0 from if_neg (by omega))
        have HT2 := hid (show (tot recs : Int) = 1 + (sumL recs : Int) by rw [HT.out]; omega)
        go_wp2
        all_goals go_ret
        all_goals exact ⟨ret_int (by rw [HPV.out, HI.out, HT2.out]; first | rw [if_pos (by omega)] | rw [if_neg (by omega)]), rfl⟩
      · have he2 : emptyAt recs = recs.length := by omega
        have HI := hid (show (if emptyAt recs = recs.length then (2 : Int) else 0) = 2 from if_pos he2)
        have HT2 := hid (show (tot recs : Int) = 1 + (sumL recs : Int) by rw [HT.out]; omega)
        have HE := hid he2
        clear he2
        go_wp2
        all_goals go_ret
        all_goals exact ⟨ret_int (by rw [HPV.out, HI.out, HT2.out, HE.out]; first | rw [if_pos (by omega)] | rw [if_neg (by omega)]), rfl⟩

theorem cutV_take_full (recs : List (List UInt8)) (k : Nat) (hk : k < recs.length) (h : recs[k] ≠ []) : cutV (recs.take (k + 1)) = recs.take (k + 1) := by
  rw [List.take_add_one, List.getElem?_eq_getElem hk]
  exact cutV_full _ _ h
theorem cutV_take_empty (recs : List (List UInt8)) (k : Nat) (hk : k < recs.length) (h : recs[k] = []) : cutV (recs.take (k + 1)) = cutV (recs.take k) := by
  rw [List.take_add_one, List.getElem?_eq_getElem hk, h]
  exact cutV_empty _

theorem infoT : (Try.prog.info? 9).map (fun i => (i.zero, i.size, i.bytes)) = some (some (.string ⟨#[]⟩), 1, 16) := by kernel_rfl

set_option maxHeartbeats 1000000 in
theorem refCut_any {B : Nat} (v : Value) (recs : List (List UInt8)) (w : World) (hx : StrsAt w B v recs) (hb : recs.length ≤ 1048576) :
    Calls Try.prog 31 #[v] w fun e w' => ∃ v', e = .returned v' ∧ StrsAt w' w.heap.size v' (cutV recs) ∧ Below w.heap.size w w' := by
  obtain ⟨A, c, hv⟩ := hx.form
  subst hv
  have hbs := baOf_size
  have hbt := baOf_toList
  have HX := hid hx
  clear hx
  go_enter Try.func31, Try.ntmps31
  go_wp2
  go_loop [3] (fun s3 => ∃ k : Nat, k ≤ recs.length ∧ s3 = .int .i64 k ∧ cutV (recs.take k) = cutV recs) (fun s3 => (intOf s3).toNat)
  case atStart => exact ⟨recs.length, Nat.le_refl _, rfl, by rw [List.take_length]⟩
  case round =>
    obtain ⟨k, hk, rfl, hcut⟩ := hrel
    have HC := hid hcut
    clear hcut
    rcases k with _ | k
    · have HK := hid (show cutV recs = recs.take 0 by rw [← HC.out]; rfl)
      go_wp2
      go_loopw [4, 5] (fun s4 s5 wr => ∃ j : Nat, j ≤ 0 ∧ s5 = .int .i64 j ∧ StrsAt wr w.heap.size s4 (recs.take j) ∧ Below w.heap.size w wr) (fun _ s5 _ => 0 - (intOf s5).toNat)
      case atStart => exact ⟨0, Nat.zero_le _, rfl, World.ownsRow_nil _ _ _ _, Below.refl _ _⟩
      case round =>
        obtain ⟨j, hj, rfl, hown, hbw⟩ := hrel
        have HO := hid hown
        have HB := hid hbw
        clear hown hbw
        have hsz : w.heap.size ≤ wr.heap.size := HB.out.size
        obtain ⟨i0, hi, hz0, hz1, hz2⟩ := info_parts infoT
        have hlt : ¬ j < 0 := by omega
        obtain rfl : j = 0 := by omega
        have HF := hid (show StrsAt wr w.heap.size _ (cutV recs) by rw [HK.out]; exact HO.out)
        go_wp2
        go_ret
        exact ⟨_, rfl, HF.out, HB.out⟩
    · obtain ⟨g, c', hv⟩ := HX.out.row (by omega)
      injection hv with hA _ hc
      subst hA hc
      have hcell := HX.out.cell k (by omega)
      have hkl : k < recs.length := by omega
      have hce := fun (h : recs[k] = []) => cutV_take_empty recs k hkl h
      have hcf := fun (h : recs[k] ≠ []) => cutV_take_full recs k hkl h
      have hg0 : decide ((((k + 1 : Nat) : Int)) > 0) = true := decide_eq_true (by omega)
      have hw0 : IntKind.i64.wrap (((k + 1 : Nat) : Int) - 1) = (k : Int) := by rw [IntWalk.i64_in _ (by omega)]; omega
      generalize recs[k] = r at hcell hce hcf
      cases r with
      | nil =>
        have he2 := hid (hce rfl)
        clear hce hcf
        go_wp2
        go_round
        case rel => exact ⟨k, by omega, by go_num, by rw [← he2.out]; exact HC.out⟩
        case measure => simp [intOf]
      | cons b t =>
        have he2 := hid (hcf (by simp))
        have HK := hid (show cutV recs = recs.take (k + 1) by rw [← HC.out]; exact he2.out)
        clear hce hcf
        go_wp2
        go_loopw [4, 5] (fun s4 s5 wr => ∃ j : Nat, j ≤ (k + 1) ∧ s5 = .int .i64 j ∧ StrsAt wr w.heap.size s4 (recs.take j) ∧ Below w.heap.size w wr) (fun _ s5 _ => (k + 1) - (intOf s5).toNat)
        case atStart => exact ⟨0, Nat.zero_le _, rfl, World.ownsRow_nil _ _ _ _, Below.refl _ _⟩
        case round =>
          obtain ⟨j, hj, rfl, hown, hbw⟩ := hrel
          have HO := hid hown
          have HB := hid hbw
          clear hown hbw
          have hsz : w.heap.size ≤ wr.heap.size := HB.out.size
          obtain ⟨i0, hi, hz0, hz1, hz2⟩ := info_parts infoT
          by_cases hlt : j < (k + 1)
          · have hjl : j < recs.length := by omega
            have hcell := (HX.out.below HB.out).cell j hjl
            have HT := hid (show recs.take (j + 1) = recs.take j ++ [recs[j]] by rw [List.take_add_one, List.getElem?_eq_getElem hjl]; rfl)
            have hlen : (recs.take j).length = j := by rw [List.length_take]; omega
            have HL := hid hlen
            have HO' : Hid (wr.ownsRow w.heap.size 9 1 _ j ((recs.take j).map fun l => Value.string (baOf l))) := hid (by have h := HO.out; unfold StrsAt at h; rwa [hlen] at h)
            clear hlen
            generalize recs[j] = r at hcell HT
            go_wp2_with (first
              | (at_builtin; go_loud (refine wpList_append_own _ rfl (.tmp 25) (.tmp 30) 35 rfl w.heap.size 9 i0 (.string ⟨#[]⟩) 1 16 Try.underlying35 hi hz0 hz1 hz2 rfl (by decide) _ _ _ rfl (HO'.out.alloc _) ⟨wr.heap.size, 0, none⟩ 1 1 [.string (baOf r)] rfl rfl ?c1 (by simp [Value.oneCell']) (by unfold maxLen; omega) (by omega) (by simp; omega) ?_)))
            case c1 =>
              intro i u hu
              rcases i with _ | i
              · simp at hu
                subst hu
                show World.cell? _ ⟨wr.heap.size, 0, none⟩ = _
                simp only [World.cell?, heap_alloc_new]
                rfl
              · simp at hu
            intro v' w2 hown2 hgrow _
            have HO2 := hid hown2
            have HB2 : Hid (Below w.heap.size w w2) := hid ((HB.out.alloc hsz _).grown hgrow (by simp; omega) (fun k hk => (HO'.out.lt k hk).1))
            clear hown2 hgrow
            go_wp2
            go_roundw
            case rel => exact ⟨j + 1, by omega, by go_num, by unfold StrsAt; rw [HT.out, List.length_append, HL.out, List.map_append, List.map_take]; exact HO2.out, HB2.out⟩
            case measure => simp [intOf]; omega
          · obtain rfl : j = (k + 1) := by omega
            have HF := hid (show StrsAt wr w.heap.size _ (cutV recs) by rw [HK.out]; exact HO.out)
            go_wp2
            go_ret
            exact ⟨_, rfl, HF.out, HB.out⟩
end Go.Proofs.Ytgkohbjbfjnllaa
