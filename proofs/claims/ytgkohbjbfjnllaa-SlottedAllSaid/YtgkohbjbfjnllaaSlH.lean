/-
  Package slotted's iterator All: it hands over the records in order, as far as it is asked: for every page.
-/
import Derived.RangeFuncNested
import Derived.RangeFuncBound
import Derived.RangeFuncCalls
import Derived.RangeFuncLeaves
import Derived.OwnWalkIn
import Derived.TacticsInMore
import Derived.LoopNIn
import Derived.LoopIn
import Derived.Shelf.Abstract
import Derived.Shelf.RegionOpen
import Derived.Test.YtgkohbjbfjnllaaSlG
import Derived.Test.YtgkohbjbfjnllaaRangeG
namespace Go.Proofs.Ytgkohbjbfjnllaa
open Go.RowKit Go.Shelf

attribute [local go_sem] Oper.semAt_some

theorem abides_below {α : Type} {B : Nat} {J : α → World → Prop} (h : AbidesFrom B J) {s : α} {W W' : World} (hs : J s W) (hb : Below W.heap.size W W') : J s W' :=
  h s W W' none hs ⟨hb.os, hb.tape, hb.output, hb.size, fun k hk _ => hb.block k hk⟩ (fun r e => by cases e)

/-- the slots with a record, of the first k -/
def idxs (recs : List (List UInt8)) (k : Nat) : List Nat := (List.range k).filter fun i => hasV recs (i : Int)
theorem idxs_succ (recs : List (List UInt8)) (k : Nat) : idxs recs (k + 1) = if hasV recs (k : Int) then idxs recs k ++ [k] else idxs recs k := by
  simp only [idxs, List.range_succ, List.filter_append]
  by_cases h : hasV recs (k : Int) <;> simp [h]
theorem idxs_length (recs : List (List UInt8)) (k : Nat) : (idxs recs k).length ≤ k := by
  have := List.length_filter_le (fun i : Nat => hasV recs (i : Int)) (List.range k)
  simpa [idxs] using this

theorem idxs_prefix (recs : List (List UInt8)) {k n : Nat} (h : k ≤ n) : idxs recs k <+: idxs recs n := by
  obtain ⟨d, rfl⟩ := Nat.le.dest h
  exact ⟨(List.map (k + ·) (List.range d)).filter fun i => hasV recs (i : Int), by simp [idxs, List.range_add]⟩

theorem len_rec_le (recs : List (List UInt8)) (i : Nat) (l : List UInt8) (h : recs[i]? = some l) : l.length ≤ sumL recs := by
  have h1 := sumL_take_succ recs i l h
  have h2 := sumL_take_le recs (i + 1)
  omega

abbrev encA (p : Int × Value) : Array Value := #[.int .i64 p.1, p.2]

theorem all_any (a : Addr) (w : World) :
    Calls Try.prog 16 #[.pointer (some a)] w fun e w' => e = .returned (.func (.func 32) #[] #[.pointer (some ⟨w.heap.size, 0, none⟩)]) ∧ w.alloc (.cells #[.pointer (some a)] 24) = w' := by
  go_enter Try.func16, Try.ntmps16
  go_wp2
  go_ret
  exact ⟨rfl, rfl⟩

theorem ownsRow_base {w : World} {b b' : Nat} {e : TypeId} {size : Nat} {v : Value} {n : Nat} {xs : List Value} (h : w.ownsRow b e size v n xs) (hb : b' ≤ b) : w.ownsRow b' e size v n xs := by
  obtain ⟨h1, h2 | ⟨g, cap, cur, h2, h3, r⟩⟩ := h
  · exact ⟨h1, .inl h2⟩
  · exact ⟨h1, .inr ⟨g, cap, cur, h2, Nat.le_trans hb h3, r⟩⟩

/-- what comes with an element: its slot's number, the record as new memory -/
def handG (B0 : Nat) (recs : List (List UInt8)) (pre : List (Int × Value)) (p : Int × Value) (W : World) : Prop :=
  ∃ (k : Nat) (l : List UInt8), recs[k]? = some l ∧ l ≠ [] ∧ p.1 = (k : Int) ∧ pre.map Prod.fst = (idxs recs k).map (fun (i : Nat) => (i : Int)) ∧ W.ownsRow B0 5 1 p.2 l.length (l.map fun b => Value.int .u8 (b.toNat : Int))

set_option maxHeartbeats 1000000 in
theorem all1_any (nn : Nat) (hn : 1 ≤ nn) (l P0 B bp : Nat) (size : Int) (sv : Value) (recs : List (List UInt8)) (J Jx : List (Int × Value) → World → Prop) (W0 W : World) (hb0 : Below W0.heap.size W0 W) (hJ : AbidesFrom W.heap.size J)
    (hp : PageAt W0 B bp size sv recs) (hb : tot recs ≤ 1048576)
    (hc0 : W.cell? ⟨P0, 0, none⟩ = some (.pointer (some ⟨bp, 0, none⟩)))
    (hY : ∀ pre p W1, J pre W1 → pre.length < recs.length → handG W0.heap.size recs pre p W1 → YieldAt Fence.wide (nn - 1) Try.prog l (encA p) W1 fun e W' =>
      (e = .returned (.bool true) ∧ J (pre ++ [p]) W' ∧ Below W0.heap.size W1 W') ∨ (e = .returned (.bool false) ∧ Jx (pre ++ [p]) W'))
    (h0 : J [] W) :
    CallsIn Fence.wide nn Try.prog 32 #[.func (.yield l) #[] #[], .pointer (some ⟨P0, 0, none⟩)] W fun e W' => (∃ v, e = .returned v) ∧
      ((∃ ys, ys.map Prod.fst = (idxs recs recs.length).map (fun (i : Nat) => (i : Int)) ∧ J ys W') ∨ (∃ pre, pre.map Prod.fst <+: (idxs recs recs.length).map (fun (i : Nat) => (i : Int)) ∧ Jx pre W')) := by
  have hle : ∀ (i : Nat) (l : List UInt8), recs[i]? = some l → l.length ≤ 1048576 := fun i l hi => by have := len_rec_le recs i l hi; unfold tot at hb; omega
  have hlen := len_le_sumL recs
  have hlen2 : recs.length ≤ 1048576 := by unfold tot at hb; omega
  clear hlen hb
  obtain ⟨A, cap, hsv⟩ := hp.sv_form
  subst hsv
  have HP := hid (hp.kept hb0)
  have hc := HP.out.slots_cell
  have hp0 := hid hp
  have HB0 := hid hb0
  clear hb0 hp
  refine callsIn_of_wp Try.func32 rfl trivial ?_ rfl
  simp only [Try.ntmps32, List.size_toArray, List.length_cons, List.length_nil, Nat.reduceAdd, Nat.reduceSub, Array.replicate_succ, Array.replicate_zero, List.push_toArray, List.append_toArray, List.nil_append, List.cons_append]
  gi_wp2
  gi_loopw [10] (fun s10 wr => ∃ k : Nat, k ≤ recs.length ∧ s10 = .int .i64 k ∧ (∃ ys : List (Int × Value), ys.map Prod.fst = (idxs recs k).map (fun (i : Nat) => (i : Int)) ∧ J ys wr) ∧ Below W0.heap.size W wr) (fun s10 _ => recs.length - (intOf s10).toNat)
  case atStart => exact ⟨0, Nat.zero_le _, rfl, ⟨[], rfl, h0⟩, Below.refl _ _⟩
  case round =>
    obtain ⟨k, hk, rfl, ⟨ys, hys, hJs⟩, hbw⟩ := hrel
    by_cases hlt : k < recs.length
    · have HPr := hid (hp0.out.kept (HB0.out.trans hbw))
      have hi : recs[k]? = some recs[k] := List.getElem?_eq_getElem hlt
      obtain ⟨g, A1, c1, hsg, hcell, hrec⟩ : ∃ g A1 c1, A = some ⟨g, 0, none⟩ ∧ wr.cell? ⟨g, k, none⟩ = some (.slice A1 recs[k].length c1) ∧ RecAt wr (.slice A1 recs[k].length c1) recs[k] := by
        rcases HPr.out.rows with ⟨hx, hr0⟩ | ⟨g', cap', hx, _, _, hrow⟩
        · subst hr0; simp at hlt
        · injection hx with hx _ _
          obtain ⟨A1, c1, h1, h2⟩ := hrow k _ hi
          exact ⟨g', A1, c1, hx, h1, h2⟩
      subst hsg
      have HREC := hid hrec
      have HV := hid (show hasV recs (k : Int) = decide (0 < recs[k].length) by simp [hasV, hi]; cases recs[k] <;> simp)
      have HL := hid (show recs[k].length ≤ 1048576 by have := hle _ _ hi; omega)
      have HYS := hid hys
      have HI := hid hi
      clear hrec hi hys
      by_cases h00 : recs[k].length = 0
      · rw [h00] at hcell
        gi_wp2
        refine ⟨trivial, ?_⟩
        gi_wp2
        refine ⟨fun _ h => (by cases h), ?_⟩
        gi_wp2
        go_roundw
        case rel => exact ⟨k + 1, by omega, by go_num, ⟨ys, by rw [idxs_succ, HV.out, h00]; exact HYS.out, hJs⟩, hbw⟩
        case measure => simp [intOf]; omega
      · gi_wp2
        refine ⟨trivial, (callsIn_wide.2 (clone_own _ recs[k] _ HREC.out.bytes HL.out)).mono ?_⟩
        rintro e w2 ⟨v2, rfl, ho2, hb2⟩
        have hJ2 : J ys w2 := abides_below hJ hJs hb2
        have HO2 := hid ho2
        clear ho2
        have hlen3 : ys.length < recs.length := by
          have h1 := congrArg List.length HYS.out
          simp only [List.length_map] at h1
          have h2 := idxs_length recs k
          omega
        have hbk : Below W0.heap.size wr w2 := hb2.mono ((HB0.out.trans hbw).size)
        obtain ⟨fn, tmps, assign, body, hy, hR⟩ := hY _ ((k : Int), v2) w2 hJ2 hlen3 ⟨k, recs[k], HI.out, (fun h => h00 (by rw [h]; rfl)), rfl, HYS.out, ownsRow_base HO2.out ((HB0.out.trans hbw).size)⟩
        dsimp only [encA] at hy
        clear hlen3
        gi_wp2
        refine hR.mono ?_
        rintro e W3 (⟨rfl, hJ3, hk3⟩ | ⟨rfl, hJx3⟩)
        · gi_wp2
          go_roundw
          case rel => exact ⟨k + 1, by omega, by go_num, ⟨ys ++ [((k : Int), v2)], by rw [idxs_succ, HV.out, if_pos (by simp; omega), List.map_append, List.map_append, HYS.out]; rfl, hJ3⟩, hbw.trans (hbk.trans hk3)⟩
          case measure => simp [intOf]; omega
        · gi_wp2
          refine bodyPost_ret (results_none rfl _ _ _) rfl ?_
          refine ⟨⟨_, rfl⟩, .inr ⟨ys ++ [((k : Int), v2)], ?_, hJx3⟩⟩
          have hx : (ys ++ [((k : Int), v2)]).map Prod.fst = (idxs recs (k + 1)).map (fun (i : Nat) => (i : Int)) := by
            rw [idxs_succ, HV.out, if_pos (by simp; omega), List.map_append, List.map_append, HYS.out]; rfl
          rw [hx]
          exact (idxs_prefix recs hlt).map _
    · obtain rfl : k = recs.length := by omega
      gi_wp2
      go_end0
      exact ⟨⟨_, rfl⟩, .inl ⟨_, hys, hJs⟩⟩

/-- the iterator's contract: V: where the page lies; the body keeps what lies there -/
theorem all_hands (nn : Nat) (hn : 1 ≤ nn) (P0 B bp : Nat) (size : Int) (sv : Value) (recs : List (List UInt8)) (V W0 : World) (hb0 : Below V.heap.size V W0)
    (hp : PageAt V B bp size sv recs) (hb : tot recs ≤ 1048576) (c0 : W0.cell? ⟨P0, 0, none⟩ = some (.pointer (some ⟨bp, 0, none⟩))) :
    SeqHands Fence.wide nn Try.prog 32 #[.pointer (some ⟨P0, 0, none⟩)] encA (handG V.heap.size recs) (Below V.heap.size)
      (fun ys => ys.map Prod.fst = (idxs recs recs.length).map (fun (i : Nat) => (i : Int))) (fun pre => pre.map Prod.fst <+: (idxs recs recs.length).map (fun (i : Nat) => (i : Int))) recs.length W0 := fun l J Jx W hW hJ _ hY h0 =>
  all1_any nn hn l P0 B bp size sv recs J Jx V W (hb0.trans (hW.mono hb0.size)) hJ hp hb ((hW.cell (p := ⟨P0, 0, none⟩) (World.block_lt_of_cell? _ _ c0)).trans c0) hY h0
end Go.Proofs.Ytgkohbjbfjnllaa
