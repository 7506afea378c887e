/-
  The statements' fixed answer (awake) of layer 9.
-/
import Derived.Test.YtgkohbjbfjnllaaSlL
import Derived.Test.YtgkohbjbfjnllaaSlJ
import Derived.Laws.BytesArg
import Derived.Laws.MakeOwn
import Derived.Deep.DrawnRows
import Derived.Lib.SlBytesConst
namespace Go.Proofs.Ytgkohbjbfjnllaa
open Go.RowKit

attribute [local go_sem ↓] Go.wp_at_zero Go.wp_at_succ

theorem page_new (w : World) (size : Int) : PageAt (w.alloc (.cells #[.int .i64 size, .slice none 0 0] 53)) w.heap.size w.heap.size size (.slice none 0 0) [] :=
  ⟨heap_alloc_new w _, ⟨Nat.le_refl _, fun _ h => False.elim h⟩, [], World.ownsRow_nil _ _ _ _, fun i l h => by simp at h⟩

/-- the bytes as a string -/
def strB (l : List UInt8) : Value := .string ⟨l.toArray⟩
/-- string(b) of what reads as bytes -/
theorem run_string {w : World} {v : Value} {l : List UInt8} (h : RecAt w v l) : (convert 29 9 v).run Try.prog w = .ok (strB l) w := by
  rcases h with ⟨rfl, rfl⟩ | ⟨g, off, cap, cur, fr, rfl, hcap, hg, hcur⟩
  · exact run_convert_bytes_nil w 29 5 Try.underlying29 Try.underlying5 0 0 9 Try.underlying9
  · rw [run_convert_bytes_arg w 29 5 Try.underlying29 Try.underlying5 g off l.length cap (l.map fun b => (b.toNat : Int)) (by simp) (fun i hi => by
      have := hcur i l[i] (List.getElem?_eq_getElem hi)
      simp [World.cell?, hg, this, hi]) 9 Try.underlying9]
    have hc : ((fun n : Int => UInt8.ofNat n.toNat) ∘ fun b : UInt8 => (b.toNat : Int)) = id := by
      funext b
      simp
    simp [strB, strOfNums, hc]

def abc : List UInt8 := [97, 98, 99]

/-- ten zeros as cells -/
def z10 : Array Value := #[.int .u8 0, .int .u8 0, .int .u8 0, .int .u8 0, .int .u8 0, .int .u8 0, .int .u8 0, .int .u8 0, .int .u8 0, .int .u8 0]
def s10 : Value := .string ⟨#[0, 0, 0, 0, 0, 0, 0, 0, 0, 0]⟩
def s16 : Value := .string ⟨#[1, 3, 0, 97, 98, 99, 0, 0, 0, 0, 0, 0, 0, 0, 0, 0]⟩
theorem mk10 (W : World) : (Instr.makeSlice 29 (.int .i64 10) (.int .i64 10)).run Try.prog W = .ok (.slice (some ⟨W.heap.size, 0, none⟩) 10 10) (W.alloc (.cells z10 5)) := by kernel_rfl
theorem rec10 {W : World} {b : Nat} (h : W.heap[b]? = some (.cells z10 5)) : RecAt W (.slice (some ⟨b, 0, none⟩) 10 10) (List.replicate 10 0) :=
  .inr ⟨b, 0, 10, z10, (0, 0), rfl, by decide, h, fun j u hu => by
    have hj : j < 10 := by simpa using (List.getElem?_eq_some_iff.1 hu).1
    rw [List.getElem?_replicate, if_pos hj] at hu
    injection hu with hu
    subst hu
    match j, hj with
    | 0, _ | 1, _ | 2, _ | 3, _ | 4, _ | 5, _ | 6, _ | 7, _ | 8, _ | 9, _ => rfl⟩
theorem cv10 (W : World) : (convert 29 9 (.slice (some ⟨W.heap.size, 0, none⟩) 10 10)).run Try.prog (W.alloc (.cells z10 5)) = .ok s10 (W.alloc (.cells z10 5)) := run_string (rec10 (heap_alloc_new W _))
theorem cv10_later {W w4 : World} (hb : Below (W.alloc (.cells z10 5)).heap.size (W.alloc (.cells z10 5)) w4) : (convert 29 9 (.slice (some ⟨W.heap.size, 0, none⟩) 10 10)).run Try.prog w4 = .ok s10 w4 :=
  run_string (rec10 ((hb.block _ (by simp)).trans (heap_alloc_new W _)))
theorem bytes16 : strB (bytesV 16 [abc]) = s16 := by kernel_rfl
theorem add10 (W : World) : (binOp BinOp.add 9 (.string ⟨#[1, 3, 0, 97, 98, 99]⟩) s10).run Try.prog W = .ok s16 W := by kernel_rfl
theorem eg16 (W : World) : (eqGuard BinOp.eql 9 (Operand.tmp 28) (Operand.tmp 31) s16 s16).run Try.prog W = .ok () W := by kernel_rfl
theorem eq16 (W : World) : (binOp BinOp.eql 9 s16 s16).run Try.prog W = .ok (.bool true) W := by kernel_rfl

theorem room_eq {B bp : Nat} {sv : Value} {w : World} (hp : PageAt w B bp 16 sv [abc]) :
    Calls Try.prog 11 #[.pointer (some ⟨bp, 0, none⟩)] w fun e w' => e = .returned (.int .i64 8) ∧ Below w.heap.size w w' ∧ w'.heap = w.heap :=
  (room_any bp 16 sv [abc] w hp (by decide) (by decide)).mono fun e w' ⟨he, h⟩ => ⟨he, h⟩
theorem bytes_eq {B bp : Nat} {sv : Value} {w : World} (hp : PageAt w B bp 16 sv [abc]) :
    Calls Try.prog 23 #[.pointer (some ⟨bp, 0, none⟩)] w fun e w' => ∃ v, e = .returned v ∧ (convert 29 9 v).run Try.prog w' = .ok s16 w' ∧ (∀ o : Obj, (convert 29 9 v).run Try.prog (w'.alloc o) = .ok s16 (w'.alloc o)) ∧ Below w.heap.size w w' :=
  (bytes_any bp 16 sv [abc] w hp (by decide) (by omega) (by decide)).mono fun e w' ⟨v, he, ho, hb⟩ => by
    have hr : RecAt w' v (bytesV 16 [abc]) := (RecAt.of_own (by rw [bytesV_length 16 [abc] (by decide)]; exact ho)).1
    refine ⟨v, he, ?_, fun o => ?_, hb⟩
    · rw [run_string hr, bytes16]
    · rw [run_string (hr.kept fun k _ _ hk => Below.heap_alloc _ _ _ (heap_lt hk)), bytes16]
theorem len_eq {B bp : Nat} {sv : Value} {w : World} (hp : PageAt w B bp 16 sv [abc]) :
    Calls Try.prog 13 #[.pointer (some ⟨bp, 0, none⟩)] w fun e w' => e = .returned (.int .i64 1) ∧ Below w.heap.size w w' := len_any bp 16 sv [abc] w hp (by decide)

set_option maxHeartbeats 4000000 in
theorem awake_any (w : World) : Calls Try.prog 8 #[] w fun e w' => e = .returned (.bool true) ∧ Below w.heap.size w w' := by
  have kc := fun (w : World) (C : Array Value) (n c : Nat) => Lib.run_convert_bytes_const (P := Try.prog) w 29 5 C n c Try.underlying29 Try.underlying5
  go_enter Try.func8, Try.ntmps8
  go_wp2_with fail
  refine (new_any 16 _ (by omega)).mono ?_
  rintro e w1 ⟨rfl, hw1⟩
  have hp1 := page_new w 16
  rw [← hw1] at hp1
  have HP1 := hid hp1
  have HB1 : Hid (Below w.heap.size w w1) := hid (by rw [hw1]; exact balloc (Below.refl _ _) _)
  have hs1 : w1.heap.size = w.heap.size + 1 := by rw [hw1]; simp
  have HS1 := hid hs1
  clear hw1 hp1 hs1
  go_wp2_with fail
  have hra : RecAt (w1.alloc (.cells #[.int .u8 97, .int .u8 98, .int .u8 99] 5 (3, 4))) (.slice (some ⟨w1.heap.size, 0, none⟩) 3 3) abc :=
    .inr ⟨w1.heap.size, 0, 3, _, _, rfl, Nat.le_refl _, heap_alloc_new w1 _, fun j b hb => by
      rcases j with _ | _ | _ | j
      · simp [abc] at hb ⊢; subst hb; rfl
      · simp [abc] at hb ⊢; subst hb; rfl
      · simp [abc] at hb ⊢; subst hb; rfl
      · simp [abc] at hb⟩
  have hput := put_new w.heap.size 16 _ [] _ abc (w1.alloc (.cells #[.int .u8 97, .int .u8 98, .int .u8 99] 5 (3, 4))) (by have := HS1.out; simp; omega) (HP1.out.kept (balloc (Below.refl _ _) _)) (by decide) (by omega) (hra.stays (HP1.out.kept (balloc (Below.refl _ _) _)).1) (by decide) (by decide) (by decide) rfl
  refine hput.mono ?_
  rintro e w2 ⟨rfl, ⟨sv2, hp2⟩, ht2⟩
  have HP2 := hid hp2
  have HB2 : Hid (Below w.heap.size w w2) := hid ((bthrough HB1.out (balloc (Below.refl _ _) _) HB1.out.size).trans ht2.below)
  clear hput hra hp2 ht2
  go_upto_region 5 with fail
  have hs2 : w.heap.size < w2.heap.size := heap_lt HP2.out.1
  have hmk := mk10
  have hkz := cv10
  have hadd := add10
  have heq := eq16
  have heg := eg16
  go_region_with (first
    | (go_at_call 11
       refine (room_eq (HP2.out.same (w' := w2.drew) rfl)).mono ?_
       rintro e w3 ⟨rfl, hb3, hh3⟩
       have HP3 := hid ((HP2.out.same (w' := w2.drew) rfl).same hh3)
       have HB3 := hid (HB2.out.trans ((Go.Proofs.Ytgkohbjbfjnllaa.Below.drewl hb3).mono HB2.out.size))
       clear hb3 hh3)
    | (go_at_call 23
       first
       | (with_reducible refine (bytes_eq HP3.out).mono ?_
          rintro e w4 ⟨v4, rfl, h40, h41, hb4⟩
          have HP4 := hid (HP3.out.kept hb4)
          have HB4 := hid (HB3.out.trans (hb4.mono HB3.out.size)))
       | (with_reducible refine (bytes_eq (HP3.out.kept (balloc (Below.refl _ _) (.cells z10 5)))).mono ?_
          rintro e w4 ⟨v4, rfl, h40, h41, hb4⟩
          have h42 := cv10_later hb4
          have HP4 := hid ((HP3.out.kept (balloc (Below.refl _ _) (.cells z10 5))).kept hb4)
          have HB4 := hid (HB3.out.trans ((bthrough (balloc (Below.refl w3.heap.size w3) (.cells z10 5)) hb4 (by simp)).mono HB3.out.size))))
    | (go_at_call 12
       first
       | (with_reducible refine (del_none _ _ _ _ _ _ HP4.out (by decide)).mono ?_
          rintro e w5 ⟨rfl, rfl⟩)
       | (with_reducible refine (del_none _ _ _ _ _ _ (HP4.out.kept (balloc (Below.refl _ _) (.cells z10 5))) (by decide)).mono ?_
          rintro e w5 ⟨rfl, rfl⟩))
    | (go_at_call 13
       first
       | (with_reducible refine (len_eq HP4.out).mono ?_
          rintro e w6 ⟨rfl, hb6⟩
          have HB6 := hid (HB4.out.trans (hb6.mono HB4.out.size)))
       | (with_reducible refine (len_eq (HP4.out.kept (balloc (Below.refl _ _) (.cells z10 5)))).mono ?_
          rintro e w6 ⟨rfl, hb6⟩
          have HB6 := hid (HB4.out.trans ((bthrough (balloc (Below.refl w4.heap.size w4) (.cells z10 5)) hb6 (by simp)).mono HB4.out.size)))))
  all_goals go_wp2
  all_goals go_ret
  all_goals exact ⟨rfl, HB6.out⟩
end Go.Proofs.Ytgkohbjbfjnllaa
