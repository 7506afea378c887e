/-
  Package slotted: Load: for all bytes.
-/
import Derived.Test.YtgkohbjbfjnllaaSlX
import Derived.Deep.RegionLaw
import Derived.Deep.RegionHeldLaw
import Derived.Deep.AppendLies
import Derived.Deep.Slices
namespace Go.Proofs.Ytgkohbjbfjnllaa
open Go.RowKit

attribute [local go_sem ↓] Go.wp_at_zero Go.wp_at_succ

/-- the i-th length in a page's bytes -/
def lenAt (l : List UInt8) (i : Nat) : Nat := (l.getD (1 + 2 * i) 0).toNat + 256 * (l.getD (2 + 2 * i) 0).toNat
/-- the first i records of a page's bytes, of n slots -/
def recsAt (l : List UInt8) (n : Nat) : Nat → List (List UInt8)
  | 0 => []
  | i + 1 => recsAt l n i ++ [(l.drop (1 + 2 * n + catN (recsAt l n i))).take (lenAt l i)]
theorem recsAt_length (l : List UInt8) (n i : Nat) : (recsAt l n i).length = i := by
  induction i with
  | zero => rfl
  | succ i ih => simp [recsAt, ih]
theorem catN_append (a : List (List UInt8)) (r : List UInt8) : catN (a ++ [r]) = catN a + r.length := by simp [catN, catB]

theorem block_add' (A : Addr) (j : Nat) : (A.add j).block = A.block := by unfold Addr.add; split <;> rfl
theorem add_zero' (A : Addr) : A.add 0 = A := by simp [Addr.add]

theorem or_bytes (a b : Nat) (ha : a < 256) (hb : b < 256) : bits .or .i64 (a : Int) ((b : Int) * 256) = ((a + 256 * b : Nat) : Int) := by
  have e : ((b : Int) * 256) = ((256 * b : Nat) : Int) := by omega
  have h0 : a ||| 256 * b = a + 256 * b := by
    have h : 256 * b + a = 256 * b ||| a := Nat.two_pow_add_eq_or_of_lt (i := 8) (b := a) (by omega) b
    rw [Nat.or_comm, ← h]
    omega
  have h1 : (BitVec.ofInt 64 (a : Int)).toNat = a := by
    rw [BitVec.ofInt_natCast, BitVec.toNat_ofNat]; exact Nat.mod_eq_of_lt (by omega)
  have h2 : (BitVec.ofInt 64 ((256 * b : Nat) : Int)).toNat = 256 * b := by
    rw [BitVec.ofInt_natCast, BitVec.toNat_ofNat]; exact Nat.mod_eq_of_lt (by omega)
  rw [e]
  show IntKind.i64.wrap ((BitVec.ofInt 64 (a : Int) ||| BitVec.ofInt 64 ((256 * b : Nat) : Int)).toNat : Int) = _
  rw [BitVec.toNat_or, h1, h2, h0, IntKind.wrap_i64]
  omega

/-- a cell that may be written, and what it holds -/
theorem keepCell {w w4 : World} {b o : Nat} {v : Value} (h : w.cell? ⟨b, o, none⟩ = some v ∧ w.frozen? ⟨b, o, none⟩ = false) (hb : b < w.heap.size) (k : Below w.drew.heap.size w.drew w4) : w4.cell? ⟨b, o, none⟩ = some v ∧ w4.frozen? ⟨b, o, none⟩ = false :=
  ⟨(k.cell (p := ⟨b, o, none⟩) hb).trans h.1, (k.frozen (p := ⟨b, o, none⟩) hb).trans h.2⟩
theorem And.alloc {w : World} {b o : Nat} {v : Value} (h : w.cell? ⟨b, o, none⟩ = some v ∧ w.frozen? ⟨b, o, none⟩ = false) (x : Obj) : (w.alloc x).cell? ⟨b, o, none⟩ = some v ∧ (w.alloc x).frozen? ⟨b, o, none⟩ = false := by
  have hb : b < w.heap.size := World.block_lt_of_cell? _ _ h.1
  have k : Below w.heap.size w (w.alloc x) := balloc (Below.refl _ _) x
  exact ⟨(k.cell (p := ⟨b, o, none⟩) hb).trans h.1, (k.frozen (p := ⟨b, o, none⟩) hb).trans h.2⟩

theorem news_one (w : World) (v : Value) : ∀ j u, [v][j]? = some u → (w.alloc (.cells #[v] 29)).cell? ((⟨w.heap.size, 0, none⟩ : Addr).add j) = some u := by
  intro j u hu
  rcases j with _ | j
  · simp at hu
    subst hu
    show World.cell? _ ⟨w.heap.size, 0, none⟩ = _
    simp only [World.cell?, heap_alloc_new]
    rfl
  · simp at hu

/-- the page behind its row's growth by a slot with a record -/
theorem PageAt.grow {w w2 : World} {B bp : Nat} {size : Int} {sv v' vc : Value} {recs : List (List UInt8)} {lc : List UInt8} {vs : List Value} {n : Nat} (hn : recs.length = n) (h : PageAt w B bp size sv recs) (hown : w.ownsRow B 29 1 sv n vs) (hvs : ∀ (i : Nat) (l : List UInt8), recs[i]? = some l → ∃ v, vs[i]? = some v ∧ RecAt w v l)
    (hc : RecAt w vc lc) (h2 : w2.ownsRow B 29 1 v' (n + 1) (vs ++ [vc])) (hB : B ≤ w.heap.size) (hg : w.grownBy w2 sv.ownBlock) : PageAt (w2.setCell ⟨bp, 1, none⟩ v') B bp size v' (recs ++ [lc]) ∧ Touch B bp w (w2.setCell ⟨bp, 1, none⟩ v') ∧ w2.heap[bp]? = some (.cells #[.int .i64 size, sv] 53 (0, 0)) := by
  subst hn
  have t2 : Touch B bp w w2 := Touch.grown hown hg hB
  have t3 : Touch B bp w2 (w2.setCell ⟨bp, 1, none⟩ v') := Touch.set_bp w2 1 v' h.2.1
  have t := t2.trans t3
  have ne : ∀ {W : World} {x : Value} {n : Nat} {xs : List Value}, W.ownsRow B 29 1 x n xs → W.heap[bp]? = some (.cells #[.int .i64 size, sv] 53 (0, 0)) → x.ownBlock ≠ some bp := fun hx hb => by
    obtain ⟨_, ⟨rfl, _⟩ | ⟨g, cap, cur, rfl, _, hh, _⟩⟩ := hx
    · simp [Value.ownBlock]
    · intro hxb
      simp [Value.ownBlock] at hxb
      subst hxb
      rw [hh] at hb
      injection hb with hb
      injection hb with _ hb _
      exact absurd hb (by decide)
  have hbp : w2.heap[bp]? = some (.cells #[.int .i64 size, sv] 53 (0, 0)) := (hg.block bp (heap_lt h.1) (Ne.symm (ne hown h.1))).trans h.1
  refine ⟨⟨?_, h.2.1, vs ++ [vc], ?_, fun i l hi => ?_⟩, t, hbp⟩
  · rw [heap_set_self v' hbp]
    rfl
  · rw [List.length_append]
    exact ownsRow_setCell_other h2 (ne h2 hbp) v'
  · by_cases hlt : i < recs.length
    · rw [List.getElem?_append_left hlt] at hi
      obtain ⟨v0, hv0, hr0⟩ := hvs i l hi
      exact ⟨v0, by rw [List.getElem?_append_left (List.getElem?_eq_some_iff.1 hv0).1]; exact hv0, hr0.touch t h.1⟩
    · rw [List.getElem?_append_right (by omega)] at hi
      have hvl : vs.length = recs.length := by simpa using hown.1
      have : i - recs.length = 0 := by
        have := (List.getElem?_eq_some_iff.1 hi).1
        simp at this
        omega
      rw [this] at hi
      simp at hi
      subst hi
      exact ⟨vc, by rw [List.getElem?_append_right (by omega), hvl, this]; rfl, hc.touch t h.1⟩

theorem cellOf {w : World} {bp : Nat} {size : Int} {sv : Value} (h : w.heap[bp]? = some (.cells #[.int .i64 size, sv] 53 (0, 0))) : w.cell? ⟨bp, 1, none⟩ = some sv ∧ w.frozen? ⟨bp, 1, none⟩ = false := ⟨by simp [World.cell?, h], by simp [World.frozen?, h]⟩

theorem equal_any (a b : Value) (la lb : List UInt8) (w : World) (ha : BytesAt w a la) (hb : BytesAt w b lb) :
    Calls Try.prog 36 #[a, b] w fun e w' => e = .returned (.bool (decide (la = lb))) ∧ w = w' := by
  have h1 := run_string_b ha
  have h2 := run_string_b hb
  have hbt := baOf_toList
  obtain ⟨A1, c1, rfl⟩ := ha.form
  obtain ⟨A2, c2, rfl⟩ := hb.form
  clear ha hb
  go_enter Try.func36, Try.ntmps36
  go_wp2
  go_ret
  exact ⟨ret_bool (by first | rfl | simp | (rw [Bool.eq_iff_iff]; simp)), rfl⟩

/-- are these bytes a page's? -/
def okV (l : List UInt8) (n : Nat) : Prop := n ≤ 63 ∧ 1 + 2 * n ≤ l.length ∧ (∀ i, i < n → lenAt l i ≤ l.length - (1 + 2 * n + catN (recsAt l n i))) ∧ (n = 0 ∨ hasV (recsAt l n n) ((n : Int) - 1) = true) ∧ bytesV l.length (recsAt l n n) = l
/-- what Load does -/
def LoadPost (w : World) (l : List UInt8) (n : Nat) (e : Ending) (w' : World) : Prop :=
  ((¬ okV l n ∧ e = .returned (.tuple #[.pointer none, .bool false])) ∨ (okV l n ∧ e = .returned (.tuple #[.pointer (some ⟨w.heap.size, 0, none⟩), .bool true]) ∧ ∃ sv, PageAt w' w.heap.size w.heap.size (l.length : Int) sv (recsAt l n n))) ∧ Below w.heap.size w w'

theorem new_none (size : Int) (w : World) (h : ¬ (16 ≤ size ∧ size ≤ 4096)) :
    Calls Try.prog 9 #[.int .i64 size] w fun e w' => e = .returned (.pointer none) ∧ w = w' := by
  go_enter Try.func9, Try.ntmps9
  by_cases h1 : size < 16
  · go_wp2
    go_ret
    exact ⟨rfl, rfl⟩
  · have hf : decide (size < 16) = false := decide_eq_false h1
    have ht : decide (size > 4096) = true := decide_eq_true (by omega)
    go_wp2
    go_ret
    exact ⟨rfl, rfl⟩

set_option maxRecDepth 100000 in
set_option maxHeartbeats 1000000 in
theorem load_any (A : Addr) (cap : Nat) (l : List UInt8) (w : World) (hb : A.block < w.heap.size) (hc : ∀ j b, l[j]? = some b → w.cell? (A.add j) = some (.int .u8 (b.toNat : Int))) (hl : 16 ≤ l.length ∧ l.length ≤ 4096) (hcap : l.length ≤ cap ∧ cap ≤ maxLen) :
    Calls Try.prog 20 #[.slice (some A) l.length cap] w (LoadPost w l (l.getD 0 0).toNat) := by
  obtain ⟨hl1, hl2⟩ := hl
  obtain ⟨hcap1, hcap2⟩ := hcap
  have hcap2 : cap ≤ 9223372036854775807 := hcap2
  have HC := hid hc
  clear hc
  go_enter Try.func20, Try.ntmps20
  go_wp2_with fail
  refine (new_any _ _ (by omega)).mono ?_
  rintro e w1 ⟨rfl, hw1⟩
  have hp1 := page_new w (l.length : Int)
  rw [← hw1] at hp1
  have HP1 := hid hp1
  have HB1 : Hid (Below w.heap.size w w1) := hid (by rw [hw1]; exact balloc (Below.refl _ _) _)
  clear hw1 hp1
  have hg0 : l[0]? = some (l.getD 0 0) := by rw [List.getD_eq_getElem?_getD, List.getElem?_eq_getElem (by omega)]; rfl
  have hc0 := (HB1.out.cell (p := A.add 0) (by rw [block_add']; exact hb)).trans (HC.out 0 _ hg0)
  rw [add_zero'] at hc0
  have hlt256 := (l.getD 0 0).toNat_lt
  generalize hn : (l.getD 0 0).toNat = n at hc0 hlt256
  clear hg0
  by_cases h63 : n ≤ 63
  · by_cases hfit : 1 + 2 * n ≤ l.length
    · go_wp2
      go_loopw [6, 32] (fun s6 s32 wr => ∃ i : Nat, i ≤ n ∧ s32 = .int .i64 i ∧ s6 = .int .i64 ((1 + 2 * n + catN (recsAt l n i) : Nat) : Int) ∧ 1 + 2 * n + catN (recsAt l n i) ≤ l.length ∧ (∀ j, j < i → lenAt l j ≤ l.length - (1 + 2 * n + catN (recsAt l n j))) ∧ (∃ sv, PageAt wr w.heap.size w.heap.size (l.length : Int) sv (recsAt l n i)) ∧ Below w.heap.size w wr) (fun _ s32 _ => n - (intOf s32).toNat)
      case atStart => exact ⟨0, Nat.zero_le _, rfl, by simp [recsAt, catN, catB], by simp [recsAt, catN, catB]; omega, fun j hj => absurd hj (Nat.not_lt_zero _), ⟨_, HP1.out⟩, HB1.out⟩
      case round =>
        obtain ⟨i, hi, rfl, rfl, hat, hall, ⟨sv, hp⟩, hbw⟩ := hrel
        have HALL := hid hall
        clear hall
        have HP := hid hp
        have HB := hid hbw
        clear hp hbw
        by_cases hlt : i < n
        · have hi1 : 1 + 2 * i < l.length := by omega
          have hi2 : 1 + 2 * i + 1 < l.length := by omega
          have hx1 := (HB.out.cell (p := A.add (1 + 2 * i)) (by rw [block_add']; exact hb)).trans (HC.out (1 + 2 * i) l[1 + 2 * i] (List.getElem?_eq_getElem hi1))
          have hx2 := (HB.out.cell (p := A.add (1 + 2 * i + 1)) (by rw [block_add']; exact hb)).trans (HC.out (1 + 2 * i + 1) l[1 + 2 * i + 1] (List.getElem?_eq_getElem hi2))
          have hla : lenAt l i = l[1 + 2 * i].toNat + 256 * l[1 + 2 * i + 1].toNat := by
            unfold lenAt
            rw [List.getD_eq_getElem?_getD, List.getD_eq_getElem?_getD, List.getElem?_eq_getElem hi1, show 2 + 2 * i = 1 + 2 * i + 1 by omega, List.getElem?_eq_getElem hi2]
            rfl
          have hb1 := l[1 + 2 * i].toNat_lt
          have hb2 := l[1 + 2 * i + 1].toNat_lt
          have HLA := hid hla
          clear hla
          generalize l[1 + 2 * i].toNat = b1 at hx1 hb1 HLA
          generalize l[1 + 2 * i + 1].toNat = b2 at hx2 hb2 HLA
          go_upto_region 11 with fail
          have w1' : IntKind.i64.wrap (2 * (i : Int)) = 2 * (i : Int) := IntWalk.i64_in _ (by omega)
          have w2' : IntKind.i64.wrap (1 + 2 * (i : Int)) = 1 + 2 * (i : Int) := IntWalk.i64_in _ (by omega)
          have w3' : IntKind.i64.wrap (1 + 2 * (i : Int) + 1) = 1 + 2 * (i : Int) + 1 := IntWalk.i64_in _ (by omega)
          have t1' : (1 + 2 * (i : Int)).toNat = 1 + 2 * i := by omega
          have t2' : (1 + 2 * (i : Int) + 1).toNat = 1 + 2 * i + 1 := by omega
          have n1' : (0 : Int) ≤ 1 + 2 * (i : Int) := by omega
          have n2' : (0 : Int) ≤ 1 + 2 * (i : Int) + 1 := by omega
          have m1' : 1 + 2 * (i : Int) < (l.length : Int) := by omega
          have m2' : 1 + 2 * (i : Int) + 1 < (l.length : Int) := by omega
          have v1' : IntKind.i64.wrap (b1 : Int) = b1 := IntWalk.i64_in _ (by omega)
          have v2' : IntKind.i64.wrap (b2 : Int) = b2 := IntWalk.i64_in _ (by omega)
          have hx2' : wr.cell? ⟨A.block, A.off + (1 + 2 * i + 1), none⟩ = some (.int .u8 (b2 : Int)) := by
            rw [← hx2]
            simp [Addr.add]
          have hor := or_bytes b1 b2 (by omega) (by omega)
          rw [← HLA.out] at hor
          have hkl : lenAt l i ≤ 65535 := by rw [HLA.out]; omega
          go_quiet (fail)
          generalize hk : lenAt l i = k at hor hkl
          have HK := hid hk
          clear hk
          go_upto_region 12 with fail
          clear hx1 hx2 hx2' v1' v2' w1' w2' w3' t1' t2' n1' n2' m1' m2' hb1 hb2 hor
          by_cases hkf : k ≤ l.length - (1 + 2 * n + catN (recsAt l n i))
          · go_upto_region 14 with fail
            obtain ⟨T, hT⟩ : ∃ T, T = 1 + 2 * n + catN (recsAt l n i) := ⟨_, rfl⟩
            rw [← hT] at hat hkf ⊢
            have HTT := hid hT
            clear hT
            have HPq := hid (HP.out.drewN nq)
            have HBq := hid (below_drewN HB.out nq)
            generalize wr.drewN nq = wq at HPq HBq ⊢
            obtain ⟨As, cs, hsv⟩ := HPq.out.sv_form
            have hrl := recsAt_length l n i
            have hsc := HPq.out.slots_cell
            have hsf := HPq.out.frozen_bp 1
            have hbp := heap_lt HPq.out.1
            subst hsv
            have HPq : Hid (PageAt wq w.heap.size w.heap.size (l.length : Int) (.slice As i cs) (recsAt l n i)) := hid (by have h := HPq.out; rw [hrl] at h; exact h)
            obtain ⟨_, _, vs, hown, hvs⟩ := HPq.out
            rw [hrl] at hown hsc
            have HO := hid hown
            have HVS := hid hvs
            clear hown hvs
            have hpl : ((l.drop T).take k).length = k := by rw [List.length_take, List.length_drop]; omega
            have hpiece : BytesAt wq.drew (.slice (if cap = T then some A else some (A.add T)) k (cap - T)) ((l.drop T).take k) := by
              have e0 : ∀ j b, ((l.drop T).take k)[j]? = some b → j < k ∧ wq.cell? (A.add (T + j)) = some (.int .u8 (b.toNat : Int)) := fun j b hj => by
                have hjk : j < k := by have := (List.getElem?_eq_some_iff.1 hj).1; omega
                rw [List.getElem?_take_of_lt hjk, List.getElem?_drop] at hj
                exact ⟨hjk, (HBq.out.cell (p := A.add (T + j)) (by rw [block_add']; exact hb)).trans (HC.out _ _ hj)⟩
              by_cases hct : cap = T
              · rw [if_pos hct]
                exact .inr ⟨A, cap - T, by rw [hpl], fun j b hj => by have := (e0 j b hj).1; omega⟩
              · rw [if_neg hct]
                exact .inr ⟨A.add T, cap - T, by rw [hpl], fun j b hj => by rw [Deep.add_add]; exact (e0 j b hj).2⟩
            have HNEXT := hid (show ∀ j, j < i + 1 → lenAt l j ≤ l.length - (1 + 2 * n + catN (recsAt l n j)) from fun j hj => by
              by_cases hji : j < i
              · exact HALL.out j hji
              · obtain rfl : j = i := by omega
                rw [HK.out, ← HTT.out]
                exact hkf)
            have HREC := hid (show recsAt l n (i + 1) = recsAt l n i ++ [(l.drop T).take k] by
              show recsAt l n i ++ [(l.drop (1 + 2 * n + catN (recsAt l n i))).take (lenAt l i)] = _
              rw [← HTT.out, HK.out])
            have HPI := hid hpiece
            have HPL := hid hpl
            clear hpiece hpl
            have z1 : (0 : Int) ≤ (T : Int) := by omega
            have z2 : (T : Int) ≤ (T : Int) + (k : Int) := by omega
            have z3 : (T : Int) + (k : Int) ≤ (cap : Int) := by omega
            have z4 : IntKind.i64.wrap ((T : Int) + (k : Int)) = (T : Int) + (k : Int) := IntWalk.i64_in _ (by omega)
            have z5 : ((T : Int) + (k : Int)).toNat = T + k := by omega
            obtain ⟨i0, hi0, hz0, hz1, hz2⟩ := info_parts infoS
            go_region_law
              (first
                | (go_simp; go_at_call 26
                   refine (clone_b _ _ _ HPI.out (by rw [HPL.out]; omega)).mono ?_
                   rintro e w4 ⟨vc, rfl, hrc, _, hb4⟩
                   obtain ⟨A2, c2, hvc⟩ := hrc.form
                   rw [HPL.out] at hvc
                   have HR4 := hid hrc
                   clear hrc
                   subst hvc
                   have hs4 := keepCell (b := w.heap.size) ⟨hsc, hsf⟩ hbp hb4
                   have hs41 := hs4.1
                   have hs42 := (And.alloc hs4 (.cells #[.slice A2 k c2] 29)).1
                   have HO4 := hid (own_below HO.out (Go.Proofs.Ytgkohbjbfjnllaa.Below.drewl hb4))
                   have HB4 := hid (bthrough HBq.out (Go.Proofs.Ytgkohbjbfjnllaa.Below.drewl hb4) HBq.out.size)
                   have hsz4 := HB4.out.size
                   have hszq : wq.heap.size ≤ w4.heap.size := (Go.Proofs.Ytgkohbjbfjnllaa.Below.drewl hb4).size
                   have HP4 := hid ((HPq.out.kept (Go.Proofs.Ytgkohbjbfjnllaa.Below.drewl hb4)).kept (balloc (Below.refl w4.heap.size w4) (.cells #[.slice A2 k c2] 29)))
                   have HO4a := hid (own_below HO4.out (balloc (Below.refl w4.heap.size w4) (.cells #[.slice A2 k c2] 29)))
                   have HR4a := hid (HR4.out.kept fun q _ _ hq => (balloc (Below.refl w4.heap.size w4) (.cells #[.slice A2 k c2] 29)).block q (heap_lt hq))
                   have HVS4 := hid (fun i0 l0 h0 => by
                     obtain ⟨v0, hv0, hr0⟩ := HVS.out i0 l0 h0
                     exact (⟨v0, hv0, (hr0.kept fun q _ _ hq => (Go.Proofs.Ytgkohbjbfjnllaa.Below.drewl hb4).block q (heap_lt hq)).kept fun q _ _ hq => (balloc (Below.refl w4.heap.size w4) (.cells #[.slice A2 k c2] 29)).block q (heap_lt hq)⟩ : ∃ v, vs[i0]? = some v ∧ RecAt (w4.alloc (.cells #[.slice A2 k c2] 29)) v l0))
                   clear hb4
                   dsimp only)
                | (refine step_append_lies _ (by rfl) (.tmp 62) (.tmp 70) 51 (by rfl) w.heap.size 29 i0 (.slice none 0 0) 1 24 Try.underlying51 hi0 hz0 hz1 hz2 rfl (by decide) (.slice As i cs) i vs (by rfl) (World.ownsRow.alloc HO4.out _) ⟨w4.heap.size, 0, none⟩ 1 1 [.slice A2 k c2] (by rfl) rfl (news_one w4 _) (by simp [Value.oneCell']) (by omega) (by unfold maxLen; omega) (by omega) (by simp; omega) (w4.heap.size + 1) (by simp) ?_
                   intro g6 cap6 w6 hown6 hgrow6 _ _
                   have hgr6 := PageAt.grow hrl HP4.out HO4a.out HVS4.out HR4a.out hown6 (by simp; omega) hgrow6
                   have HG6 := hid hgr6
                   have hs61 := (cellOf hgr6.2.2).1
                   have hs62 := (cellOf hgr6.2.2).2
                   have hsz6 : w4.heap.size + 1 ≤ w6.heap.size := by have := hgrow6.size; simpa using this
                   clear hown6 hgrow6 hgr6))
            all_goals go_wp2
            all_goals
              go_roundw
              case rel => exact ⟨i + 1, by omega, by go_num, by rw [HREC.out, catN_append, HPL.out, ← Nat.add_assoc, ← HTT.out]; go_num, by rw [HREC.out, catN_append, HPL.out, ← Nat.add_assoc, ← HTT.out]; omega, HNEXT.out, ⟨_, by rw [HREC.out]; exact HG6.out.1⟩, (HB4.out.alloc HB4.out.size _).trans HG6.out.2.1.below⟩
              case measure => simp [intOf]; omega
          · have hgt : decide ((k : Int) > (l.length : Int) - ((1 + 2 * n + catN (recsAt l n i) : Nat) : Int)) = true := decide_eq_true (by omega)
            have hno := hid (show ¬ okV l n from fun h => by
              have h1 := h.2.2.1 i hlt
              rw [HK.out] at h1
              exact hkf h1)
            go_wp2
            go_ret2
            exact ⟨.inl ⟨by rw [hn]; exact hno.out, rfl⟩, below_drewN HB.out nq⟩
        · have hin : i = n := by omega
          subst hin
          have hcp := HP.out.slots_cell
          have hlen := recsAt_length l i i
          have htot : tot (recsAt l i i) = 1 + 2 * i + catN (recsAt l i i) := by rw [tot_eq, hlen]
          have hbytes := bytes_any w.heap.size l.length sv (recsAt l i i) wr HP.out (by omega) (by omega) (by omega)
          have hhas := has_any w.heap.size (l.length : Int) sv (recsAt l i i) ((i : Int) - 1) wr HP.out
          have hbB : ∀ w', Below w.heap.size w w' → BytesAt w' (.slice (some A) l.length cap) l := fun w' hw' => .inr ⟨A, cap, rfl, fun j b hj => (hw'.cell (p := A.add j) (by rw [block_add']; exact hb)).trans (HC.out j b hj)⟩
          have HBB := hid hbB
          have HTT := hid (show tot (recsAt l i i) ≤ l.length by omega)
          clear hlen htot hbB
          rcases Nat.eq_zero_or_pos i with h0 | h0
          · subst h0
            clear hhas
            go_wp2_with fail
            refine hbytes.mono ?_
            rintro e w2 ⟨v2, rfl, ho2, hb2⟩
            have HB2 := hid (HB.out.trans (hb2.mono HB.out.size))
            have HP2 := hid (HP.out.kept hb2)
            have hr2 : BytesAt w2 v2 (bytesV l.length (recsAt l 0 0)) := (RecAt.of_own (by rw [bytesV_length _ _ HTT.out]; exact ho2)).1.bytes
            have heq := equal_any v2 (.slice (some A) l.length cap) _ l w2 hr2 (HBB.out w2 HB2.out)
            clear hbytes ho2 hb2 hr2
            by_cases hsame : bytesV l.length (recsAt l 0 0) = l
            · rw [decide_eq_true hsame] at heq
              have hyes := hid (show okV l 0 from ⟨h63, hfit, HALL.out, .inl rfl, hsame⟩)
              clear hsame
              go_wp2_with fail
              refine heq.mono ?_
              rintro e w3 ⟨rfl, rfl⟩
              clear heq
              go_wp2
              go_ret2
              exact ⟨.inr ⟨by rw [hn]; exact hyes.out, rfl, sv, by rw [hn]; exact HP2.out⟩, HB2.out⟩
            · rw [decide_eq_false hsame] at heq
              have hno := hid (show ¬ okV l 0 from fun h => hsame h.2.2.2.2)
              clear hsame
              go_wp2_with fail
              refine heq.mono ?_
              rintro e w3 ⟨rfl, rfl⟩
              clear heq
              go_wp2
              go_ret2
              exact ⟨.inl ⟨by rw [hn]; exact hno.out, rfl⟩, HB2.out⟩
          · cases hh : hasV (recsAt l i i) ((i : Int) - 1)
            · rw [hh] at hhas
              have hno := hid (show ¬ okV l i from fun h => by
                rcases h.2.2.2.1 with h1 | h1
                · omega
                · rw [hh] at h1; cases h1)
              have hg : decide ((i : Int) > 0) = true := decide_eq_true (by omega)
              go_wp2_with fail
              refine hhas.mono ?_
              rintro e w2 ⟨rfl, rfl⟩
              clear hhas
              go_wp2
              go_ret2
              exact ⟨.inl ⟨by rw [hn]; exact hno.out, rfl⟩, HB.out⟩
            · rw [hh] at hhas
              have hg : decide ((i : Int) > 0) = true := decide_eq_true (by omega)
              have HH := hid hh
              clear hh
              go_wp2_with fail
              refine hhas.mono ?_
              rintro e w2 ⟨rfl, rfl⟩
              clear hhas
              go_wp2_with fail
              refine hbytes.mono ?_
              rintro e w2 ⟨v2, rfl, ho2, hb2⟩
              have HB2 := hid (HB.out.trans (hb2.mono HB.out.size))
              have HP2 := hid (HP.out.kept hb2)
              have hr2 : BytesAt w2 v2 (bytesV l.length (recsAt l i i)) := (RecAt.of_own (by rw [bytesV_length _ _ HTT.out]; exact ho2)).1.bytes
              have heq := equal_any v2 (.slice (some A) l.length cap) _ l w2 hr2 (HBB.out w2 HB2.out)
              clear hbytes ho2 hb2 hr2
              by_cases hsame : bytesV l.length (recsAt l i i) = l
              · rw [decide_eq_true hsame] at heq
                have hyes := hid (show okV l i from ⟨h63, hfit, HALL.out, .inr HH.out, hsame⟩)
                clear hsame
                go_wp2_with fail
                refine heq.mono ?_
                rintro e w3 ⟨rfl, rfl⟩
                clear heq
                go_wp2
                go_ret2
                exact ⟨.inr ⟨by rw [hn]; exact hyes.out, rfl, sv, by rw [hn]; exact HP2.out⟩, HB2.out⟩
              · rw [decide_eq_false hsame] at heq
                have hno := hid (show ¬ okV l i from fun h => hsame h.2.2.2.2)
                clear hsame
                go_wp2_with fail
                refine heq.mono ?_
                rintro e w3 ⟨rfl, rfl⟩
                clear heq
                go_wp2
                go_ret2
                exact ⟨.inl ⟨by rw [hn]; exact hno.out, rfl⟩, HB2.out⟩
    · have hno := hid (show ¬ okV l n from fun h => hfit h.2.1)
      have hgt : decide (1 + 2 * (n : Int) > (l.length : Int)) = true := decide_eq_true (by omega)
      go_wp2
      go_ret2
      exact ⟨.inl ⟨by rw [hn]; exact hno.out, rfl⟩, HB1.out⟩
  · have hno := hid (show ¬ okV l n from fun h => h63 h.1)
    have ht : decide ((n : Int) > 63) = true := decide_eq_true (by omega)
    go_wp2
    go_ret2
    exact ⟨.inl ⟨by rw [hn]; exact hno.out, rfl⟩, HB1.out⟩
end Go.Proofs.Ytgkohbjbfjnllaa
