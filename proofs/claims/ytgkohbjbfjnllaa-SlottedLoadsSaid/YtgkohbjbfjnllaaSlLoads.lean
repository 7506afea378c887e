/-
  The walk of the statement SlottedLoads: it returns true, for all bytes.
-/
import Derived.Test.YtgkohbjbfjnllaaSlS
import Derived.Test.YtgkohbjbfjnllaaSlP
import Derived.Test.YtgkohbjbfjnllaaSlPlays
import Derived.Test.YtgkohbjbfjnllaaSlOpen
import Derived.Deep.RegionLaw
namespace Go.Proofs.Ytgkohbjbfjnllaa
open Go.RowKit

theorem news_str (w : World) (v : Value) : ∀ j u, [v][j]? = some u → (w.alloc (.cells #[v] 9)).cell? ((⟨w.heap.size, 0, none⟩ : Addr).add j) = some u := by
  intro j u hu
  rcases j with _ | j
  · simp at hu
    subst hu
    show World.cell? _ ⟨w.heap.size, 0, none⟩ = _
    simp only [World.cell?, heap_alloc_new]
    rfl
  · simp at hu

theorem load_short (A : Option Addr) (n cap : Nat) (w : World) (h : n < 16) :
    Calls Try.prog 20 #[.slice A n cap] w fun e w' => e = .returned (.tuple #[.pointer none, .bool false]) ∧ w = w' := by
  go_enter Try.func20, Try.ntmps20
  go_wp2_with fail
  refine (new_none _ _ (by omega)).mono ?_
  rintro e w1 ⟨rfl, rfl⟩
  go_wp2
  go_ret2
  exact ⟨rfl, rfl⟩

theorem okV_at {l : List UInt8} {n : Nat} (h : okV l n) : ∀ i, i ≤ n → 1 + 2 * n + catN (recsAt l n i) ≤ l.length := by
  obtain ⟨h1, h2, h3, h4, h5⟩ := h
  intro i
  induction i with
  | zero => intro _; simp [recsAt, catN, catB]; omega
  | succ i ih =>
    intro hi
    have h0 := ih (by omega)
    have h6 := h3 i (by omega)
    rw [recsAt, catN_append, List.length_take, List.length_drop]
    omega

theorem okV_fits {l : List UInt8} {n : Nat} (h : okV l n) : Fits l.length (recsAt l n n) := by
  have hok := h
  obtain ⟨h1, h2, h3, h4, h5⟩ := h
  have hlen := recsAt_length l n n
  refine ⟨by omega, ?_, ?_⟩
  · have hc := okV_at hok
    have h7 := sumL_eq (recsAt l n n)
    have h8 := hc n (Nat.le_refl _)
    unfold tot
    omega
  · rw [cutV_iff]
    intro h0
    rcases h4 with h4 | h4
    · omega
    · have h6 := hasV_at (recsAt l n n) ((recsAt l n n).length - 1) (by omega)
      rw [show (((recsAt l n n).length - 1 : Nat) : Int) = (n : Int) - 1 by omega, h4] at h6
      simpa using h6

set_option maxRecDepth 100000 in
set_option maxHeartbeats 4000000 in
theorem lawLoads (A : Option Addr) (cap : Nat) (l : List UInt8) (w : World) (hl : l.length ≤ cap) (hm : cap ≤ maxLen) (ho : OldBytes w.heap.size w (.slice A l.length cap) l) :
    Calls Try.prog 6 #[.slice A l.length cap] w fun e w' => e = .returned (.bool true) ∧ Below w.heap.size w w' := by
  have hm2 : cap ≤ 9223372036854775807 := hm
  by_cases h4 : l.length ≤ 400
  · have g1 : decide ((l.length : Int) > 400) = false := decide_eq_false (by omega)
    by_cases h16 : l.length < 16
    · have hld := load_short A l.length cap w h16
      clear ho
      go_enter Try.func6, Try.ntmps6
      go_wp2_with fail
      refine hld.mono ?_
      rintro e w1 ⟨rfl, rfl⟩
      clear hld
      go_wp2_with fail
      refine (awake_any _).mono ?_
      rintro e w1 ⟨rfl, hb⟩
      go_wp2
      go_ret
      exact ⟨rfl, hb⟩
    · obtain ⟨A0, rfl, hblk, hcells⟩ : ∃ A0, A = some A0 ∧ A0.block < w.heap.size ∧ ∀ j b, l[j]? = some b → w.cell? (A0.add j) = some (.int .u8 (b.toNat : Int)) := by
        rcases ho with ⟨h, h0⟩ | ⟨A0, cap0, h, hA, hc⟩
        · subst h0; simp at h16
        · injection h with h1 _ _
          exact ⟨A0, h1, hA (fun h => by subst h; simp at h16), hc⟩
      have HBT := hid (show ∀ w', Below w.heap.size w w' → BytesAt w' (.slice (some A0) l.length cap) l from fun w' hw' => .inr ⟨A0, cap, rfl, fun j b hj => (hw'.cell (p := A0.add j) (by rw [block_add']; exact hblk)).trans (hcells j b hj)⟩)
      have hld := load_any A0 cap l w hblk hcells (by omega) ⟨hl, hm⟩
      have HC := hid hcells
      clear ho hcells
      go_enter Try.func6, Try.ntmps6
      go_wp2_with fail
      refine hld.mono ?_
      clear hld
      rintro e w1 ⟨⟨_, rfl⟩ | ⟨hok, rfl, sv, hp⟩, hb⟩
      · have HB := hid hb
        clear hb
        go_wp2_with fail
        refine (awake_any _).mono ?_
        rintro e w2 ⟨rfl, hb2⟩
        have HB2 := hid (HB.out.trans (hb2.mono HB.out.size))
        go_wp2
        go_ret
        exact ⟨rfl, HB2.out⟩
      · have hf := okV_fits hok
        have hgt : ∀ j (hj : j < l.length), w1.cell? (A0.add j) = some (.int .u8 (l[j].toNat : Int)) := fun j hj => (hb.cell (p := A0.add j) (by rw [block_add']; exact hblk)).trans (HC.out j _ (List.getElem?_eq_getElem hj))
        have HG := hid hgt
        have hc0 := hgt 0 (by omega)
        rw [add_zero'] at hc0
        have hg0 : l.getD 0 0 = l[0] := by rw [List.getD_eq_getElem?_getD, List.getElem?_eq_getElem (by omega)]; rfl
        rw [hg0] at hok hp hf
        generalize hn : l[0].toNat = n at hc0 hok hp hf
        have hrl := recsAt_length l n n
        have h63 := hok.1
        have hfit := hok.2.1
        have HALL := hid hok.2.2.1
        have HAT := hid (okV_at hok)
        have HBY := hid hok.2.2.2.2
        have HF := hid hf
        have HP := hid hp
        have HB := hid hb
        have g16 : decide ((l.length : Int) < 16) = false := decide_eq_false (by omega)
        have g63 : decide ((n : Int) > 63) = false := decide_eq_false (by omega)
        clear hok hp hf hb hgt hg0
        go_upto_region 6 with fail
        have hsl := fun m => slots_any w.heap.size (l.length : Int) sv (recsAt l n n) (w1.drewN m) (HP.out.drewN m)
        rw [hrl] at hsl
        go_quiet (first
          | (go_at_call 21; exact (size_any w.heap.size (l.length : Int) sv (recsAt l n n) _ (HP.out.drewN _)).mono (fun _ _ hx => ⟨hx.1, _, hx.2.symm⟩))
          | (go_at_call 22; exact (hsl _).mono (fun _ _ hx => ⟨hx.1, _, hx.2.symm⟩)))
        have HB2 := hid (below_drewN HB.out nq)
        have HP2 := hid (HP.out.drewN nq)
        have HG2 := hid (show ∀ j (hj : j < l.length), (w1.drewN nq).cell? (A0.add j) = some (.int .u8 (l[j].toNat : Int)) from fun j hj => by simpa using HG.out j hj)
        clear hsl hc0
        generalize w1.drewN nq = w2 at HB2 HP2 HG2 ⊢
        have hsl := slots_any w.heap.size (l.length : Int) sv (recsAt l n n) w2 HP2.out
        rw [hrl] at hsl
        have hsl2 := hsl
        go_wp2_with fail
        refine hsl.mono ?_
        rintro e w3 ⟨rfl, rfl⟩
        go_wp2_with fail
        refine hsl2.mono ?_
        rintro e w3 ⟨rfl, rfl⟩
        clear hsl hsl2
        go_wp2
        go_loopw [5, 6, 59] (fun s5 s6 s59 wr => ∃ k : Nat, k ≤ n ∧ s59 = .int .i64 k ∧ s6 = .int .i64 ((1 + 2 * n + catN (recsAt l n k) : Nat) : Int) ∧ StrsAt wr w2.heap.size s5 (recsAt l n k) ∧ Below w2.heap.size w2 wr) (fun _ _ s59 _ => n - (intOf s59).toNat)
        case atStart => exact ⟨0, Nat.zero_le _, rfl, by simp [recsAt, catN, catB], World.ownsRow_nil _ _ _ _, Below.refl _ _⟩
        case round =>
          obtain ⟨k, hk, rfl, rfl, hx, hbr⟩ := hrel
          have HX := hid hx
          have HBR := hid hbr
          have HBW := hid (HB2.out.trans (hbr.mono HB2.out.size))
          obtain ⟨Ax, cx, hv⟩ := hx.form
          subst hv
          clear hx hbr
          by_cases hlt : k < n
          · have hi1 : 1 + 2 * k < l.length := by omega
            have hi2 : 2 + 2 * k < l.length := by omega
            have hbk2 : A0.block < w2.heap.size := Nat.lt_of_lt_of_le hblk HB2.out.size
            have hx1 := (HBR.out.cell (p := A0.add (1 + 2 * k)) (by rw [block_add']; exact hbk2)).trans (HG2.out _ hi1)
            have hx2 := (HBR.out.cell (p := A0.add (2 + 2 * k)) (by rw [block_add']; exact hbk2)).trans (HG2.out _ hi2)
            have hla : lenAt l k = l[1 + 2 * k].toNat + 256 * l[2 + 2 * k].toNat := by
              unfold lenAt
              rw [List.getD_eq_getElem?_getD, List.getD_eq_getElem?_getD, List.getElem?_eq_getElem hi1, List.getElem?_eq_getElem hi2]
              rfl
            have hb1 := l[1 + 2 * k].toNat_lt
            have hb2 := l[2 + 2 * k].toNat_lt
            have HLA := hid hla
            clear hla
            generalize l[1 + 2 * k].toNat = b1 at hx1 hb1 HLA
            generalize l[2 + 2 * k].toNat = b2 at hx2 hb2 HLA
            go_upto_region 13 with fail
            have w1' : IntKind.i64.wrap (2 * (k : Int)) = 2 * (k : Int) := IntWalk.i64_in _ (by omega)
            have w2' : IntKind.i64.wrap (1 + 2 * (k : Int)) = 1 + 2 * (k : Int) := IntWalk.i64_in _ (by omega)
            have w3' : IntKind.i64.wrap (2 + 2 * (k : Int)) = 2 + 2 * (k : Int) := IntWalk.i64_in _ (by omega)
            have t1' : (1 + 2 * (k : Int)).toNat = 1 + 2 * k := by omega
            have t2' : (2 + 2 * (k : Int)).toNat = 2 + 2 * k := by omega
            have n1' : (0 : Int) ≤ 1 + 2 * (k : Int) := by omega
            have n2' : (0 : Int) ≤ 2 + 2 * (k : Int) := by omega
            have m1' : 1 + 2 * (k : Int) < (l.length : Int) := by omega
            have m2' : 2 + 2 * (k : Int) < (l.length : Int) := by omega
            have v1' : IntKind.i64.wrap (b1 : Int) = b1 := IntWalk.i64_in _ (by omega)
            have v2' : IntKind.i64.wrap (b2 : Int) = b2 := IntWalk.i64_in _ (by omega)
            have v3' : IntKind.i64.wrap (256 * (b2 : Int)) = 256 * (b2 : Int) := IntWalk.i64_in _ (by omega)
            have v4' : IntKind.i64.wrap ((b1 : Int) + 256 * (b2 : Int)) = ((lenAt l k : Nat) : Int) := by rw [IntWalk.i64_in _ (by omega), HLA.out]; omega
            have hkl : lenAt l k ≤ 65535 := by rw [HLA.out]; omega
            have hat := HALL.out k hlt
            go_quiet (fail)
            clear hx1 hx2 v1' v2' v3' v4' w1' w2' w3' t1' t2' n1' n2' m1' m2' hb1 hb2 HLA
            have HBWq := hid (below_drewN HBW.out nq)
            have HBRq := hid (below_drewN HBR.out nq)
            have HXq : Hid (StrsAt (wr.drewN nq) w2.heap.size _ (recsAt l n k)) := hid (HX.out.below (below_drewN (Below.refl _ _) nq))
            clear HX HBR HBW
            generalize wr.drewN nq = wq at HBWq HBRq HXq ⊢
            obtain ⟨T, hT⟩ : ∃ T, T = 1 + 2 * n + catN (recsAt l n k) := ⟨_, rfl⟩
            have HT0 := hid hT
            rw [← hT] at hat ⊢
            clear hT
            obtain ⟨q, hq⟩ : ∃ q, q = lenAt l k := ⟨_, rfl⟩
            have HQ0 := hid hq
            rw [← hq] at hat hkl ⊢
            clear hq
            have hTl : T ≤ l.length := by rw [HT0.out]; exact HAT.out k (by omega)
            have hpl : ((l.drop T).take q).length = q := by rw [List.length_take, List.length_drop]; omega
            have hpiece : BytesAt wq (.slice (if cap = T then some A0 else some (A0.add T)) q (cap - T)) ((l.drop T).take q) := by
              have e0 : ∀ j b, ((l.drop T).take q)[j]? = some b → j < q ∧ wq.cell? (A0.add (T + j)) = some (.int .u8 (b.toNat : Int)) := fun j b hj => by
                have hjk : j < q := by have := (List.getElem?_eq_some_iff.1 hj).1; omega
                rw [List.getElem?_take_of_lt hjk, List.getElem?_drop] at hj
                exact ⟨hjk, (HBWq.out.cell (p := A0.add (T + j)) (by rw [block_add']; exact hblk)).trans (HC.out _ _ hj)⟩
              by_cases hct : cap = T
              · rw [if_pos hct]
                exact .inr ⟨A0, cap - T, by rw [hpl], fun j b hj => by have := (e0 j b hj).1; omega⟩
              · rw [if_neg hct]
                exact .inr ⟨A0.add T, cap - T, by rw [hpl], fun j b hj => by rw [Deep.add_add]; exact (e0 j b hj).2⟩
            have hcv := run_string_b hpiece
            have HREC := hid (show recsAt l n (k + 1) = recsAt l n k ++ [(l.drop T).take q] by
              show recsAt l n k ++ [(l.drop (1 + 2 * n + catN (recsAt l n k))).take (lenAt l k)] = _
              rw [← HT0.out, ← HQ0.out])
            have HPL := hid hpl
            clear hpiece hpl
            generalize (l.drop T).take q = piece at hcv HREC HPL
            have z1 : (0 : Int) ≤ (T : Int) := by omega
            have z2 : (T : Int) ≤ (T : Int) + (q : Int) := by omega
            have z3 : (T : Int) + (q : Int) ≤ (cap : Int) := by omega
            have z4 : IntKind.i64.wrap ((T : Int) + (q : Int)) = (T : Int) + (q : Int) := IntWalk.i64_in _ (by omega)
            have z5 : ((T : Int) + (q : Int)).toNat = T + q := by omega
            have hlen := recsAt_length l n k
            have HO' : Hid (wq.ownsRow w2.heap.size 9 1 (.slice Ax k cx) k ((recsAt l n k).map fun l => Value.string (baOf l))) := hid (by have h := HXq.out; unfold StrsAt at h; rwa [hlen] at h)
            have HLEN := hid hlen
            rw [hlen]
            clear hlen
            have hszq : w2.heap.size ≤ wq.heap.size := HBRq.out.size
            obtain ⟨i0, hi, hz0, hz1, hz2⟩ := info_parts infoT
            rcases (show (cap = T) = True ∨ (cap = T) = False from (by by_cases h : cap = T; exact .inl (eq_true h); exact .inr (eq_false h))) with hct | hct
            all_goals
              simp only [hct, if_true, if_false] at hcv
              go_wp2_with (first
                | (at_builtin; go_loud (refine wpList_append_own _ rfl (.tmp 84) (.tmp 92) 35 rfl w2.heap.size 9 i0 (.string ⟨#[]⟩) 1 16 Try.underlying35 hi hz0 hz1 hz2 rfl (by decide) _ _ _ rfl (HO'.out.alloc _) ⟨wq.heap.size, 0, none⟩ 1 1 [.string (baOf piece)] rfl rfl (news_str wq _) (by simp [Value.oneCell']) (by unfold maxLen; omega) (by omega) (by simp; omega) ?_)))
              intro v' w4 hown2 hgrow _
              have HO2 := hid hown2
              have hgr4 : Below w2.heap.size w2 w4 := (HBRq.out.alloc HBRq.out.size _).grown hgrow (by have := HBRq.out.size; simp; omega) (fun k hk => (HO'.out.lt k hk).1)
              have HB4 := hid hgr4
              clear hown2 hgrow hgr4
              go_wp2
              go_roundw
              case rel =>
                exact ⟨k + 1, by omega, by go_num, by rw [HREC.out, catN_append, HPL.out, ← Nat.add_assoc, ← HT0.out]; go_num, by unfold StrsAt; rw [HREC.out, List.length_append, HLEN.out, List.map_append]; exact HO2.out, HB4.out⟩
              case measure => simp [intOf]; omega
          · obtain rfl : k = n := by omega
            go_upto_region 19 with fail
            have hlen := recsAt_length l k k
            have HPr := hid (HP2.out.kept HBR.out)
            have HBYs := hid HBY.out.symm
            have hcb : ∀ w', Below wr.heap.size wr w' → (convert 29 9 (.slice (some A0) l.length cap)).run Try.prog w' = .ok (.string (baOf l)) w' := fun w' hw' => run_string_b (HBT.out w' (HBW.out.trans (hw'.mono HBW.out.size)))
            clear HALL HAT hrl HBR
            generalize recsAt l k k = recs at *
            subst hlen
            rcases Nat.eq_zero_or_pos recs.length with h0 | h0
            · have e0 : ((recs.length : Int) == 0) = true := by simp [h0]
              clear h0
              refine wp_region_held_drew (S := fun w' => Below wr.heap.size wr w') (by kernel_rfl) (Below.drew (Below.refl _ _)) (fun hHeld => ?_)
              have HPd := hid (HPr.out.kept hHeld)
              have HXd := hid (HX.out.below hHeld)
              have hsa := same_any w.heap.size l.length sv recs _ wr.drew HPd.out HXd.out HF.out.fit (by omega) (by have := HF.out.len; omega)
              refine wpAnyH_take (i := 0) (oi := { dst := some 98, op := Op.move (Operand.tmp 3), type := 24, pos := _, after := _, guard := none }) (v := ?_) rfl (by kernel_rfl) (by kernel_rfl) (by kernel_rfl) (fun _ _ _ h => h) (Or.inl ⟨by rfl, ?_⟩) (by assumption) ?_
              case refine_2 => (intro w hSw; go_simp <;> with_reducible rfl)
              simp only [Act.put, List.setIfInBounds_toArray, List.set_cons_zero, List.set_cons_succ]
              refine wpAnyH_take (i := 1) (oi := { dst := some 99, op := Op.move (Operand.tmp 5), type := 35, pos := _, after := _, guard := none }) (v := ?_) rfl (by kernel_rfl) (by kernel_rfl) (by kernel_rfl) (fun _ _ _ h => h) (Or.inl ⟨by rfl, ?_⟩) (by assumption) ?_
              case refine_2 => (intro w hSw; go_simp <;> with_reducible rfl)
              simp only [Act.put, List.setIfInBounds_toArray, List.set_cons_zero, List.set_cons_succ]
              refine wpAnyH_take (i := 2) (oi := { dst := some 100, op := Op.move (Operand.tmp 0), type := 29, pos := _, after := _, guard := none }) (v := ?_) rfl (by kernel_rfl) (by kernel_rfl) (by kernel_rfl) (fun _ _ _ h => h) (Or.inl ⟨by rfl, ?_⟩) (by assumption) ?_
              case refine_2 => (intro w hSw; go_simp <;> with_reducible rfl)
              simp only [Act.put, List.setIfInBounds_toArray, List.set_cons_zero, List.set_cons_succ]
              refine wpAnyH_take (i := 3) (oi := { dst := some 101, op := Op.call { callee := Callee.builtin Builtin.len, args := #[Operand.tmp 100], argTypes := #[29] }, type := 3, pos := _, after := _, guard := none }) (v := ?_) rfl (by kernel_rfl) (by kernel_rfl) (by kernel_rfl) (fun _ _ _ h => h) (Or.inl ⟨by rfl, ?_⟩) (by assumption) ?_
              case refine_2 => (intro w hSw; go_simp <;> with_reducible rfl)
              simp only [Act.put, List.setIfInBounds_toArray, List.set_cons_zero, List.set_cons_succ]
              refine wpAnyH_ready (rs := [4]) (by kernel_rfl) (by simp) ?_
              refine AllReadyH.cons (o := { dst := some 102, op := Op.call { callee := Callee.value (Operand.func 17), args := #[Operand.tmp 98, Operand.tmp 99, Operand.tmp 101], argTypes := #[24, 35, 3] }, type := 4, pos := _, after := _, guard := none }) rfl (fun K hK => ?_) AllReadyH.nil
              go_simp
              go_at_call 17
              refine hsa.mono ?_
              rintro e w5 ⟨rfl, hb5⟩
              have hb5' := more1 hb5 hHeld
              have HP5 := hid (HPd.out.kept hb5)
              refine hK.out _ _ hb5' (fun _ => ?_)
              clear hK K hHeld hb5
              try simp only [Act.put, List.setIfInBounds_toArray, List.set_cons_zero, List.set_cons_succ]
              refine wpAnyH_take (i := 5) (oi := { dst := some 103, op := Op.move (Operand.tmp 102), type := 4, pos := _, after := _, guard := none }) (v := ?_) rfl (by kernel_rfl) (by kernel_rfl) (by kernel_rfl) (fun _ _ _ h => h) (Or.inl ⟨by rfl, ?_⟩) (by assumption) ?_
              case refine_2 => (intro w hSw; go_simp <;> with_reducible rfl)
              simp only [Act.put, List.setIfInBounds_toArray, List.set_cons_zero, List.set_cons_succ]
              refine wpAnyH_take (i := 6) (oi := { dst := some 104, op := Op.move (Operand.tmp 5), type := 35, pos := _, after := _, guard := some (5, true) }) (v := ?_) rfl (by kernel_rfl) (by kernel_rfl) (by kernel_rfl) (fun _ _ _ h => h) (Or.inl ⟨by rfl, ?_⟩) (by assumption) ?_
              case refine_2 => (intro w hSw; go_simp <;> with_reducible rfl)
              simp only [Act.put, List.setIfInBounds_toArray, List.set_cons_zero, List.set_cons_succ]
              refine wpAnyH_take (i := 7) (oi := { dst := some 105, op := Op.call { callee := Callee.builtin Builtin.len, args := #[Operand.tmp 104], argTypes := #[35] }, type := 3, pos := _, after := _, guard := some (5, true) }) (v := ?_) rfl (by kernel_rfl) (by kernel_rfl) (by kernel_rfl) (fun _ _ _ h => h) (Or.inl ⟨by rfl, ?_⟩) (by assumption) ?_
              case refine_2 => (intro w hSw; go_simp <;> with_reducible rfl)
              simp only [Act.put, List.setIfInBounds_toArray, List.set_cons_zero, List.set_cons_succ]
              refine wpAnyH_take (i := 8) (oi := { dst := some 106, op := Op.binOp BinOp.eql 3 (Operand.tmp 105) (Operand.const (Value.int IntKind.i64 0)) 3, type := 4, pos := _, after := _, guard := some (5, true) }) (v := ?_) rfl (by kernel_rfl) (by kernel_rfl) (by kernel_rfl) (fun _ _ _ h => h) (Or.inl ⟨by rfl, ?_⟩) (by assumption) ?_
              case refine_2 => (intro w hSw; go_simp <;> with_reducible rfl)
              simp only [Act.put, List.setIfInBounds_toArray, List.set_cons_zero, List.set_cons_succ]
              refine wpAnyH_take (i := 9) (oi := { dst := some 107, op := Op.move (Operand.tmp 106), type := 4, pos := _, after := _, guard := some (5, true) }) (v := ?_) rfl (by kernel_rfl) (by kernel_rfl) (by kernel_rfl) (fun _ _ _ h => h) (Or.inl ⟨by rfl, ?_⟩) (by assumption) ?_
              case refine_2 => (intro w hSw; go_simp <;> with_reducible rfl)
              simp only [Act.put, List.setIfInBounds_toArray, List.set_cons_zero, List.set_cons_succ]
              refine wpAnyH_take (i := 10) (oi := { dst := some 108, op := Op.move (Operand.tmp 5), type := 35, pos := _, after := _, guard := some (9, false) }) (v := undef) rfl (by kernel_rfl) (by kernel_rfl) (by kernel_rfl) (fun _ _ _ h => h) (Or.inr ⟨by rfl, rfl⟩) (by assumption) ?_
              simp only [Act.put, List.setIfInBounds_toArray, List.set_cons_zero, List.set_cons_succ]
              refine wpAnyH_take (i := 11) (oi := { dst := some 109, op := Op.move (Operand.tmp 5), type := 35, pos := _, after := _, guard := some (9, false) }) (v := undef) rfl (by kernel_rfl) (by kernel_rfl) (by kernel_rfl) (fun _ _ _ h => h) (Or.inr ⟨by rfl, rfl⟩) (by assumption) ?_
              simp only [Act.put, List.setIfInBounds_toArray, List.set_cons_zero, List.set_cons_succ]
              refine wpAnyH_take (i := 12) (oi := { dst := some 110, op := Op.call { callee := Callee.builtin Builtin.len, args := #[Operand.tmp 109], argTypes := #[35] }, type := 3, pos := _, after := _, guard := some (9, false) }) (v := undef) rfl (by kernel_rfl) (by kernel_rfl) (by kernel_rfl) (fun _ _ _ h => h) (Or.inr ⟨by rfl, rfl⟩) (by assumption) ?_
              simp only [Act.put, List.setIfInBounds_toArray, List.set_cons_zero, List.set_cons_succ]
              refine wpAnyH_take (i := 13) (oi := { dst := some 111, op := Op.binOp BinOp.sub 3 (Operand.tmp 110) (Operand.const (Value.int IntKind.i64 1)) 3, type := 3, pos := _, after := _, guard := some (9, false) }) (v := undef) rfl (by kernel_rfl) (by kernel_rfl) (by kernel_rfl) (fun _ _ _ h => h) (Or.inr ⟨by rfl, rfl⟩) (by assumption) ?_
              simp only [Act.put, List.setIfInBounds_toArray, List.set_cons_zero, List.set_cons_succ]
              refine wpAnyH_take (i := 14) (oi := { dst := some 112, op := Op.indexAddr 35 (Operand.tmp 108) (Operand.tmp 111), type := 0, pos := _, after := _, guard := some (9, false) }) (v := undef) rfl (by kernel_rfl) (by kernel_rfl) (by kernel_rfl) (fun _ _ _ h => h) (Or.inr ⟨by rfl, rfl⟩) (by assumption) ?_
              simp only [Act.put, List.setIfInBounds_toArray, List.set_cons_zero, List.set_cons_succ]
              refine wpAnyH_take (i := 15) (oi := { dst := some 113, op := Op.load 9 (Operand.tmp 112), type := 9, pos := _, after := _, guard := some (9, false) }) (v := undef) rfl (by kernel_rfl) (by kernel_rfl) (by kernel_rfl) (fun _ _ _ h => h) (Or.inr ⟨by rfl, rfl⟩) (by assumption) ?_
              simp only [Act.put, List.setIfInBounds_toArray, List.set_cons_zero, List.set_cons_succ]
              refine wpAnyH_take (i := 16) (oi := { dst := some 114, op := Op.binOp BinOp.neq 9 (Operand.tmp 113) (Operand.const (Value.string { data := #[] })) 9, type := 4, pos := _, after := _, guard := some (9, false) }) (v := undef) rfl (by kernel_rfl) (by kernel_rfl) (by kernel_rfl) (fun _ _ _ h => h) (Or.inr ⟨by rfl, rfl⟩) (by assumption) ?_
              simp only [Act.put, List.setIfInBounds_toArray, List.set_cons_zero, List.set_cons_succ]
              refine wpAnyH_take (i := 17) (oi := { dst := some 115, op := Op.pick (Operand.tmp 107) (Operand.const (Value.bool true)) (Operand.tmp 114), type := 4, pos := _, after := _, guard := some (5, true) }) (v := ?_) rfl (by kernel_rfl) (by kernel_rfl) (by kernel_rfl) (fun _ _ _ h => h) (Or.inl ⟨by rfl, ?_⟩) (by assumption) ?_
              case refine_2 => (intro w hSw; go_simp <;> with_reducible rfl)
              simp only [Act.put, List.setIfInBounds_toArray, List.set_cons_zero, List.set_cons_succ]
              refine wpAnyH_take (i := 18) (oi := { dst := some 116, op := Op.pick (Operand.tmp 103) (Operand.tmp 115) (Operand.const (Value.bool false)), type := 4, pos := _, after := _, guard := none }) (v := ?_) rfl (by kernel_rfl) (by kernel_rfl) (by kernel_rfl) (fun _ _ _ h => h) (Or.inl ⟨by rfl, ?_⟩) (by assumption) ?_
              case refine_2 => (intro w hSw; go_simp <;> with_reducible rfl)
              simp only [Act.put, List.setIfInBounds_toArray, List.set_cons_zero, List.set_cons_succ]
              refine wpAnyH_take (i := 19) (oi := { dst := some 117, op := Op.move (Operand.tmp 116), type := 4, pos := _, after := _, guard := none }) (v := ?_) rfl (by kernel_rfl) (by kernel_rfl) (by kernel_rfl) (fun _ _ _ h => h) (Or.inl ⟨by rfl, ?_⟩) (by assumption) ?_
              case refine_2 => (intro w hSw; go_simp <;> with_reducible rfl)
              simp only [Act.put, List.setIfInBounds_toArray, List.set_cons_zero, List.set_cons_succ]
              refine wpAnyH_take (i := 20) (oi := { dst := some 118, op := Op.move (Operand.tmp 3), type := 24, pos := _, after := _, guard := some (19, true) }) (v := ?_) rfl (by kernel_rfl) (by kernel_rfl) (by kernel_rfl) (fun _ _ _ h => h) (Or.inl ⟨by rfl, ?_⟩) (by assumption) ?_
              case refine_2 => (intro w hSw; go_simp <;> with_reducible rfl)
              simp only [Act.put, List.setIfInBounds_toArray, List.set_cons_zero, List.set_cons_succ]
              refine wpAnyH_take (i := 23) (oi := { dst := some 121, op := Op.move (Operand.tmp 0), type := 29, pos := _, after := _, guard := some (19, true) }) (v := ?_) rfl (by kernel_rfl) (by kernel_rfl) (by kernel_rfl) (fun _ _ _ h => h) (Or.inl ⟨by rfl, ?_⟩) (by assumption) ?_
              case refine_2 => (intro w hSw; go_simp <;> with_reducible rfl)
              simp only [Act.put, List.setIfInBounds_toArray, List.set_cons_zero, List.set_cons_succ]
              refine wpAnyH_take (i := 24) (oi := { dst := some 122, op := Op.convert 29 9 (Operand.tmp 121), type := 9, pos := _, after := _, guard := some (19, true) }) (v := ?_) rfl (by kernel_rfl) (by kernel_rfl) (by kernel_rfl) (fun _ _ _ h => h) (Or.inl ⟨by rfl, ?_⟩) (by assumption) ?_
              case refine_2 => (intro w hSw; go_simp <;> with_reducible rfl)
              simp only [Act.put, List.setIfInBounds_toArray, List.set_cons_zero, List.set_cons_succ]
              refine wpAnyH_ready (rs := [21]) (by kernel_rfl) (by simp) ?_
              refine AllReadyH.cons (o := { dst := some 119, op := Op.call { callee := Callee.value (Operand.func 23), args := #[Operand.tmp 118], argTypes := #[24] }, type := 29, pos := _, after := _, guard := some (19, true) }) rfl (fun K hK => ?_) AllReadyH.nil
              go_simp
              go_at_call 23
              refine (bytes_as HBYs HP5.out HF.out.fit (by omega) (by have := HF.out.len; omega)).mono ?_
              rintro e w6 ⟨v6, rfl, hr6, hbq6⟩
              have hb6 := more1 hbq6 hb5'
              have hc6 : ∀ w', Below w6.heap.size w6 w' → (convert 29 9 v6).run Try.prog w' = .ok (.string (baOf l)) w' := fun w' hw' => run_bytes (hr6.kept fun k _ _ hk => hw'.block k (heap_lt hk))
              have h66 : Below w6.heap.size w6 w6 := Below.refl _ _
              have HB6 := hid hb6
              refine hK.out _ _ hb6 (fun _ => wpAnyH_mono (S' := fun w' => Below w6.heap.size w6 w') (fun w' hw' => more1 hw' HB6.out) _ _ _ _ ?_)
              clear hK K hb5' hbq6 hb6 hr6
              try simp only [Act.put, List.setIfInBounds_toArray, List.set_cons_zero, List.set_cons_succ]
              refine wpAnyH_take (i := 22) (oi := { dst := some 120, op := Op.convert 29 9 (Operand.tmp 119), type := 9, pos := _, after := _, guard := some (19, true) }) (v := ?_) rfl (by kernel_rfl) (by kernel_rfl) (by kernel_rfl) (fun _ _ _ h => h) (Or.inl ⟨by rfl, ?_⟩) (by assumption) ?_
              case refine_2 => (intro w hSw; go_simp <;> with_reducible rfl)
              simp only [Act.put, List.setIfInBounds_toArray, List.set_cons_zero, List.set_cons_succ]
              refine wpAnyH_take (i := 25) (oi := { dst := some 123, op := Op.binOp BinOp.eql 9 (Operand.tmp 120) (Operand.tmp 122) 9, type := 4, pos := _, after := _, guard := some (19, true) }) (v := ?_) rfl (by kernel_rfl) (by kernel_rfl) (by kernel_rfl) (fun _ _ _ h => h) (Or.inl ⟨by rfl, ?_⟩) (by assumption) ?_
              case refine_2 => (intro w hSw; go_simp <;> with_reducible rfl)
              simp only [Act.put, List.setIfInBounds_toArray, List.set_cons_zero, List.set_cons_succ]
              refine wpAnyH_take (i := 26) (oi := { dst := some 124, op := Op.pick (Operand.tmp 117) (Operand.tmp 123) (Operand.const (Value.bool false)), type := 4, pos := _, after := _, guard := none }) (v := ?_) rfl (by kernel_rfl) (by kernel_rfl) (by kernel_rfl) (fun _ _ _ h => h) (Or.inl ⟨by rfl, ?_⟩) (by assumption) ?_
              case refine_2 => (intro w hSw; go_simp <;> with_reducible rfl)
              simp only [Act.put, List.setIfInBounds_toArray, List.set_cons_zero, List.set_cons_succ]
              refine wpAnyH_take (i := 27) (oi := { dst := some 125, op := Op.move (Operand.tmp 124), type := 4, pos := _, after := _, guard := none }) (v := ?_) rfl (by kernel_rfl) (by kernel_rfl) (by kernel_rfl) (fun _ _ _ h => h) (Or.inl ⟨by rfl, ?_⟩) (by assumption) ?_
              case refine_2 => (intro w hSw; go_simp <;> with_reducible rfl)
              simp only [Act.put, List.setIfInBounds_toArray, List.set_cons_zero, List.set_cons_succ]
              refine wpAnyH_ready (rs := [28]) (by kernel_rfl) (by simp) ?_
              refine AllReadyH.cons (o := { dst := some 126, op := Op.call { callee := Callee.value (Operand.func 8), args := #[], argTypes := #[] }, type := 4, pos := _, after := _, guard := some (27, true) }) rfl (fun K hK => ?_) AllReadyH.nil
              go_simp
              go_at_call 8
              refine (awake_any _).mono ?_
              rintro e w7 ⟨rfl, hb7⟩
              have HB7 := hid (more1 hb7 HB6.out)
              refine hK.out _ _ hb7 (fun _ => ?_)
              clear hK K h66
              try simp only [Act.put, List.setIfInBounds_toArray, List.set_cons_zero, List.set_cons_succ]
              refine wpAnyH_take (i := 29) (oi := { dst := some 127, op := Op.pick (Operand.tmp 125) (Operand.tmp 126) (Operand.const (Value.bool false)), type := 4, pos := _, after := _, guard := none }) (v := ?_) rfl (by kernel_rfl) (by kernel_rfl) (by kernel_rfl) (fun _ _ _ h => h) (Or.inl ⟨by rfl, ?_⟩) (by assumption) ?_
              case refine_2 => (intro w hSw; go_simp <;> with_reducible rfl)
              simp only [Act.put, List.setIfInBounds_toArray, List.set_cons_zero, List.set_cons_succ]
              refine wpAnyH_take (i := 30) (oi := { dst := some 2, op := Op.assign (Operand.tmp 127), type := 4, pos := _, after := _, guard := none }) (v := ?_) rfl (by kernel_rfl) (by kernel_rfl) (by kernel_rfl) (fun _ _ _ h => h) (Or.inl ⟨by rfl, ?_⟩) (by assumption) ?_
              case refine_2 => (intro w hSw; go_simp <;> with_reducible rfl)
              simp only [Act.put, List.setIfInBounds_toArray, List.set_cons_zero, List.set_cons_succ]
              refine wpAnyH_done (by kernel_rfl) ?_ _
              go_wp2
              go_ret
              exact ⟨rfl, HBW.out.trans (HB7.out.mono HBW.out.size)⟩
            · have e0 : ((recs.length : Int) == 0) = false := by rw [beq_eq_false_iff_ne]; omega
              have n0 : (1 : Int) ≤ (recs.length : Int) := by omega
              obtain ⟨g, c', hv⟩ := HX.out.row (by omega)
              injection hv with hA _ hc
              subst hA hc
              have wn : IntKind.i64.wrap ((recs.length : Int) - 1) = (recs.length : Int) - 1 := IntWalk.i64_in _ (by omega)
              have n1 : (0 : Int) ≤ (recs.length : Int) - 1 := by omega
              have n2 : (recs.length : Int) - 1 < (recs.length : Int) := by omega
              have n3 : ((recs.length : Int) - 1).toNat = recs.length - 1 := by omega
              have hlast := hasV_last HF.out.last (by omega)
              have hgl : recs[recs.length - 1]'(by omega) ≠ [] := by
                have h1 := hasV_at recs (recs.length - 1) (by omega)
                rw [show (recs.length : Int) - 1 = ((recs.length - 1 : Nat) : Int) by omega, h1] at hlast
                simpa using hlast
              have hcl : ∀ w', Below wr.heap.size wr w' → w'.cell? ⟨g, recs.length - 1, none⟩ = some (.string (baOf (recs[recs.length - 1]'(by omega)))) := fun w' hw' => (HX.out.below hw').cell (recs.length - 1) (by omega)
              generalize recs[recs.length - 1]'(by omega) = r at hcl hgl
              obtain ⟨b, t, rfl⟩ := List.exists_cons_of_ne_nil hgl
              have hbt := baOf_toList
              refine wp_region_held_drew (S := fun w' => Below wr.heap.size wr w') (by kernel_rfl) (Below.drew (Below.refl _ _)) (fun hHeld => ?_)
              have HPd := hid (HPr.out.kept hHeld)
              have HXd := hid (HX.out.below hHeld)
              have hsa := same_any w.heap.size l.length sv recs _ wr.drew HPd.out HXd.out HF.out.fit (by omega) (by have := HF.out.len; omega)
              refine wpAnyH_take (i := 0) (oi := { dst := some 98, op := Op.move (Operand.tmp 3), type := 24, pos := _, after := _, guard := none }) (v := ?_) rfl (by kernel_rfl) (by kernel_rfl) (by kernel_rfl) (fun _ _ _ h => h) (Or.inl ⟨by rfl, ?_⟩) (by assumption) ?_
              case refine_2 => (intro w hSw; go_simp <;> with_reducible rfl)
              simp only [Act.put, List.setIfInBounds_toArray, List.set_cons_zero, List.set_cons_succ]
              refine wpAnyH_take (i := 1) (oi := { dst := some 99, op := Op.move (Operand.tmp 5), type := 35, pos := _, after := _, guard := none }) (v := ?_) rfl (by kernel_rfl) (by kernel_rfl) (by kernel_rfl) (fun _ _ _ h => h) (Or.inl ⟨by rfl, ?_⟩) (by assumption) ?_
              case refine_2 => (intro w hSw; go_simp <;> with_reducible rfl)
              simp only [Act.put, List.setIfInBounds_toArray, List.set_cons_zero, List.set_cons_succ]
              refine wpAnyH_take (i := 2) (oi := { dst := some 100, op := Op.move (Operand.tmp 0), type := 29, pos := _, after := _, guard := none }) (v := ?_) rfl (by kernel_rfl) (by kernel_rfl) (by kernel_rfl) (fun _ _ _ h => h) (Or.inl ⟨by rfl, ?_⟩) (by assumption) ?_
              case refine_2 => (intro w hSw; go_simp <;> with_reducible rfl)
              simp only [Act.put, List.setIfInBounds_toArray, List.set_cons_zero, List.set_cons_succ]
              refine wpAnyH_take (i := 3) (oi := { dst := some 101, op := Op.call { callee := Callee.builtin Builtin.len, args := #[Operand.tmp 100], argTypes := #[29] }, type := 3, pos := _, after := _, guard := none }) (v := ?_) rfl (by kernel_rfl) (by kernel_rfl) (by kernel_rfl) (fun _ _ _ h => h) (Or.inl ⟨by rfl, ?_⟩) (by assumption) ?_
              case refine_2 => (intro w hSw; go_simp <;> with_reducible rfl)
              simp only [Act.put, List.setIfInBounds_toArray, List.set_cons_zero, List.set_cons_succ]
              refine wpAnyH_ready (rs := [4]) (by kernel_rfl) (by simp) ?_
              refine AllReadyH.cons (o := { dst := some 102, op := Op.call { callee := Callee.value (Operand.func 17), args := #[Operand.tmp 98, Operand.tmp 99, Operand.tmp 101], argTypes := #[24, 35, 3] }, type := 4, pos := _, after := _, guard := none }) rfl (fun K hK => ?_) AllReadyH.nil
              go_simp
              go_at_call 17
              refine hsa.mono ?_
              rintro e w5 ⟨rfl, hb5⟩
              have hb5' := more1 hb5 hHeld
              have HP5 := hid (HPd.out.kept hb5)
              refine hK.out _ _ hb5' (fun _ => ?_)
              clear hK K hHeld hb5
              try simp only [Act.put, List.setIfInBounds_toArray, List.set_cons_zero, List.set_cons_succ]
              refine wpAnyH_take (i := 5) (oi := { dst := some 103, op := Op.move (Operand.tmp 102), type := 4, pos := _, after := _, guard := none }) (v := ?_) rfl (by kernel_rfl) (by kernel_rfl) (by kernel_rfl) (fun _ _ _ h => h) (Or.inl ⟨by rfl, ?_⟩) (by assumption) ?_
              case refine_2 => (intro w hSw; go_simp <;> with_reducible rfl)
              simp only [Act.put, List.setIfInBounds_toArray, List.set_cons_zero, List.set_cons_succ]
              refine wpAnyH_take (i := 6) (oi := { dst := some 104, op := Op.move (Operand.tmp 5), type := 35, pos := _, after := _, guard := some (5, true) }) (v := ?_) rfl (by kernel_rfl) (by kernel_rfl) (by kernel_rfl) (fun _ _ _ h => h) (Or.inl ⟨by rfl, ?_⟩) (by assumption) ?_
              case refine_2 => (intro w hSw; go_simp <;> with_reducible rfl)
              simp only [Act.put, List.setIfInBounds_toArray, List.set_cons_zero, List.set_cons_succ]
              refine wpAnyH_take (i := 7) (oi := { dst := some 105, op := Op.call { callee := Callee.builtin Builtin.len, args := #[Operand.tmp 104], argTypes := #[35] }, type := 3, pos := _, after := _, guard := some (5, true) }) (v := ?_) rfl (by kernel_rfl) (by kernel_rfl) (by kernel_rfl) (fun _ _ _ h => h) (Or.inl ⟨by rfl, ?_⟩) (by assumption) ?_
              case refine_2 => (intro w hSw; go_simp <;> with_reducible rfl)
              simp only [Act.put, List.setIfInBounds_toArray, List.set_cons_zero, List.set_cons_succ]
              refine wpAnyH_take (i := 8) (oi := { dst := some 106, op := Op.binOp BinOp.eql 3 (Operand.tmp 105) (Operand.const (Value.int IntKind.i64 0)) 3, type := 4, pos := _, after := _, guard := some (5, true) }) (v := ?_) rfl (by kernel_rfl) (by kernel_rfl) (by kernel_rfl) (fun _ _ _ h => h) (Or.inl ⟨by rfl, ?_⟩) (by assumption) ?_
              case refine_2 => (intro w hSw; go_simp <;> with_reducible rfl)
              simp only [Act.put, List.setIfInBounds_toArray, List.set_cons_zero, List.set_cons_succ]
              refine wpAnyH_take (i := 9) (oi := { dst := some 107, op := Op.move (Operand.tmp 106), type := 4, pos := _, after := _, guard := some (5, true) }) (v := ?_) rfl (by kernel_rfl) (by kernel_rfl) (by kernel_rfl) (fun _ _ _ h => h) (Or.inl ⟨by rfl, ?_⟩) (by assumption) ?_
              case refine_2 => (intro w hSw; go_simp <;> with_reducible rfl)
              simp only [Act.put, List.setIfInBounds_toArray, List.set_cons_zero, List.set_cons_succ]
              refine wpAnyH_take (i := 10) (oi := { dst := some 108, op := Op.move (Operand.tmp 5), type := 35, pos := _, after := _, guard := some (9, false) }) (v := ?_) rfl (by kernel_rfl) (by kernel_rfl) (by kernel_rfl) (fun _ _ _ h => h) (Or.inl ⟨by rfl, ?_⟩) (by assumption) ?_
              case refine_2 => (intro w hSw; go_simp <;> with_reducible rfl)
              simp only [Act.put, List.setIfInBounds_toArray, List.set_cons_zero, List.set_cons_succ]
              refine wpAnyH_take (i := 11) (oi := { dst := some 109, op := Op.move (Operand.tmp 5), type := 35, pos := _, after := _, guard := some (9, false) }) (v := ?_) rfl (by kernel_rfl) (by kernel_rfl) (by kernel_rfl) (fun _ _ _ h => h) (Or.inl ⟨by rfl, ?_⟩) (by assumption) ?_
              case refine_2 => (intro w hSw; go_simp <;> with_reducible rfl)
              simp only [Act.put, List.setIfInBounds_toArray, List.set_cons_zero, List.set_cons_succ]
              refine wpAnyH_take (i := 12) (oi := { dst := some 110, op := Op.call { callee := Callee.builtin Builtin.len, args := #[Operand.tmp 109], argTypes := #[35] }, type := 3, pos := _, after := _, guard := some (9, false) }) (v := ?_) rfl (by kernel_rfl) (by kernel_rfl) (by kernel_rfl) (fun _ _ _ h => h) (Or.inl ⟨by rfl, ?_⟩) (by assumption) ?_
              case refine_2 => (intro w hSw; go_simp <;> with_reducible rfl)
              simp only [Act.put, List.setIfInBounds_toArray, List.set_cons_zero, List.set_cons_succ]
              refine wpAnyH_take (i := 13) (oi := { dst := some 111, op := Op.binOp BinOp.sub 3 (Operand.tmp 110) (Operand.const (Value.int IntKind.i64 1)) 3, type := 3, pos := _, after := _, guard := some (9, false) }) (v := ?_) rfl (by kernel_rfl) (by kernel_rfl) (by kernel_rfl) (fun _ _ _ h => h) (Or.inl ⟨by rfl, ?_⟩) (by assumption) ?_
              case refine_2 => (intro w hSw; go_simp <;> with_reducible rfl)
              simp only [Act.put, List.setIfInBounds_toArray, List.set_cons_zero, List.set_cons_succ]
              refine wpAnyH_take (i := 14) (oi := { dst := some 112, op := Op.indexAddr 35 (Operand.tmp 108) (Operand.tmp 111), type := 0, pos := _, after := _, guard := some (9, false) }) (v := ?_) rfl (by kernel_rfl) (by kernel_rfl) (by kernel_rfl) (fun _ _ _ h => h) (Or.inl ⟨by rfl, ?_⟩) (by assumption) ?_
              case refine_2 => (intro w hSw; go_simp <;> with_reducible rfl)
              simp only [Act.put, List.setIfInBounds_toArray, List.set_cons_zero, List.set_cons_succ]
              refine wpAnyH_take (i := 15) (oi := { dst := some 113, op := Op.load 9 (Operand.tmp 112), type := 9, pos := _, after := _, guard := some (9, false) }) (v := ?_) rfl (by kernel_rfl) (by kernel_rfl) (by kernel_rfl) (fun _ _ _ h => h) (Or.inl ⟨by rfl, ?_⟩) (by assumption) ?_
              case refine_2 => (intro w hSw; go_simp <;> with_reducible rfl)
              simp only [Act.put, List.setIfInBounds_toArray, List.set_cons_zero, List.set_cons_succ]
              refine wpAnyH_take (i := 16) (oi := { dst := some 114, op := Op.binOp BinOp.neq 9 (Operand.tmp 113) (Operand.const (Value.string { data := #[] })) 9, type := 4, pos := _, after := _, guard := some (9, false) }) (v := ?_) rfl (by kernel_rfl) (by kernel_rfl) (by kernel_rfl) (fun _ _ _ h => h) (Or.inl ⟨by rfl, ?_⟩) (by assumption) ?_
              case refine_2 => (intro w hSw; go_simp <;> with_reducible rfl)
              simp only [Act.put, List.setIfInBounds_toArray, List.set_cons_zero, List.set_cons_succ]
              refine wpAnyH_take (i := 17) (oi := { dst := some 115, op := Op.pick (Operand.tmp 107) (Operand.const (Value.bool true)) (Operand.tmp 114), type := 4, pos := _, after := _, guard := some (5, true) }) (v := ?_) rfl (by kernel_rfl) (by kernel_rfl) (by kernel_rfl) (fun _ _ _ h => h) (Or.inl ⟨by rfl, ?_⟩) (by assumption) ?_
              case refine_2 => (intro w hSw; go_simp <;> with_reducible rfl)
              simp only [Act.put, List.setIfInBounds_toArray, List.set_cons_zero, List.set_cons_succ]
              refine wpAnyH_take (i := 18) (oi := { dst := some 116, op := Op.pick (Operand.tmp 103) (Operand.tmp 115) (Operand.const (Value.bool false)), type := 4, pos := _, after := _, guard := none }) (v := ?_) rfl (by kernel_rfl) (by kernel_rfl) (by kernel_rfl) (fun _ _ _ h => h) (Or.inl ⟨by rfl, ?_⟩) (by assumption) ?_
              case refine_2 => (intro w hSw; go_simp <;> with_reducible rfl)
              simp only [Act.put, List.setIfInBounds_toArray, List.set_cons_zero, List.set_cons_succ]
              refine wpAnyH_take (i := 19) (oi := { dst := some 117, op := Op.move (Operand.tmp 116), type := 4, pos := _, after := _, guard := none }) (v := ?_) rfl (by kernel_rfl) (by kernel_rfl) (by kernel_rfl) (fun _ _ _ h => h) (Or.inl ⟨by rfl, ?_⟩) (by assumption) ?_
              case refine_2 => (intro w hSw; go_simp <;> with_reducible rfl)
              simp only [Act.put, List.setIfInBounds_toArray, List.set_cons_zero, List.set_cons_succ]
              refine wpAnyH_take (i := 20) (oi := { dst := some 118, op := Op.move (Operand.tmp 3), type := 24, pos := _, after := _, guard := some (19, true) }) (v := ?_) rfl (by kernel_rfl) (by kernel_rfl) (by kernel_rfl) (fun _ _ _ h => h) (Or.inl ⟨by rfl, ?_⟩) (by assumption) ?_
              case refine_2 => (intro w hSw; go_simp <;> with_reducible rfl)
              simp only [Act.put, List.setIfInBounds_toArray, List.set_cons_zero, List.set_cons_succ]
              refine wpAnyH_take (i := 23) (oi := { dst := some 121, op := Op.move (Operand.tmp 0), type := 29, pos := _, after := _, guard := some (19, true) }) (v := ?_) rfl (by kernel_rfl) (by kernel_rfl) (by kernel_rfl) (fun _ _ _ h => h) (Or.inl ⟨by rfl, ?_⟩) (by assumption) ?_
              case refine_2 => (intro w hSw; go_simp <;> with_reducible rfl)
              simp only [Act.put, List.setIfInBounds_toArray, List.set_cons_zero, List.set_cons_succ]
              refine wpAnyH_take (i := 24) (oi := { dst := some 122, op := Op.convert 29 9 (Operand.tmp 121), type := 9, pos := _, after := _, guard := some (19, true) }) (v := ?_) rfl (by kernel_rfl) (by kernel_rfl) (by kernel_rfl) (fun _ _ _ h => h) (Or.inl ⟨by rfl, ?_⟩) (by assumption) ?_
              case refine_2 => (intro w hSw; go_simp <;> with_reducible rfl)
              simp only [Act.put, List.setIfInBounds_toArray, List.set_cons_zero, List.set_cons_succ]
              refine wpAnyH_ready (rs := [21]) (by kernel_rfl) (by simp) ?_
              refine AllReadyH.cons (o := { dst := some 119, op := Op.call { callee := Callee.value (Operand.func 23), args := #[Operand.tmp 118], argTypes := #[24] }, type := 29, pos := _, after := _, guard := some (19, true) }) rfl (fun K hK => ?_) AllReadyH.nil
              go_simp
              go_at_call 23
              refine (bytes_as HBYs HP5.out HF.out.fit (by omega) (by have := HF.out.len; omega)).mono ?_
              rintro e w6 ⟨v6, rfl, hr6, hbq6⟩
              have hb6 := more1 hbq6 hb5'
              have hc6 : ∀ w', Below w6.heap.size w6 w' → (convert 29 9 v6).run Try.prog w' = .ok (.string (baOf l)) w' := fun w' hw' => run_bytes (hr6.kept fun k _ _ hk => hw'.block k (heap_lt hk))
              have h66 : Below w6.heap.size w6 w6 := Below.refl _ _
              have HB6 := hid hb6
              refine hK.out _ _ hb6 (fun _ => wpAnyH_mono (S' := fun w' => Below w6.heap.size w6 w') (fun w' hw' => more1 hw' HB6.out) _ _ _ _ ?_)
              clear hK K hb5' hbq6 hb6 hr6
              try simp only [Act.put, List.setIfInBounds_toArray, List.set_cons_zero, List.set_cons_succ]
              refine wpAnyH_take (i := 22) (oi := { dst := some 120, op := Op.convert 29 9 (Operand.tmp 119), type := 9, pos := _, after := _, guard := some (19, true) }) (v := ?_) rfl (by kernel_rfl) (by kernel_rfl) (by kernel_rfl) (fun _ _ _ h => h) (Or.inl ⟨by rfl, ?_⟩) (by assumption) ?_
              case refine_2 => (intro w hSw; go_simp <;> with_reducible rfl)
              simp only [Act.put, List.setIfInBounds_toArray, List.set_cons_zero, List.set_cons_succ]
              refine wpAnyH_take (i := 25) (oi := { dst := some 123, op := Op.binOp BinOp.eql 9 (Operand.tmp 120) (Operand.tmp 122) 9, type := 4, pos := _, after := _, guard := some (19, true) }) (v := ?_) rfl (by kernel_rfl) (by kernel_rfl) (by kernel_rfl) (fun _ _ _ h => h) (Or.inl ⟨by rfl, ?_⟩) (by assumption) ?_
              case refine_2 => (intro w hSw; go_simp <;> with_reducible rfl)
              simp only [Act.put, List.setIfInBounds_toArray, List.set_cons_zero, List.set_cons_succ]
              refine wpAnyH_take (i := 26) (oi := { dst := some 124, op := Op.pick (Operand.tmp 117) (Operand.tmp 123) (Operand.const (Value.bool false)), type := 4, pos := _, after := _, guard := none }) (v := ?_) rfl (by kernel_rfl) (by kernel_rfl) (by kernel_rfl) (fun _ _ _ h => h) (Or.inl ⟨by rfl, ?_⟩) (by assumption) ?_
              case refine_2 => (intro w hSw; go_simp <;> with_reducible rfl)
              simp only [Act.put, List.setIfInBounds_toArray, List.set_cons_zero, List.set_cons_succ]
              refine wpAnyH_take (i := 27) (oi := { dst := some 125, op := Op.move (Operand.tmp 124), type := 4, pos := _, after := _, guard := none }) (v := ?_) rfl (by kernel_rfl) (by kernel_rfl) (by kernel_rfl) (fun _ _ _ h => h) (Or.inl ⟨by rfl, ?_⟩) (by assumption) ?_
              case refine_2 => (intro w hSw; go_simp <;> with_reducible rfl)
              simp only [Act.put, List.setIfInBounds_toArray, List.set_cons_zero, List.set_cons_succ]
              refine wpAnyH_ready (rs := [28]) (by kernel_rfl) (by simp) ?_
              refine AllReadyH.cons (o := { dst := some 126, op := Op.call { callee := Callee.value (Operand.func 8), args := #[], argTypes := #[] }, type := 4, pos := _, after := _, guard := some (27, true) }) rfl (fun K hK => ?_) AllReadyH.nil
              go_simp
              go_at_call 8
              refine (awake_any _).mono ?_
              rintro e w7 ⟨rfl, hb7⟩
              have HB7 := hid (more1 hb7 HB6.out)
              refine hK.out _ _ hb7 (fun _ => ?_)
              clear hK K h66
              try simp only [Act.put, List.setIfInBounds_toArray, List.set_cons_zero, List.set_cons_succ]
              refine wpAnyH_take (i := 29) (oi := { dst := some 127, op := Op.pick (Operand.tmp 125) (Operand.tmp 126) (Operand.const (Value.bool false)), type := 4, pos := _, after := _, guard := none }) (v := ?_) rfl (by kernel_rfl) (by kernel_rfl) (by kernel_rfl) (fun _ _ _ h => h) (Or.inl ⟨by rfl, ?_⟩) (by assumption) ?_
              case refine_2 => (intro w hSw; go_simp <;> with_reducible rfl)
              simp only [Act.put, List.setIfInBounds_toArray, List.set_cons_zero, List.set_cons_succ]
              refine wpAnyH_take (i := 30) (oi := { dst := some 2, op := Op.assign (Operand.tmp 127), type := 4, pos := _, after := _, guard := none }) (v := ?_) rfl (by kernel_rfl) (by kernel_rfl) (by kernel_rfl) (fun _ _ _ h => h) (Or.inl ⟨by rfl, ?_⟩) (by assumption) ?_
              case refine_2 => (intro w hSw; go_simp <;> with_reducible rfl)
              simp only [Act.put, List.setIfInBounds_toArray, List.set_cons_zero, List.set_cons_succ]
              refine wpAnyH_done (by kernel_rfl) ?_ _
              go_wp2
              go_ret
              exact ⟨rfl, HBW.out.trans (HB7.out.mono HBW.out.size)⟩
  · have g1 : decide ((l.length : Int) > 400) = true := decide_eq_true (by omega)
    clear ho
    go_enter Try.func6, Try.ntmps6
    go_wp2_with fail
    refine (awake_any _).mono ?_
    rintro e w1 ⟨rfl, hb⟩
    go_wp2
    go_ret
    exact ⟨rfl, hb⟩
end Go.Proofs.Ytgkohbjbfjnllaa
