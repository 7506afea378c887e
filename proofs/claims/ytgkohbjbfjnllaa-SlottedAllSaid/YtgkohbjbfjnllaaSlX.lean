/-
  Layer 9's statements: one call of both (step): for every call, page and list; the first kind (Put).
-/
import Derived.Test.YtgkohbjbfjnllaaSlW
import Derived.Deep.CutRange
namespace Go.Proofs.Ytgkohbjbfjnllaa
open Go.RowKit

theorem StrsAt.base {w : World} {B B' : Nat} {v : Value} {recs : List (List UInt8)} (h : StrsAt w B v recs) (hB : B' ≤ B) : StrsAt w B' v recs := ownsRow_base h hB

/-- append(v, x...) of a list of texts -/
theorem wpList_append_strs {w : World} {ops : Array Oper} {rest : List Oper} {o : Oper} {a : Act} {Q : Exit → Act → World → Prop} (hgd : o.guard = none) (s x : Operand)
    (ho : o.op = .call { callee := .builtin .append, args := #[s, x], argTypes := #[35, 35] }) (base : Nat) (v : Value) (hs : a.eval s = v) (hown : w.ownsRow base 9 1 v 0 [])
    (xv : Value) (B : Nat) (recs : List (List UInt8)) (hx : a.eval x = xv) (hrec : StrsAt w B xv recs) (hn : recs.length ≤ 1048576) (hbase : base ≤ w.heap.size)
    (h : ∀ v' w', StrsAt w' base v' recs → w.grownBy w' v.ownBlock → wpList Try.prog ops Q rest (a.put o.dst v') w') : wpList Try.prog ops Q (o :: rest) a w := by
  obtain ⟨i0, hi, hz0, hz1, hz2⟩ := info_parts infoT
  obtain ⟨h1, ⟨rfl, h0⟩ | ⟨g, cap, cur, rfl, hb, hh, hle, hm, hsz, ht⟩⟩ := hrec
  · have hnil : recs = [] := List.length_eq_zero_iff.1 h0
    subst hnil
    exact wpList_append_own_none hgd s x 35 ho base 9 i0 1 Try.underlying35 hi v 0 [] hs hown hx (h v w hown ⟨rfl, rfl, rfl, Nat.le_refl _, fun _ _ _ => rfl⟩)
  · refine wpList_append_own w hgd s x 35 ho base 9 i0 (.string ⟨#[]⟩) 1 16 Try.underlying35 hi hz0 hz1 hz2 rfl (by decide) v 0 [] hs hown ⟨g, 0, none⟩ recs.length cap (recs.map fun l => Value.string (baOf l)) hx (by simp) ?_ (by simp [Value.oneCell']) (by unfold maxLen; omega) (by omega) hbase (fun v' w' h1 h2 _ => h v' w' (by simpa [StrsAt] using h1) h2)
    intro j u hu
    have hj : j < recs.length := by simpa using (List.getElem?_eq_some_iff.1 hu).1
    have h3 : (cur.toList.take (recs.length * 1))[j]? = some u := by rw [ht]; exact hu
    rw [List.getElem?_take_of_lt (by omega)] at h3
    by_cases h0 : j = 0
    · subst h0; simp [World.cell?, Addr.add, hh]; simpa using h3
    · simp [World.cell?, Addr.add, hh, h0]; simpa using h3

/-- a text is written -/
theorem StrsAt.put {w : World} {B g n c : Nat} {recs : List (List UInt8)} (h : StrsAt w B (.slice (some ⟨g, 0, none⟩) n c) recs) (k : Nat) (l : List UInt8) : StrsAt (w.setCell ⟨g, k, none⟩ (.string (baOf l))) B (.slice (some ⟨g, 0, none⟩) n c) (recs.set k l) := by
  obtain ⟨h1, ⟨h2, _⟩ | ⟨g', cap, cur, h2, hb, hh, hn, hm, hs, ht⟩⟩ := h
  · cases h2
  · injection h2 with h2 hn2 hc2
    injection h2 with h2
    injection h2 with h2
    subst h2 hn2 hc2
    refine ⟨by simp, .inr ⟨g, c, cur.setIfInBounds k (.string (baOf l)), by simp, hb, heap_set_self _ hh, by simpa using hn, hm, by simp [hs], ?_⟩⟩
    rw [Array.toList_setIfInBounds, List.length_set, List.take_set, ht, List.map_set]
theorem StrsAt.set_below {w : World} {B g n c : Nat} {recs : List (List UInt8)} (h : StrsAt w B (.slice (some ⟨g, 0, none⟩) n c) recs) (k : Nat) (u : Value) : Below B w (w.setCell ⟨g, k, none⟩ u) := by
  obtain ⟨h1, ⟨h2, _⟩ | ⟨g', cap, cur, h2, hb, hh, r⟩⟩ := h
  · cases h2
  · injection h2 with h2 hn2 hc2
    injection h2 with h2
    injection h2 with h2
    subst h2
    exact (Below.refl _ _).setCell (p := ⟨g, k, none⟩) hb u

theorem Touch.above {B bp n : Nat} {a b c : World} (h : Touch B bp a b) (k : Below n b c) (hn : a.heap.size ≤ n) (hB : B ≤ n) : Touch B bp a c :=
  ⟨h.below.trans (k.mono hB), fun i cur e fr hi he hne => (k.block i (Nat.lt_of_lt_of_le (heap_lt hi) hn)).trans (h.block i cur e fr hi he hne)⟩

/-- the page behind work on a row of texts -/
theorem PageAt.far [fb : Forbid] {w w' : World} {B bp : Nat} {size : Int} {sv : Value} {recs : List (List UInt8)} {g : Nat} {cur : Array Value} {fr : Nat × Nat} (h : PageAt w B bp size sv recs) (hg : w.heap[g]? = some (.cells cur 9 fr)) (hsz : w.heap.size ≤ w'.heap.size) (hk : ∀ k, k < w.heap.size → k ≠ g → w'.heap[k]? = w.heap[k]?) : PageAt w' B bp size sv recs := by
  have ne : ∀ {k : Nat} {c : Array Value} {e : TypeId} {f : Nat × Nat}, w.heap[k]? = some (.cells c e f) → e ≠ 9 → k ≠ g := fun h1 h2 h3 => by
    subst h3
    rw [hg] at h1
    injection h1 with h1
    injection h1 with _ h1 _
    exact h2 h1.symm
  obtain ⟨h1, h2, vs, ⟨hl, hv⟩, hr⟩ := h
  refine ⟨(hk bp (heap_lt h1) (ne h1 (by decide))).trans h1, ⟨h2.1, fun b hb2 => Nat.lt_of_lt_of_le (h2.2 b hb2) hsz⟩, vs, ⟨hl, ?_⟩, fun i l hi => ?_⟩
  · rcases hv with hv | ⟨g', cap, cur', hv, hb, hh, r⟩
    · exact .inl hv
    · exact .inr ⟨g', cap, cur', hv, hb, (hk g' (heap_lt hh) (ne hh (by decide))).trans hh, r⟩
  · obtain ⟨v, hvi, hrec⟩ := hr i l hi
    exact ⟨v, hvi, hrec.1.kept fun k _ _ hh => hk k (heap_lt hh) (ne hh (by decide)), hrec.2⟩
theorem PageAt.set_str [fb : Forbid] {w : World} {B B' bp : Nat} {size : Int} {sv : Value} {recs xs : List (List UInt8)} {g n c : Nat} (h : PageAt w B bp size sv recs) (hx : StrsAt w B' (.slice (some ⟨g, 0, none⟩) n c) xs) (k : Nat) (u : Value) : PageAt (w.setCell ⟨g, k, none⟩ u) B bp size sv recs := by
  obtain ⟨_, ⟨h2, _⟩ | ⟨g', cap, cur, h2, hb, hh, r⟩⟩ := hx
  · cases h2
  · injection h2 with h2
    injection h2 with h2
    injection h2 with h2
    subst h2
    exact h.far hh (by simp) fun k _ hne => Below.heap_setCell _ _ _ _ hne
theorem PageAt.grown_str [fb : Forbid] {w w' : World} {B B' bp : Nat} {size : Int} {sv v : Value} {recs xs : List (List UInt8)} (h : PageAt w B bp size sv recs) (hx : StrsAt w B' v xs) (hg : w.grownBy w' v.ownBlock) : PageAt w' B bp size sv recs := by
  obtain ⟨_, ⟨rfl, _⟩ | ⟨g', cap, cur, rfl, hb, hh, r⟩⟩ := hx
  · exact h.kept ⟨hg.os, hg.tape, hg.output, hg.size, fun k hk => hg.block k hk (by simp [Value.ownBlock])⟩
  · exact h.far hh hg.size fun k hk hne => hg.block k hk (by simpa [Value.ownBlock] using hne)

theorem PageAt.base [fb : Forbid] {w : World} {B B' bp : Nat} {size : Int} {sv : Value} {recs : List (List UInt8)} (h : PageAt w B bp size sv recs) (hB : B' ≤ B) : PageAt w B' bp size sv recs := by
  obtain ⟨h1, h2, vs, h3, h4⟩ := h
  exact ⟨h1, ⟨Nat.le_trans hB h2.1, h2.2⟩, vs, ownsRow_base h3 hB, h4⟩

theorem hasV_cases (recs : List (List UInt8)) (slot : Int) : (slot < 0 ∧ hasV recs slot = false) ∨ (∃ k : Nat, slot = (k : Int) ∧ recs.length ≤ k ∧ hasV recs slot = false) ∨ (∃ (k : Nat), slot = (k : Int) ∧ ∃ h : k < recs.length, hasV recs slot = !(recs[k]'h).isEmpty) := by
  by_cases h0 : slot < 0
  · exact .inl ⟨h0, by simp [hasV]; omega⟩
  · obtain ⟨k, rfl⟩ := Int.eq_ofNat_of_zero_le (show 0 ≤ slot by omega)
    by_cases hk : k < recs.length
    · exact .inr (.inr ⟨k, rfl, hk, by simp [hasV, List.getElem?_eq_getElem hk]⟩)
    · exact .inr (.inl ⟨k, rfl, by omega, by simp [hasV, List.getElem?_eq_none (show recs.length ≤ k by omega)]⟩)

/-- string(b) of bytes wherever they lie -/
theorem run_string_b {w : World} {v : Value} {l : List UInt8} (h : BytesAt w v l) : (convert 29 9 v).run Try.prog w = .ok (.string (baOf l)) w := by
  rcases h with ⟨rfl, rfl⟩ | ⟨A, cap, rfl, hc⟩
  · exact run_convert_bytes_nil w 29 5 Try.underlying29 Try.underlying5 0 0 9 Try.underlying9
  · rw [run_convert_bytes_string w 29 9 5 _ _ _ Try.underlying29 Try.underlying5 Try.underlying9]
    have hl := run_loadCells_list (P := Try.prog) w A ((l.map fun b => (b.toNat : Int)).map (Value.int .u8)) (fun j v hj => by
      simp only [List.getElem?_map, Option.map_eq_some_iff] at hj
      obtain ⟨z, ⟨b, hb, rfl⟩, rfl⟩ := hj
      exact hc j b hb)
    simp only [List.length_map] at hl
    rw [run_bytesToString w A l.length cap (l.map fun b => (b.toNat : Int)) hl, foldl_push_bytes]
    have he : ((fun n : Int => UInt8.ofNat n.toNat) ∘ fun b : UInt8 => (b.toNat : Int)) = id := by
      funext b
      simp
    simp [baOf, he]

set_option maxRecDepth 100000 in
set_option maxHeartbeats 2000000 in
theorem step_one [fb : Forbid] {B : Nat} (bp size : Nat) (sv xv dv : Value) (recs : List (List UInt8)) (slot : Int) (data : List UInt8) (w : World) (hB : B ≤ w.heap.size) (hp : PageAt w B bp (size : Int) sv recs) (hx : StrsAt w B xv recs) (hd : StaysAt B bp w dv data) (hf : Fits size recs) (hs : size ≤ 400) (hdl : data.length ≤ 400) :
    Calls Try.prog 15 #[.pointer (some ⟨bp, 0, none⟩), xv, .int .i64 (size : Int), .agg #[.int .i64 1, .int .i64 slot, dv]] w fun e w' => ∃ xv', e = .returned (.tuple #[xv', .bool true]) ∧ (∃ sv', PageAt w' B bp (size : Int) sv' (stepV size recs 1 slot data)) ∧ StrsAt w' B xv' (stepV size recs 1 slot data) ∧ Touch B bp w w' := by
  have hlen := hf.len
  have hfit := hf.fit
  obtain ⟨A, c, hv⟩ := hx.form
  subst hv
  obtain ⟨A1, c1, hv⟩ := hd.form
  subst hv
  have HP := hid hp
  have HX := hid hx
  have HD := hid hd
  have HF := hid hf
  have hbs := baOf_size
  have hbt := baOf_toList
  clear hp hx hd hf
  go_enter Try.func15, Try.ntmps15
  go_upto_region 1 with fail
  have hb0 : Below w.heap.size w (w.alloc (.cells #[.int .i64 1, .int .i64 slot, .slice A1 data.length c1] 37)) := balloc (Below.refl _ _) _
  have ho0 : (w.alloc (.cells #[.int .i64 1, .int .i64 slot, .slice A1 data.length c1] 37)).heap[w.heap.size]? = some (.cells #[.int .i64 1, .int .i64 slot, .slice A1 data.length c1] 37) := heap_alloc_new w _
  have HB0 := hid hb0
  have HO0 := hid ho0
  clear hb0 ho0
  generalize w.alloc (.cells #[.int .i64 1, .int .i64 slot, .slice A1 data.length c1] 37) = w0 at HB0 HO0 ⊢
  have hk0 : w0.cell? ⟨w.heap.size, 0, none⟩ = some (.int .i64 1) := by simp [World.cell?, HO0.out]
  have hk1 : w0.cell? ⟨w.heap.size, 1, none⟩ = some (.int .i64 slot) := by simp [World.cell?, HO0.out]
  have hk2 : w0.cell? ⟨w.heap.size, 2, none⟩ = some (.slice A1 data.length c1) := by simp [World.cell?, HO0.out]
  go_cut [10] (fun s10 wx => s10 = .bool (hasV recs slot) ∧ wx = w0)
  case first =>
    have hh := hasV_cases recs slot
    rcases hh with ⟨h0, hv⟩ | ⟨k, rfl, hkl, hv⟩ | ⟨k, rfl, hkl, hv⟩
    · have hf0 : decide (slot ≥ 0) = false := decide_eq_false (by omega)
      have HV := hid hv
      clear hv
      go_wp2_with fail
      go_meet
      exact ⟨by rw [HV.out], rfl⟩
    · have hf0 : decide ((k : Int) < (recs.length : Int)) = false := decide_eq_false (by omega)
      have HV := hid hv
      clear hv
      go_wp2_with fail
      go_meet
      exact ⟨by rw [HV.out], rfl⟩
    · obtain ⟨g, c', hv2⟩ := HX.out.row (by omega)
      injection hv2 with hA _ hc
      subst hA hc
      have hcell := (HX.out.below HB0.out).cell k hkl
      have HV := hid hv
      clear hv
      generalize recs[k] = r at hcell HV
      cases r with
      | nil =>
        go_wp2_with fail
        go_meet
        exact ⟨by rw [HV.out]; rfl, rfl⟩
      | cons b t =>
        go_wp2_with fail
        go_meet
        exact ⟨by rw [HV.out]; rfl, rfl⟩
  case rest =>
    obtain ⟨rfl, hwc⟩ := hcut
    subst hwc
    have hsz0 := HB0.out.size
    have hlt0 : w.heap.size < wc.heap.size := heap_lt HO0.out
    go_wp2_with (first
      | (at_builtin; go_loud (refine wpList_append_strs rfl (.tmp 35) (.tmp 36) rfl wc.heap.size _ rfl ?co _ B recs rfl (HX.out.below (HB0.out.trans ?cb)) (by omega) ?cz ?_)))
    case co => exact ⟨rfl, .inr ⟨wc.heap.size, 0, #[], rfl, Nat.le_refl _, heap_alloc_new wc _, Nat.le_refl _, by unfold maxLen; omega, rfl, rfl⟩⟩
    case cb => exact (Below.refl _ _).alloc hsz0 _
    case cz => simp
    intro lv w2 hl hg
    have HL := hid hl
    have HB2 : Hid (Below wc.heap.size wc w2) := hid (((Below.refl _ _).alloc (Nat.le_refl _) _).grown hg (by simp) (fun k hk => by simp [Value.ownBlock] at hk; omega))
    clear hl hg
    have hm0 := (HB2.out.cell (p := ⟨w.heap.size, 0, none⟩) hlt0).trans hk0
    have hm1 := (HB2.out.cell (p := ⟨w.heap.size, 1, none⟩) hlt0).trans hk1
    have hm2 := (HB2.out.cell (p := ⟨w.heap.size, 2, none⟩) hlt0).trans hk2
    have HBW : Hid (Below w.heap.size w w2) := hid (bthrough HB0.out HB2.out hsz0)
    have HT2 : Hid (Touch B bp w w2) := hid (Touch.of_below HBW.out hB)
    have HP2 := hid (HP.out.kept HBW.out)
    have HX2 := hid (HX.out.below HBW.out)
    have HD2 := hid (HD.out.later HT2.out)
    have hB2 : B ≤ w2.heap.size := Nat.le_trans hB HBW.out.size
    obtain ⟨Al, cl, hlv⟩ := HL.out.form
    subst hlv
    clear hk0 hk1 hk2 hsz0
    by_cases hd0 : data = []
    · subst hd0
      have HSV := hid (show stepV size recs 1 slot [] = recs by simp [stepV])
      have hput := put_range bp _ w2 (HD2.out w2 (Touch.refl _ _ _))
      have href := refPut_any _ recs (size : Int) 0 w2 HX2.out (by omega) (by omega) (by omega)
      go_wp2_with fail
      refine hput.mono ?_
      rintro e w3 ⟨rfl, rfl⟩
      clear hput
      go_wp2_with fail
      refine href.mono ?_
      rintro e w3 ⟨rfl, rfl⟩
      clear href
      go_wp2
      go_ret2
      exact ⟨_, rfl, ⟨_, by rw [HSV.out]; exact HP2.out⟩, by rw [HSV.out]; exact HX2.out, HT2.out⟩
    · have hd1 : 0 < data.length := List.length_pos_iff.2 hd0
      have hd2 : ((data.length : Int) == 0) = false := by simp; omega
      have hput := put_any bp (size : Int) sv recs _ data w2 hB2 HP2.out (by omega) (by omega) HD2.out (by omega) hd1
      go_wp2_with fail
      refine hput.mono ?_
      rintro e w3 ⟨i, cc, sv3, recs3, rfl, hp3, ht3, hx3⟩
      clear hput
      have HP3 := hid hp3
      have HT3 := hid ht3
      have HX3 := hid (HX2.out.touch ht3 HP2.out.1)
      have HL3 := hid (HL.out.touch ht3 HP2.out.1)
      have hn0 := ht3.block w.heap.size _ _ _ ((HB2.out.block _ hlt0).trans HO0.out) (by decide) (fun hbp => by have := heap_lt HP.out.1; omega)
      have hO3 : w3.heap[w.heap.size]? = some (.cells #[.int .i64 1, .int .i64 slot, .slice A1 data.length c1] 37) := hn0.trans ((HB2.out.block _ hlt0).trans HO0.out)
      have HO3 := hid hO3
      have hr0 : w3.cell? ⟨w.heap.size, 0, none⟩ = some (.int .i64 1) := by simp [World.cell?, HO3.out]
      have hr1 : w3.cell? ⟨w.heap.size, 1, none⟩ = some (.int .i64 slot) := by simp [World.cell?, HO3.out]
      have hr2 : w3.cell? ⟨w.heap.size, 2, none⟩ = some (.slice A1 data.length c1) := by simp [World.cell?, HO3.out]
      have href := refPut_any _ recs (size : Int) (data.length : Int) w3 HX3.out (by omega) (by omega) (by omega)
      clear hp3 ht3 hn0 hO3
      rcases place_full HF.out data.length hd1 with ⟨hfull, hpl⟩ | ⟨hfull, hpl, h62⟩
      · rw [hpl] at href
        obtain ⟨rfl, rfl, rfl⟩ : i = 0 ∧ cc = 21 ∧ recs3 = recs := by
          rcases hx3 with ⟨_, h1, h2, h3⟩ | ⟨h, _⟩
          · exact ⟨h1, h2, h3⟩
          · rw [hfull] at h; cases h
        have HSV := hid (show stepV size recs3 1 slot data = recs3 by simp [stepV, hd0, hfull])
        clear hx3 hfull hpl
        go_wp2_with fail
        refine href.mono ?_
        rintro e w4 ⟨rfl, rfl⟩
        clear href
        go_wp2
        go_ret2
        exact ⟨_, rfl, ⟨_, by rw [HSV.out]; exact HP3.out⟩, by rw [HSV.out]; exact HX3.out, HT2.out.trans HT3.out⟩
      · rw [hpl] at href
        obtain ⟨rfl, rfl, rfl⟩ : i = (emptyAt recs : Int) ∧ cc = 0 ∧ recs3 = putV recs data := by
          rcases hx3 with ⟨h, _⟩ | ⟨_, h1, h2, h3⟩
          · rw [hfull] at h; cases h
          · exact ⟨h1, h2, h3⟩
        have HSV := hid (show stepV size recs 1 slot data = putV recs data by simp [stepV, hd0, hfull])
        clear hx3 hfull hpl
        have hel := emptyAt_le recs
        go_wp2_with fail
        refine href.mono ?_
        rintro e w4 ⟨rfl, rfl⟩
        clear href
        have hcv := run_string_b (HD2.out w3 HT3.out)
        by_cases he : emptyAt recs = recs.length
        · have HE := hid he
          obtain ⟨i0, hi, hz0, hz1, hz2⟩ := info_parts infoT
          have hw3 : wc.heap.size ≤ w3.heap.size := Nat.le_trans HB2.out.size HT3.out.below.size
          rw [he]
          go_wp2_with (first
            | (at_builtin; go_loud (refine wpList_append_own _ rfl (.tmp 82) (.tmp 83) 35 rfl wc.heap.size 9 i0 (.string ⟨#[]⟩) 1 16 Try.underlying35 hi hz0 hz1 hz2 rfl (by decide) _ recs.length (recs.map fun l => Value.string (baOf l)) rfl (World.ownsRow.alloc HL3.out _) ⟨w3.heap.size, 0, none⟩ 1 1 [.string ⟨#[]⟩] rfl rfl ?c1 (by simp [Value.oneCell']) (by unfold maxLen; omega) (by omega) (by simp; omega) ?_)))
          case c1 =>
            intro j u hu
            rcases j with _ | j
            · simp at hu
              subst hu
              show World.cell? _ ⟨w3.heap.size, 0, none⟩ = _
              simp only [World.cell?, heap_alloc_new]
              rfl
            · simp at hu
          intro v' w4 hown4 hgrow4 _
          have HL3a := hid (HL3.out.below (balloc (Below.refl w3.heap.size w3) (.cells #[.string ⟨#[]⟩] 9)))
          have HL4 : Hid (StrsAt w4 wc.heap.size v' (recs ++ [[]])) := hid (by unfold StrsAt; rw [List.length_append, List.map_append]; exact hown4)
          have HP4 := hid ((HP3.out.kept (balloc (Below.refl w3.heap.size w3) (.cells #[.string ⟨#[]⟩] 9))).grown_str HL3a.out hgrow4)
          have HB4 : Hid (Below wc.heap.size w3 w4) := hid (((Below.refl _ _).alloc hw3 _).grown hgrow4 (by simp; omega) (fun k hk => (HL3.out.lt k hk).1))
          obtain ⟨g, c', hv2⟩ := HL4.out.row (by simp)
          subst hv2
          have hl1 : (recs ++ [([] : List UInt8)]).length = recs.length + 1 := by simp
          obtain ⟨u, hu⟩ : ∃ u, w4.cell? ⟨g, recs.length, none⟩ = some u := ⟨_, HL4.out.cell recs.length (by simp)⟩
          have hfree := HL4.out.free recs.length
          have hq2 : w4.cell? ⟨w.heap.size, 2, none⟩ = some (.slice A1 data.length c1) := (HB4.out.cell (p := ⟨w.heap.size, 2, none⟩) hlt0).trans hr2
          have hcv4 := run_string_b (HD.out w4 ((HT2.out.trans HT3.out).above HB4.out (by omega) (by omega)))
          clear hl1
          clear hown4 hgrow4
          go_wp2
          go_ret2
          refine ⟨_, rfl, ⟨_, by rw [HSV.out]; exact HP4.out.set_str HL4.out _ _⟩, ?_, (HT2.out.trans HT3.out).above (HB4.out.trans (HL4.out.set_below _ _)) (by omega) (by omega)⟩
          rw [HSV.out, putV, if_pos HE.out]
          have hx := (HL4.out.put recs.length data).base (show B ≤ wc.heap.size by omega)
          simpa using hx
        · have he1 : ((emptyAt recs : Int) == (recs.length : Int)) = false := by simp; omega
          obtain ⟨g, c', hv2⟩ := HL3.out.row (by omega)
          injection hv2 with hA _ hc
          subst hA hc
          have hcell := HL3.out.cell (emptyAt recs) (by omega)
          have hfree := HL3.out.free (emptyAt recs)
          go_wp2
          go_ret2
          refine ⟨_, rfl, ⟨_, by rw [HSV.out]; exact HP3.out.set_str HL3.out _ _⟩, ?_, (HT2.out.trans HT3.out).above (HL3.out.set_below _ _) (by omega) (by omega)⟩
          rw [HSV.out, putV, if_neg he]
          exact (HL3.out.put _ data).base (by omega)
end Go.Proofs.Ytgkohbjbfjnllaa
