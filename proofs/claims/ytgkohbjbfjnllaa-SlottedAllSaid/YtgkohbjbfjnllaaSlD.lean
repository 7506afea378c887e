/-
  Package slotted: bytes.Clone, for every slice of bytes; what a change of a page leaves as it was.
-/
import Derived.Test.YtgkohbjbfjnllaaSlC
import Derived.WalkLawsBesides
import Derived.Laws.AppendOwn
namespace Go.Proofs.Ytgkohbjbfjnllaa
open Go.RowKit

theorem infoB : (Try.prog.info? 5).map (fun i => (i.zero, i.size, i.bytes)) = some (some (.int .u8 0), 1, 1) := by kernel_rfl

/-- the block of a slice lies from B on -/
def FromB (B : Nat) (v : Value) : Prop := ∀ k, v.ownBlock = some k → B ≤ k

theorem RecAt.of_own {w : World} {B : Nat} {v : Value} {l : List UInt8} (h : w.ownsRow B 5 1 v l.length (l.map fun b => Value.int .u8 (b.toNat : Int))) : RecAt w v l ∧ FromB B v := by
  obtain ⟨_, ⟨rfl, h0⟩ | ⟨g, cap, cur, rfl, hg, hh, hn, hm, hs, ht⟩⟩ := h
  · exact ⟨.inl ⟨rfl, List.length_eq_zero_iff.1 h0⟩, fun k hk => by simp [Value.ownBlock] at hk⟩
  · refine ⟨.inr ⟨g, 0, cap, cur, (0, 0), rfl, hn, hh, fun j b hj => ?_⟩, fun k hk => by simp [Value.ownBlock] at hk; omega⟩
    have hlt : j < l.length := (List.getElem?_eq_some_iff.1 hj).1
    have : (cur.toList.take (l.length * 1))[j]? = some (.int .u8 (b.toNat : Int)) := by rw [ht, List.getElem?_map, hj]; rfl
    rw [List.getElem?_take_of_lt (by omega)] at this
    simpa using this

/-- a value that reads as these bytes, wherever they lie -/
def BytesAt (w : World) (v : Value) (l : List UInt8) : Prop :=
  (v = .slice none 0 0 ∧ l = []) ∨ ∃ A cap, v = .slice (some A) l.length cap ∧ ∀ j b, l[j]? = some b → w.cell? (A.add j) = some (.int .u8 (b.toNat : Int))
theorem BytesAt.form {w : World} {v : Value} {l : List UInt8} (h : BytesAt w v l) : ∃ A cap, v = .slice A l.length cap := by
  rcases h with ⟨rfl, rfl⟩ | ⟨A, cap, rfl, _⟩
  · exact ⟨_, _, rfl⟩
  · exact ⟨_, _, rfl⟩
theorem RecAt.bytes {w : World} {v : Value} {l : List UInt8} (h : RecAt w v l) : BytesAt w v l := by
  rcases h with h | ⟨g, off, cap, cur, fr, rfl, hcap, hg, hcur⟩
  · exact .inl h
  · refine .inr ⟨⟨g, off, none⟩, cap, rfl, fun j b hj => ?_⟩
    have := hcur j b hj
    by_cases h0 : j = 0
    · subst h0; simp at this; simp [World.cell?, Addr.add, hg, this]
    · simp [World.cell?, Addr.add, hg, this, h0]

set_option maxHeartbeats 400000 in
theorem clone_own (v : Value) (l : List UInt8) (w : World) (h : BytesAt w v l) (hl : l.length ≤ 1048576) :
    Calls Try.prog 26 #[v] w fun e w' => ∃ v', e = .returned v' ∧ w'.ownsRow w.heap.size 5 1 v' l.length (l.map fun b => Value.int .u8 (b.toNat : Int)) ∧ Below w.heap.size w w' := by
  rcases h with ⟨rfl, rfl⟩ | ⟨A, cap, rfl, hcells⟩
  · have he : ∀ w : World, (binOp .eql 29 (.slice none 0 0) (.slice none 0 0)).run Try.prog w = .ok (.bool true) w := fun _ => rfl
    go_enter Try.func26, Try.ntmps26
    go_wp2
    go_ret
    exact ⟨_, rfl, ⟨rfl, .inl ⟨rfl, rfl⟩⟩, Below.refl _ _⟩
  · obtain ⟨i0, hi, hz0, hz1, hz2⟩ := info_parts infoB
    have hc : ∀ j, j < l.length → w.cell? (A.add j) = some (.int .u8 ((l.map fun b => (b.toNat : Int)).getD j 0)) := by
      intro j hj
      rw [hcells j l[j] (List.getElem?_eq_getElem hj)]
      simp [hj]
    generalize hbs : (l.map fun b => (b.toNat : Int)) = bs at hc
    have hn : bs.length = l.length := by rw [← hbs]; simp
    have hmap : bs.map (Value.int .u8) = l.map fun b => Value.int .u8 (b.toNat : Int) := by rw [← hbs]; simp
    have HM := hid hmap
    clear hmap hbs hcells
    generalize hN : l.length = n at *
    have HN := hid hN
    clear hN
    have hown0 : (w.alloc (.cells #[] 5)).ownsRow w.heap.size 5 1 (.slice (some ⟨w.heap.size, 0, none⟩) 0 0) 0 [] :=
      ⟨rfl, .inr ⟨w.heap.size, 0, #[], rfl, Nat.le_refl _, by show (w.heap.push _)[w.heap.size]? = _; simp, Nat.le_refl _, by unfold maxLen; omega, rfl, rfl⟩⟩
    have he : ∀ w : World, (binOp .eql 29 (.slice (some A) n cap) (.slice none 0 0)).run Try.prog w = .ok (.bool false) w := fun _ => rfl
    go_enter Try.func26, Try.ntmps26
    go_wp2_with (first
      | (at_builtin; refine wpList_append_own _ rfl (.tmp 5) (.tmp 6) 29 rfl w.heap.size 5 i0 (.int .u8 0) 1 1 Try.underlying29 hi hz0 hz1 hz2 rfl (by decide) _ _ _ rfl hown0 A n cap (bs.map (Value.int .u8)) rfl (by simp [hn]) ?c1 (ints_oneCell .u8 bs) (by unfold maxLen; omega) (by omega) (by simp) ?_))
    case c1 =>
      intro j u hu
      have hj : j < n := by
        have := (List.getElem?_eq_some_iff.1 hu).1
        simpa [hn] using this
      have hb : (A.add j).block < w.heap.size := World.block_lt_of_cell? _ _ (hc j hj)
      rw [((Below.refl w.heap.size w).alloc (Nat.le_refl _) _).cell hb, hc j hj]
      have e : (bs.map (Value.int .u8))[j]? = some (.int .u8 (bs.getD j 0)) := by simp [List.getD, show j < bs.length by omega]
      rw [e] at hu
      exact hu
    intro v' w1 hown' hgrow hnil
    go_wp2
    go_ret
    have hfin : w1.ownsRow w.heap.size 5 1 v' l.length (l.map fun b => Value.int .u8 (b.toNat : Int)) := by
      rw [← HM.out, HN.out]
      simpa using hown'
    have hbel : Below w.heap.size w w1 := ((Below.refl _ _).alloc (Nat.le_refl _) _).grown hgrow (by simp) (fun k hk => by simp [Value.ownBlock] at hk; omega)
    exact ⟨v', rfl, by rw [← HN.out]; exact hfin, hbel⟩

theorem clone_any (v : Value) (l : List UInt8) (w : World) (h : RecAt w v l) (hl : l.length ≤ 1048576) :
    Calls Try.prog 26 #[v] w fun e w' => ∃ v', e = .returned v' ∧ RecAt w' v' l ∧ FromB w.heap.size v' ∧ Below w.heap.size w w' :=
  (clone_own v l w h.bytes hl).mono fun _ _ ⟨v', he, ho, hb⟩ => ⟨v', he, (RecAt.of_own ho).1, (RecAt.of_own ho).2, hb⟩

/-- what a change of the page at bp (its base B) leaves as it was: what lies below B; each other block that is no row of slots -/
structure Touch (B bp : Nat) (w w' : World) : Prop where
  below : Below B w w'
  block : ∀ (k : Nat) (cur : Array Value) (e : TypeId) (fr : Nat × Nat), w.heap[k]? = some (Obj.cells cur e fr) → e ≠ 29 → k ≠ bp → w'.heap[k]? = w.heap[k]?

theorem Below.drewl {B : Nat} {w w' : World} (h : Below B w.drew w') : Below B w w' := (Below.drew (Below.refl B w)).trans h
theorem heap_lt {w : World} {k : Nat} {o : Obj} (h : w.heap[k]? = some o) : k < w.heap.size := (Array.getElem?_eq_some_iff.1 h).1
theorem Touch.refl (B bp : Nat) (w : World) : Touch B bp w w := ⟨Below.refl _ _, fun _ _ _ _ _ _ _ => rfl⟩
theorem Touch.trans {B bp : Nat} {a b c : World} (h : Touch B bp a b) (k : Touch B bp b c) : Touch B bp a c :=
  ⟨h.below.trans k.below, fun i cur e fr hi he hne => by
    have h1 := h.block i cur e fr hi he hne
    rw [k.block i cur e fr (h1.trans hi) he hne, h1]⟩
theorem Touch.of_below {B bp : Nat} {w w' : World} (h : Below w.heap.size w w') (hB : B ≤ w.heap.size) : Touch B bp w w' :=
  ⟨h.mono hB, fun _ _ _ _ hi _ _ => h.block _ (heap_lt hi)⟩
theorem Touch.set_bp {B bp : Nat} (w : World) (o : Nat) (u : Value) (hB : B ≤ bp) : Touch B bp w (w.setCell ⟨bp, o, none⟩ u) :=
  ⟨(Below.refl B w).setCell hB u, fun _ _ _ _ _ _ hne => Below.heap_setCell _ _ _ _ hne⟩
theorem Touch.set_row {B bp g : Nat} {w : World} {cur : Array Value} {fr : Nat × Nat} (o : Nat) (u : Value) (hB : B ≤ g) (hg : w.heap[g]? = some (.cells cur 29 fr)) : Touch B bp w (w.setCell ⟨g, o, none⟩ u) :=
  ⟨(Below.refl B w).setCell hB u, fun k cur' e fr' hk he _ => Below.heap_setCell _ _ _ _ (fun hkg => by
    subst hkg
    rw [hg] at hk
    injection hk with hk
    injection hk with _ hk _
    exact he hk.symm)⟩
theorem Touch.grown {B bp : Nat} {w w' : World} {v : Value} {n : Nat} {xs : List Value} (h : w.ownsRow B 29 1 v n xs) (hg : w.grownBy w' v.ownBlock) (hB : B ≤ w.heap.size) : Touch B bp w w' :=
  ⟨(Below.refl B w).grown hg hB (fun k hk => (h.lt k hk).1), fun k cur e fr hk he _ => hg.block k (heap_lt hk) (fun hv => by
    obtain ⟨_, ⟨rfl, _⟩ | ⟨g, cap, cur', rfl, _, hh, _⟩⟩ := h
    · simp [Value.ownBlock] at hv
    · simp [Value.ownBlock] at hv
      subst hv
      rw [hh] at hk
      injection hk with hk
      injection hk with _ hk _
      exact he hk.symm)⟩

theorem RecAt.kept {w w' : World} {v : Value} {l : List UInt8} (h : RecAt w v l) (hk : ∀ (k : Nat) (cur : Array Value) (fr : Nat × Nat), w.heap[k]? = some (Obj.cells cur 5 fr) → w'.heap[k]? = w.heap[k]?) : RecAt w' v l := by
  rcases h with h | ⟨g, off, cap, cur, fr, rfl, hn, hg, hc⟩
  · exact .inl h
  · exact .inr ⟨g, off, cap, cur, fr, rfl, hn, (hk g cur fr hg).trans hg, hc⟩
/-- what reads as these bytes, and does so behind whatever a change of the page does -/
def StaysAt (B bp : Nat) (w : World) (v : Value) (l : List UInt8) : Prop := ∀ w', Touch B bp w w' → BytesAt w' v l
theorem StaysAt.form {B bp : Nat} {w : World} {v : Value} {l : List UInt8} (h : StaysAt B bp w v l) : ∃ A cap, v = .slice A l.length cap := (h w (Touch.refl _ _ _)).form
theorem StaysAt.later {B bp : Nat} {w w' : World} {v : Value} {l : List UInt8} (h : StaysAt B bp w v l) (t : Touch B bp w w') : StaysAt B bp w' v l := fun w'' t' => h w'' (t.trans t')
theorem StaysAt.old {B bp : Nat} {w : World} {v : Value} {l : List UInt8} (h : v = .slice none 0 0 ∧ l = [] ∨ ∃ A cap, v = .slice (some A) l.length cap ∧ A.block < B ∧ ∀ j b, l[j]? = some b → w.cell? (A.add j) = some (.int .u8 (b.toNat : Int))) : StaysAt B bp w v l := fun w' t => by
  rcases h with h | ⟨A, cap, rfl, hA, hc⟩
  · exact .inl h
  · exact .inr ⟨A, cap, rfl, fun j b hj => (t.below.cell (p := A.add j) (by unfold Addr.add; split <;> exact hA)).trans (hc j b hj)⟩
theorem RecAt.touch {B bp : Nat} {w w' : World} {v : Value} {l : List UInt8} {c : Array Value} {fr : Nat × Nat} (h : RecAt w v l) (t : Touch B bp w w') (hb : w.heap[bp]? = some (.cells c 53 fr)) : RecAt w' v l :=
  h.kept fun k cur fr' hk => t.block k cur _ fr' hk (by decide) (fun hkb => by
    subst hkb
    rw [hb] at hk
    injection hk with hk
    injection hk with _ hk _
    exact absurd hk (by decide))

theorem RecAt.stays {B bp : Nat} {w : World} {v : Value} {l : List UInt8} {c : Array Value} {fr : Nat × Nat} (h : RecAt w v l) (hb : w.heap[bp]? = some (.cells c 53 fr)) : StaysAt B bp w v l := fun _ t => (h.touch t hb).bytes
theorem clone_b (v : Value) (l : List UInt8) (w : World) (h : BytesAt w v l) (hl : l.length ≤ 1048576) :
    Calls Try.prog 26 #[v] w fun e w' => ∃ v', e = .returned v' ∧ RecAt w' v' l ∧ FromB w.heap.size v' ∧ Below w.heap.size w w' :=
  (clone_own v l w h hl).mono fun _ _ ⟨v', he, ho, hb⟩ => ⟨v', he, (RecAt.of_own ho).1, (RecAt.of_own ho).2, hb⟩

theorem heap_set_self {w : World} {g o : Nat} {cur : Array Value} {e : TypeId} {fr : Nat × Nat} (u : Value) (hg : w.heap[g]? = some (.cells cur e fr)) : (w.setCell ⟨g, o, none⟩ u).heap[g]? = some (.cells (cur.setIfInBounds o u) e fr) := by
  simp [World.setCell, Array.getElem?_modify, hg]

/-- the page behind work that leaves its blocks: the page as it was -/
theorem far_fresh [fb : Forbid] {n : Nat} {v : Value} (h : FromB n v) (hn : ∀ b, fb.no b → b < n) : Far v := fun k hk hno => by
  have h1 := h k hk
  have h2 := hn k hno
  omega
theorem PageAt.kept [fb : Forbid] {w w' : World} {B bp : Nat} {size : Int} {sv : Value} {recs : List (List UInt8)} (h : PageAt w B bp size sv recs) (hb : Below w.heap.size w w') : PageAt w' B bp size sv recs := by
  obtain ⟨h1, h2, vs, ⟨hl, hv⟩, hr⟩ := h
  refine ⟨(hb.block bp (heap_lt h1)).trans h1, ⟨h2.1, fun b hb2 => Nat.lt_of_lt_of_le (h2.2 b hb2) hb.size⟩, vs, ⟨hl, ?_⟩, fun i l hi => ?_⟩
  · rcases hv with hv | ⟨g, cap, cur, hv, hg, hh, r⟩
    · exact .inl hv
    · exact .inr ⟨g, cap, cur, hv, hg, (hb.block g (heap_lt hh)).trans hh, r⟩
  · obtain ⟨v, hvi, hrec⟩ := hr i l hi
    exact ⟨v, hvi, hrec.1.kept fun k _ _ hk => hb.block k (heap_lt hk), hrec.2⟩

/-- a slot is written: the page has the record there -/
theorem PageAt.put [fb : Forbid] {w : World} {B bp : Nat} {size : Int} {g cap : Nat} {recs : List (List UInt8)} {vc : Value} {lc : List UInt8} (h : PageAt w B bp size (.slice (some ⟨g, 0, none⟩) recs.length cap) recs) (hc : RecAt w vc lc) (hfc : Far vc) (i : Nat) :
    PageAt (w.setCell ⟨g, i, none⟩ vc) B bp size (.slice (some ⟨g, 0, none⟩) recs.length cap) (recs.set i lc) ∧ Touch B bp w (w.setCell ⟨g, i, none⟩ vc) := by
  obtain ⟨h1, h2, vs, ⟨hl, hv⟩, hr⟩ := h
  rcases hv with ⟨hv, _⟩ | ⟨g', cap', cur, hv, hg, hh, hn, hm, hs, ht⟩
  · cases hv
  · injection hv with hv _ hv2
    injection hv with hv
    injection hv with hv _ _
    subst hv hv2
    have t : Touch B bp w (w.setCell ⟨g, i, none⟩ vc) := Touch.set_row i vc hg hh
    refine ⟨⟨?_, ⟨h2.1, fun b hb2 => by simpa using h2.2 b hb2⟩, vs.set i vc, ⟨by simp [hl], .inr ⟨g, cap, cur.setIfInBounds i vc, by simp, hg, heap_set_self vc hh, by simpa using hn, hm, by simp [hs], ?_⟩⟩, fun j l hj => ?_⟩, t⟩
    · rw [Below.heap_setCell _ _ _ _ (fun hbg => ?_)]
      · exact h1
      · simp at hbg
        subst hbg
        rw [hh] at h1
        injection h1 with h1
        injection h1 with _ h1 _
        exact absurd h1 (by decide)
    · rw [← ht, List.length_set, Array.toList_setIfInBounds, List.take_set]
    · by_cases hij : i = j
      · subst hij
        rw [List.getElem?_set_self'] at hj ⊢
        cases hri : recs[i]? with
        | none => rw [hri] at hj; cases hj
        | some l0 =>
          rw [hri] at hj
          obtain ⟨v0, hv0, _⟩ := hr i l0 hri
          rw [hv0]
          simp at hj
          subst hj
          exact ⟨vc, rfl, hc.touch t h1, hfc⟩
      · rw [List.getElem?_set_ne hij] at hj ⊢
        obtain ⟨v0, hv0, hr0⟩ := hr j l hj
        exact ⟨v0, hv0, hr0.1.touch t h1, hr0.2⟩
end Go.Proofs.Ytgkohbjbfjnllaa
