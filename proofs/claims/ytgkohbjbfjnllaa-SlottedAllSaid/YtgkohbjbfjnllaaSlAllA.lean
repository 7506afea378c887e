/-
  The statement SlottedAll, the parts of its first loop: a page and bytes that lie apart; append onto own bytes; what stands between the rounds. No condition.
-/
import Derived.Test.YtgkohbjbfjnllaaSlY
import Derived.Test.YtgkohbjbfjnllaaSlS
import Derived.Test.YtgkohbjbfjnllaaSlOpen
import Derived.RangeFuncOwn
namespace Go.Proofs.Ytgkohbjbfjnllaa
open Go.RowKit

/-- a page whose records lie below, and blocks that came later -/
theorem PageAt.forbid {w w' : World} {B bp : Nat} {size : Int} {sv : Value} {recs : List (List UInt8)} (X : Nat → Prop) (h : PageAt w B bp size sv recs) (hb : Below w.heap.size w w') (hX : ∀ b, X b → w.heap.size ≤ b ∧ b < w'.heap.size) : PageAt (fb := ⟨X⟩) w' B bp size sv recs := by
  obtain ⟨h1, h2, vs, h3, h4⟩ := h
  refine ⟨(hb.block bp (heap_lt h1)).trans h1, ⟨h2.1, fun b hb' => (hX b hb').2⟩, vs, own_below h3 hb, fun i l hi => ?_⟩
  obtain ⟨v, hv, hr, _⟩ := h4 i l hi
  refine ⟨v, hv, hr.kept fun k _ _ hk => hb.block k (heap_lt hk), fun k hk hno => ?_⟩
  rcases hr with ⟨rfl, _⟩ | ⟨g, off, cap, cur, fr, rfl, _, hg, _⟩
  · cases hk
  · simp [Value.ownBlock] at hk
    subst hk
    have h5 := (hX g hno).1
    have h6 := heap_lt hg
    omega

/-- append(v, r...) of bytes wherever they lie, onto an empty slice of the call's own -/
theorem wpList_append_old {w : World} {ops : Array Oper} {rest : List Oper} {o : Oper} {a : Act} {Q : Exit → Act → World → Prop} (hgd : o.guard = none) (s x : Operand)
    (ho : o.op = .call { callee := .builtin .append, args := #[s, x], argTypes := #[29, 29] }) (base : Nat) (v : Value) (hs : a.eval s = v) (hown : w.ownsRow base 5 1 v 0 []) (hnn : v ≠ .slice none 0 0)
    (xv : Value) (l : List UInt8) (hx : a.eval x = xv) (hrec : BytesAt w xv l) (hl : l.length ≤ 1048576) (hbase : base ≤ w.heap.size)
    (h : ∀ v' w', w'.ownsRow base 5 1 v' l.length (cellsB l) → v' ≠ .slice none 0 0 → w.grownBy w' v.ownBlock → wpList Try.prog ops Q rest (a.put o.dst v') w') : wpList Try.prog ops Q (o :: rest) a w := by
  obtain ⟨i0, hi, hz0, hz1, hz2⟩ := info_parts infoB
  rcases hrec with ⟨rfl, rfl⟩ | ⟨A, cap, rfl, hc⟩
  · exact wpList_append_own_none hgd s x 29 ho base 5 i0 1 Try.underlying29 hi v 0 [] hs hown hx (h v w (by simpa [cellsB] using hown) hnn ⟨rfl, rfl, rfl, Nat.le_refl _, fun _ _ _ => rfl⟩)
  · refine wpList_append_own w hgd s x 29 ho base 5 i0 (.int .u8 0) 1 1 Try.underlying29 hi hz0 hz1 hz2 rfl (by decide) v 0 [] hs hown A l.length cap (cellsB l) hx (by rw [cellsB_length]; omega) ?_ (cellsB_one l) (by unfold maxLen; omega) (by omega) hbase (fun v' w' h1 h2 h3 => h v' w' (by simpa using h1) (fun e => hnn (h3.1 e).1) h2)
    intro j u hu
    obtain ⟨b, hb, rfl⟩ := cellsB_get l j u hu
    exact hc j b hb

/-- what stands between the rounds -/
structure AllW (w : World) (bp xb : Nat) (stop : Int) (recs : List (List UInt8)) (W : World) : Prop where
  below : Below w.heap.size w W
  hs : W.heap[w.heap.size]? = some (.cells #[.int .i64 stop] 3)
  hr : W.heap[w.heap.size + 1]? = some (.cells #[.bool false] 4)
  fit : Fits 200 recs
  page : ∃ sv, PageAt W w.heap.size bp 200 sv recs
  x : ∃ xv, W.heap[xb]? = some (.cells #[xv] 35) ∧ StrsAt W w.heap.size xv recs

theorem AllW.later {w W W' : World} {bp xb : Nat} {stop : Int} {recs : List (List UInt8)} (h : AllW w bp xb stop recs W) (hb : Below W.heap.size W W') : AllW w bp xb stop recs W' := by
  obtain ⟨sv, hp⟩ := h.page
  obtain ⟨xv, hx1, hx2⟩ := h.x
  exact ⟨h.below.trans (hb.mono h.below.size), (hb.block _ (heap_lt h.hs)).trans h.hs, (hb.block _ (heap_lt h.hr)).trans h.hr, h.fit, ⟨sv, hp.kept hb⟩, xv, (hb.block _ (heap_lt hx1)).trans hx1, hx2.below hb⟩

/-- the bytes of one row: bytes, whichever -/
def ByteRow (W : World) (gd n : Nat) : Prop := ∃ cur, W.heap[gd]? = some (Obj.cells cur 5) ∧ ∀ j, j < n → ∃ z, cur[j]? = some (.int .u8 z)
/-- work on the row gd alone -/
structure OnRow (B gd : Nat) (W W' : World) : Prop where
  below : Below B W W'
  size : W'.heap.size = W.heap.size
  block : ∀ k, k ≠ gd → W'.heap[k]? = W.heap[k]?
theorem OnRow.refl (B gd : Nat) (W : World) : OnRow B gd W W := ⟨Below.refl _ _, rfl, fun _ _ => rfl⟩
theorem OnRow.set {B gd : Nat} {W W' : World} (h : OnRow B gd W W') (hB : B ≤ gd) (o : Nat) (u : Value) : OnRow B gd W (W'.setCell ⟨gd, o, none⟩ u) :=
  ⟨h.below.setCell (p := ⟨gd, o, none⟩) hB u, by simp [h.size], fun k hk => (Below.heap_setCell _ _ _ _ hk).trans (h.block k hk)⟩
theorem OnRow.drewN {B gd : Nat} {W W' : World} (h : OnRow B gd W W') (n : Nat) : OnRow B gd W (W'.drewN n) := ⟨below_drewN h.below n, by simpa using h.size, fun k hk => by simpa using h.block k hk⟩
theorem keeps_drewN {W W' : World} (h : KeepsOthers W W') (n : Nat) : KeepsOthers W (W'.drewN n) := ⟨by simpa using h.size, fun k o hk ho => by simpa using h.same k o hk ho⟩
theorem OnRow.cell {B gd : Nat} {W W' : World} (h : OnRow B gd W W') {b o : Nat} (hb : b ≠ gd) : W'.cell? ⟨b, o, none⟩ = W.cell? ⟨b, o, none⟩ := World.cell?_of_block (h.block b hb)
theorem OnRow.frozen {B gd : Nat} {W W' : World} (h : OnRow B gd W W') {b o : Nat} (hb : b ≠ gd) : W'.frozen? ⟨b, o, none⟩ = W.frozen? ⟨b, o, none⟩ := World.frozen?_of_block (h.block b hb)
theorem ByteRow.block {W W' : World} {gd n : Nat} (h : ByteRow W gd n) (hb : W'.heap[gd]? = W.heap[gd]?) : ByteRow W' gd n := by
  obtain ⟨cur, h1, h2⟩ := h
  exact ⟨cur, hb.trans h1, h2⟩
theorem ByteRow.set {W : World} {gd n : Nat} (h : ByteRow W gd n) (o : Nat) (z : Int) : ByteRow (W.setCell ⟨gd, o, none⟩ (.int .u8 z)) gd n := by
  obtain ⟨cur, h1, h2⟩ := h
  refine ⟨cur.setIfInBounds o (.int .u8 z), heap_set_self _ h1, fun j hj => ?_⟩
  obtain ⟨z0, h3⟩ := h2 j hj
  by_cases ho : o = j
  · subst ho
    have : o < cur.size := (Array.getElem?_eq_some_iff.1 h3).1
    exact ⟨z, by simp [this]⟩
  · exact ⟨z0, by rw [Array.getElem?_setIfInBounds_ne ho]; exact h3⟩
theorem ByteRow.cell {W : World} {gd n : Nat} (h : ByteRow W gd n) (j : Nat) (hj : j < n) : ∃ z, W.cell? ⟨gd, j, none⟩ = some (.int .u8 z) := by
  obtain ⟨cur, h1, h2⟩ := h
  obtain ⟨z, h3⟩ := h2 j hj
  exact ⟨z, by simp [World.cell?, h1, h3]⟩
theorem ByteRow.free {W : World} {gd n : Nat} (h : ByteRow W gd n) (j : Nat) : W.frozen? ⟨gd, j, none⟩ = false := by
  obtain ⟨cur, h1, _⟩ := h
  simp [World.frozen?, h1]

/-- all is kept but one block -/
structure But (B r : Nat) (W W' : World) : Prop where
  below : Below B W W'
  size : W.heap.size ≤ W'.heap.size
  block : ∀ k, k < W.heap.size → k ≠ r → W'.heap[k]? = W.heap[k]?
theorem But.step {B r : Nat} {W W' W'' : World} (h : But B r W W') (hb : Below W'.heap.size W' W'') (hB : B ≤ W.heap.size) : But B r W W'' :=
  ⟨h.below.trans (hb.mono (Nat.le_trans hB h.size)), Nat.le_trans h.size hb.size, fun k hk hne => (hb.block k (Nat.lt_of_lt_of_le hk h.size)).trans (h.block k hk hne)⟩
theorem But.drew {B r : Nat} (W : World) : But B r W W.drew := ⟨(Below.refl _ _).drew, Nat.le_refl _, fun _ _ _ => rfl⟩
theorem But.set {B r : Nat} {W W' : World} (h : But B r W W') (hB : B ≤ r) (o : Nat) (u : Value) : But B r W (W'.setCell ⟨r, o, none⟩ u) :=
  ⟨h.below.setCell (p := ⟨r, o, none⟩) hB u, by simpa using h.size, fun k hk hne => (Below.heap_setCell _ _ _ _ hne).trans (h.block k hk hne)⟩

/-- a row of one's own, of bytes -/
theorem ByteRow.of_own {W : World} {B : Nat} {v : Value} {l : List UInt8} (h : W.ownsRow B 5 1 v l.length (cellsB l)) (hnn : v ≠ .slice none 0 0) : ∃ gd cap, v = .slice (some ⟨gd, 0, none⟩) l.length cap ∧ B ≤ gd ∧ ByteRow W gd l.length ∧ l.length ≤ cap ∧ cap ≤ maxLen := by
  obtain ⟨_, ⟨h1, _⟩ | ⟨gd, cap, cur, h2, hb, hh, hn, hm, hs, ht⟩⟩ := h
  · exact absurd h1 hnn
  · refine ⟨gd, cap, h2, hb, ⟨cur, hh, fun j hj => ⟨(l[j].toNat : Int), ?_⟩⟩, hn, hm⟩
    have h3 : (cur.toList.take (l.length * 1))[j]? = some (Value.int .u8 (l[j].toNat : Int)) := by rw [ht]; simp [cellsB, hj]
    rw [List.getElem?_take_of_lt (by omega)] at h3
    simpa using h3

/-- the slots told till here are the same: nothing lies between -/
theorem idxs_between {recs : List (List UInt8)} {a k : Nat} (h : idxs recs a = idxs recs k) (hk : hasV recs (k : Int) = true) : a ≤ k ∧ ∀ j, a ≤ j → j < k → hasV recs (j : Int) = false := by
  have hl := congrArg List.length h
  constructor
  · rcases Nat.lt_or_ge k a with h1 | h1
    · have h2 := (idxs_prefix recs (show k + 1 ≤ a by omega)).length_le
      rw [idxs_succ, if_pos hk] at h2
      simp at h2
      omega
    · exact h1
  · intro j h1 h2
    cases hj : hasV recs (j : Int) with
    | false => rfl
    | true =>
      have h3 := (idxs_prefix recs (show j + 1 ≤ k by omega)).length_le
      have h4 := (idxs_prefix recs h1).length_le
      rw [idxs_succ, if_pos hj] at h3
      simp at h3
      omega

theorem map_cast_inj (a b : List Nat) (h : a.map (fun (i : Nat) => (i : Int)) = b.map (fun (i : Nat) => (i : Int))) : a = b := by
  have h1 := congrArg (List.map Int.toNat) h
  rw [List.map_map, List.map_map] at h1
  have e : (Int.toNat ∘ fun (i : Nat) => (i : Int)) = id := by funext i; simp
  rwa [e, List.map_id, List.map_id] at h1
/-- the number in a cell -/
def numAt (p : Addr) (W : World) : Nat := match W.cell? p with
  | some (.int _ n) => n.toNat
  | _ => 0
theorem numAt_eq {p : Addr} {W : World} {j : Nat} (h : W.cell? p = some (.int .i64 (j : Int))) : numAt p W = j := by simp [numAt, h]

theorem BytesAt.block {W W' : World} {gb n cb : Nat} {l : List UInt8} (h : BytesAt W (.slice (some ⟨gb, 0, none⟩) n cb) l) (hb : W'.heap[gb]? = W.heap[gb]?) : BytesAt W' (.slice (some ⟨gb, 0, none⟩) n cb) l := by
  rcases h with ⟨h, _⟩ | ⟨A, cap, h, hc⟩
  · cases h
  · injection h with h1 h2 h3
    injection h1 with h1
    subst h1 h2 h3
    exact .inr ⟨_, _, rfl, fun j b hj => (World.cell?_of_block (by rw [block_add]; exact hb)).trans (hc j b hj)⟩

/-- one round: a call with bytes of the round's own, x stored, the bytes turned -/
theorem AllW.round {w W wd w2 w4 : World} {bp xb gd : Nat} {stop : Int} {recs recs2 : List (List UInt8)} {sv2 xv2 : Value} (h : AllW w bp xb stop recs W) (hb : Below W.heap.size W wd) (ht : Touch w.heap.size bp wd w2) (hne : bp ≠ w.heap.size ∧ bp ≠ w.heap.size + 1 ∧ bp ≠ xb) (hxb : w.heap.size ≤ xb)
    (hgd : W.heap.size ≤ gd) (hgr : ∃ cur, w2.heap[gd]? = some (Obj.cells cur 5)) (hp2 : PageAt (fb := ⟨fun b => b = gd⟩) w2 w.heap.size bp 200 sv2 recs2) (hf2 : Fits 200 recs2) (hx2 : StrsAt w2 w.heap.size xv2 recs2) (h4 : OnRow w.heap.size gd (w2.setCell ⟨xb, 0, none⟩ xv2) w4) : AllW w bp xb stop recs2 w4 := by
  obtain ⟨xv, hx1, _⟩ := h.x
  obtain ⟨cur, hgr⟩ := hgr
  have l0 := heap_lt h.hs
  have l1 := heap_lt h.hr
  have lx := heap_lt hx1
  have hs2 : w2.heap[w.heap.size]? = some (.cells #[.int .i64 stop] 3) := by
    have h1 := (hb.block _ l0).trans h.hs
    exact (ht.block _ _ _ _ h1 (by decide) (Ne.symm hne.1)).trans h1
  have hr2 : w2.heap[w.heap.size + 1]? = some (.cells #[.bool false] 4) := by
    have h1 := (hb.block _ l1).trans h.hr
    exact (ht.block _ _ _ _ h1 (by decide) (Ne.symm hne.2.1)).trans h1
  have hx3 : w2.heap[xb]? = some (.cells #[xv] 35) := by
    have h1 := (hb.block _ lx).trans hx1
    exact (ht.block _ _ _ _ h1 (by decide) (Ne.symm hne.2.2)).trans h1
  have e1 : w.heap.size ≠ xb := fun e => by
    rw [← e, hs2] at hx3
    injection hx3 with hx3
    injection hx3 with _ hx3 _
    exact absurd hx3 (by decide)
  have e2 : w.heap.size + 1 ≠ xb := fun e => by
    rw [← e, hr2] at hx3
    injection hx3 with hx3
    injection hx3 with _ hx3 _
    exact absurd hx3 (by decide)
  have o1 : ∀ k, k ≠ gd → k ≠ xb → w4.heap[k]? = w2.heap[k]? := fun k h1 h2 => (h4.block k h1).trans (Below.heap_setCell _ _ _ _ h2)
  have hxg : xb ≠ gd := by omega
  have tyx : ∀ {k : Nat} {c : Array Value} {e : TypeId} {fr : Nat × Nat}, w2.heap[k]? = some (.cells c e fr) → e ≠ 35 → k ≠ xb := fun h1 h2 h3 => by
    subst h3
    rw [hx3] at h1
    injection h1 with h1
    injection h1 with _ h1 _
    exact h2 h1.symm
  have tyg : ∀ {k : Nat} {c : Array Value} {e : TypeId} {fr : Nat × Nat}, w2.heap[k]? = some (.cells c e fr) → e ≠ 5 → k ≠ gd := fun h1 h2 h3 => by
    subst h3
    rw [hgr] at h1
    injection h1 with h1
    injection h1 with _ h1 _
    exact h2 h1.symm
  refine ⟨?_, (o1 _ (by omega) e1).trans hs2, (o1 _ (by omega) e2).trans hr2, hf2, ⟨sv2, ?_⟩, xv2, ?_, ?_⟩
  · exact ((h.below.trans (hb.mono h.below.size)).trans (ht.below.setCell (p := ⟨xb, 0, none⟩) hxb xv2)).trans h4.below
  · obtain ⟨h5, h6, vs, ⟨hl, hv⟩, hr⟩ := hp2
    refine ⟨(o1 bp (tyg h5 (by decide)) (tyx h5 (by decide))).trans h5, ⟨h6.1, fun _ h => False.elim h⟩, vs, ⟨hl, ?_⟩, fun i l hi => ?_⟩
    · rcases hv with hv | ⟨g', cap, cur', hv, hb', hh, r⟩
      · exact .inl hv
      · exact .inr ⟨g', cap, cur', hv, hb', (o1 g' (tyg hh (by decide)) (tyx hh (by decide))).trans hh, r⟩
    · obtain ⟨v, hvi, hrec, hfar⟩ := hr i l hi
      refine ⟨v, hvi, ?_, fun _ _ h => False.elim h⟩
      rcases hrec with hrec | ⟨g, off, cap, cur, fr, rfl, hn, hg, hc⟩
      · exact .inl hrec
      · exact .inr ⟨g, off, cap, cur, fr, rfl, hn, (o1 g (hfar g rfl) (tyx hg (by decide))).trans hg, hc⟩
  · refine (h4.block xb hxg).trans ?_
    rw [heap_set_self xv2 hx3]
    rfl
  · exact hx2.kept fun k cur hk => o1 k (tyg hk (by decide)) (tyx hk (by decide))
end Go.Proofs.Ytgkohbjbfjnllaa
