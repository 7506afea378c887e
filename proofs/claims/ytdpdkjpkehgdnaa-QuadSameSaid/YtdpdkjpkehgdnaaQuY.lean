/-
  The reference's grid: Squares: for every grid and square.
-/
import Derived.Test.YtdpdkjpkehgdnaaQuX
import Derived.OwnWalk
namespace Go.Proofs.Ytdpdkjpkehgdnaa
open Go.RowKit

theorem infoQ : (Try.prog.info? 53).map (fun i => (i.zero, i.size, i.bytes)) = some (some (.agg #[.int .i64 0, .int .i64 0, .int .i64 0, .int .i64 0]), 4, 32) := by kernel_rfl

theorem w64_nat {h : Nat} (hh : h ≤ 1024) : wrap64 (h : Int) = (h : Int) := by
  unfold wrap64
  omega
theorem i64_nat {h : Nat} (hh : h ≤ 1024) : IntKind.i64.wrap (h : Int) = (h : Int) := IntWalk.i64_in _ (by omega)
def sqCells (l : List Lf) : List Value := l.flatMap fun p => [.int .i64 p.1, .int .i64 p.2.1, .int .i64 p.2.2.1, .int .i64 p.2.2.2]
theorem sqCells_append (a b : List Lf) : sqCells (a ++ b) = sqCells a ++ sqCells b := by simp [sqCells]
theorem sqCells_length (l : List Lf) : (sqCells l).length = l.length * 4 := by
  induction l with
  | nil => rfl
  | cons p r ih => simp only [sqCells, List.flatMap_cons, List.length_append, List.length_cons, List.length_nil] at ih ⊢; omega
theorem sqCells_one (l : List Lf) : ∀ u ∈ sqCells l, u.oneCell' = true := by
  intro u hu
  simp only [sqCells, List.mem_flatMap] at hu
  obtain ⟨p, _, hp⟩ := hu
  simp at hp
  rcases hp with rfl | rfl | rfl | rfl <;> rfl

/-- a row that is owned, read -/
theorem own_get {w : World} {base : Nat} {e : TypeId} {size n : Nat} {v : Value} {xs : List Value} (h : w.ownsRow base e size v n xs) (hn : 0 < n) : ∃ g cap, v = .slice (some ⟨g, 0, none⟩) n cap ∧ base ≤ g ∧ g < w.heap.size ∧ ∀ j u, xs[j]? = some u → w.cell? ((⟨g, 0, none⟩ : Addr).add j) = some u := by
  obtain ⟨h1, ⟨_, h3⟩ | ⟨g, cap, cur, h2, h3, hh, hn', hm', hsc, htk⟩⟩ := h
  · omega
  · refine ⟨g, cap, h2, h3, (Array.getElem?_eq_some_iff.1 hh).1, fun j u hu => ?_⟩
    rw [← htk] at hu
    have hj : j < n * size := by
      have := (List.getElem?_eq_some_iff.1 hu).1
      simp at this
      omega
    rw [List.getElem?_take, if_pos hj] at hu
    have : w.cell? ⟨g, j, none⟩ = cur[j]? := cell_of_heap hh
    rw [Addr.add_lit, Nat.zero_add, this]
    simpa using hu

theorem own_below {w w' : World} {b : Nat} {e : TypeId} {size : Nat} {v : Value} {n : Nat} {xs : List Value} (h : w.ownsRow b e size v n xs) (hb : Below w.heap.size w w') : w'.ownsRow b e size v n xs := by
  obtain ⟨h1, h2 | ⟨g, cap, cur, h2, h3, hh, r⟩⟩ := h
  · exact ⟨h1, .inl h2⟩
  · exact ⟨h1, .inr ⟨g, cap, cur, h2, h3, (hb.block g (Array.getElem?_eq_some_iff.1 hh).1).trans hh, r⟩⟩
theorem own_base {w : World} {b b' : Nat} {e : TypeId} {size : Nat} {v : Value} {n : Nat} {xs : List Value} (h : w.ownsRow b e size v n xs) (hb : b' ≤ b) : w.ownsRow b' e size v n xs := by
  obtain ⟨h1, h2 | ⟨g, cap, cur, h2, h3, r⟩⟩ := h
  · exact ⟨h1, .inl h2⟩
  · exact ⟨h1, .inr ⟨g, cap, cur, h2, Nat.le_trans hb h3, r⟩⟩

theorem sqG_pos (S : Nat) (f : Nat → Int) : ∀ k x y, 0 < (sqG S f k x y).length
  | 0, x, y => by simp [sqG]
  | k + 1, x, y => by
    have := sqG_pos S f k x y
    rw [sqG]
    split
    · simp
    · simp only [List.length_append]; omega
theorem sqG_le (S : Nat) (f : Nat → Int) : ∀ k x y, (sqG S f k x y).length ≤ 4 ^ k
  | 0, x, y => by simp [sqG]
  | k + 1, x, y => by
    have h1 := sqG_le S f k x y
    have h2 := sqG_le S f k (x + 2 ^ k) y
    have h3 := sqG_le S f k x (y + 2 ^ k)
    have h4 := sqG_le S f k (x + 2 ^ k) (y + 2 ^ k)
    have hp : 1 ≤ 4 ^ k := Nat.one_le_pow _ _ (by decide)
    have e : 4 ^ (k + 1) = 4 * 4 ^ k := by rw [Nat.pow_succ]; omega
    rw [sqG]
    split
    · simp only [List.length_cons, List.length_nil]; omega
    · simp only [List.length_append]; omega
theorem one_zero (S : Nat) (f : Nat → Int) (x y : Nat) : OneP S f x y (2 ^ 0) := by
  intro i hi j hj
  have hi0 : i = 0 := by simpa using hi
  have hj0 : j = 0 := by simpa using hj
  subst hi0 hj0
  rfl

/-- one leaf, as a new row -/
theorem own_one (w : World) (p : Lf) : (w.alloc (.cells #[.int .i64 p.1, .int .i64 p.2.1, .int .i64 p.2.2.1, .int .i64 p.2.2.2] 53)).ownsRow w.heap.size 53 4 (.slice (some ⟨w.heap.size, 0, none⟩) 1 1) 1 (sqCells [p]) :=
  ⟨rfl, .inr ⟨w.heap.size, 1, _, rfl, Nat.le_refl _, World.alloc_heap_new _ _, Nat.le_refl _, by unfold maxLen; omega, rfl, rfl⟩⟩

set_option maxRecDepth 100000 in
set_option maxHeartbeats 2000000 in
theorem refSq_leaf (S g cap x y n N : Nat) (f : Nat → Int) (w : World) (hS : S ≤ 32) (hx : x + n ≤ S) (hy : y + n ≤ S) (hn : 1 ≤ n) (hf : IntsAt w N g (S * S) f) (ho : OneP S f x y n) :
    Calls Try.prog 19 #[.agg #[.int .i64 (S : Int), .slice (some ⟨g, 0, none⟩) (S * S) cap], .int .i64 (x : Int), .int .i64 (y : Int), .int .i64 (n : Int)] w fun e w' =>
      ∃ v, e = .returned v ∧ w'.ownsRow w.heap.size 53 4 v 1 (sqCells [((x : Int), (y : Int), (n : Int), f (y * S + x))]) ∧ Below w.heap.size w w' := by
  have hss : S * S ≤ 1024 := Nat.mul_le_mul hS hS
  have hg := hf.lt
  have hp0 : y * S + x < S * S := by have := idx_lt (i := 0) (j := 0) hx hy hn hn; simpa using this
  have hone := fun (w' : World) (b : Below w.heap.size w w') => refOne_any S g cap x y n N f w' hS hx hy hn (hf.below b)
  have HO := hid ho
  obtain ⟨p0, hp⟩ : ∃ p0, p0 = y * S + x := ⟨_, rfl⟩
  rw [← hp] at hp0 ⊢
  have e0 := hf.cell p0 hp0
  generalize hT : S * S = T at hss hp0 hone ⊢
  obtain ⟨b2, hb2⟩ : ∃ b2 : Int, b2 = (y : Int) * (S : Int) := ⟨_, rfl⟩
  have hyS : y * S ≤ T := by omega
  have hw5 : IntKind.i64.wrap ((y : Int) * (S : Int)) = b2 := by
    rw [hb2, IntWalk.i64_in _ (by rw [← Int.natCast_mul]; omega)]
  have hw6 : IntKind.i64.wrap (b2 + (x : Int)) = (p0 : Int) := by
    rw [hb2, hp, ← Int.natCast_mul, IntWalk.i64_in _ (by omega)]
    omega
  have HON := hid hone
  generalize f p0 = u at e0 ⊢
  clear hb2 hp hone ho hf hT
  go_enter Try.func19, Try.ntmps19
  go_wp2_with fail
  refine (HON.out _ (balloc (Below.refl _ _) _)).mono ?_
  rintro e w1 ⟨r, rfl, hr, hb1⟩
  have hr1 : r = true := hr.2 HO.out
  subst hr1
  have hs1 := hb1.size
  simp at hs1
  have c0 : w1.cell? ⟨w.heap.size, 0, none⟩ = some (.int .i64 (S : Int)) := by rw [(bcell hb1).1 _ _ (by simp)]; simp [go_sem]
  have c1 : w1.cell? ⟨w.heap.size, 1, none⟩ = some (.slice (some ⟨g, 0, none⟩) T cap) := by rw [(bcell hb1).1 _ _ (by simp)]; simp [go_sem]
  have hB1 : Below w.heap.size w w1 := bstep (balloc (Below.refl _ _) _) hb1
  have d0 := ((bcell hB1).1 g p0 hg).trans e0
  clear hr hb1 e0
  go_wp2
  go_ret
  exact ⟨_, rfl, own_base (own_one w1 ((x : Int), (y : Int), (n : Int), u)) (by omega), bstep hB1 (balloc (Below.refl _ _) _)⟩
set_option maxRecDepth 100000 in
set_option maxHeartbeats 4000000 in
theorem refSq_node (S g cap x y h n N : Nat) (f : Nat → Int) (L : Nat → Nat → List Lf) (w : World) (hS : S ≤ 32) (hn2 : n = 2 * h) (hx : x + n ≤ S) (hy : y + n ≤ S) (hn : 1 ≤ n) (hf : IntsAt w N g (S * S) f) (ho : ¬ OneP S f x y n)
    (hL : ∀ a b, 0 < (L a b).length ∧ (L a b).length ≤ 1024)
    (ih : ∀ (a b : Nat) (w' : World), a + h ≤ S → b + h ≤ S → Below w.heap.size w w' → Calls Try.prog 19 #[.agg #[.int .i64 (S : Int), .slice (some ⟨g, 0, none⟩) (S * S) cap], .int .i64 (a : Int), .int .i64 (b : Int), .int .i64 (h : Int)] w' fun e w'' =>
      ∃ v, e = .returned v ∧ w''.ownsRow w'.heap.size 53 4 v (L a b).length (sqCells (L a b)) ∧ Below w'.heap.size w' w'') :
    Calls Try.prog 19 #[.agg #[.int .i64 (S : Int), .slice (some ⟨g, 0, none⟩) (S * S) cap], .int .i64 (x : Int), .int .i64 (y : Int), .int .i64 (n : Int)] w fun e w' =>
      ∃ v, e = .returned v ∧ w'.ownsRow w.heap.size 53 4 v (L x y ++ L (x + h) y ++ L x (y + h) ++ L (x + h) (y + h)).length (sqCells (L x y ++ L (x + h) y ++ L x (y + h) ++ L (x + h) (y + h))) ∧ Below w.heap.size w w' := by
  have hg := hf.lt
  have hone := fun (w' : World) (b : Below w.heap.size w w') => refOne_any S g cap x y n N f w' hS hx hy hn (hf.below b)
  have HO := hid ho
  obtain ⟨X2, hX2⟩ : ∃ X2, X2 = x + h := ⟨_, rfl⟩
  obtain ⟨Y2, hY2⟩ : ∃ Y2, Y2 = y + h := ⟨_, rfl⟩
  rw [← hX2, ← hY2]
  have hb0 : x + h ≤ S ∧ y + h ≤ S ∧ X2 + h ≤ S ∧ Y2 + h ≤ S := by omega
  have hh : h ≤ 1024 := by omega
  have hwx : IntKind.i64.wrap ((x : Int) + (h : Int)) = (X2 : Int) := by rw [hX2, IntWalk.i64_in _ (by omega)]; omega
  have hwy : IntKind.i64.wrap ((y : Int) + (h : Int)) = (Y2 : Int) := by rw [hY2, IntWalk.i64_in _ (by omega)]; omega
  have hq1 : (n : Int) / 2 = (h : Int) := by omega
  have hq2 : (n : Int).tdiv 2 = (h : Int) := by rw [Int.tdiv_eq_ediv_of_nonneg (by omega)]; omega
  have hq3 := w64_nat hh
  have hq4 := i64_nat hh
  obtain ⟨m0, hm0⟩ : ∃ m0, m0 = (L x y).length := ⟨_, rfl⟩
  have l0 : 0 < m0 ∧ m0 ≤ 1024 := by rw [hm0]; exact hL _ _
  have HM0 := hid hm0
  obtain ⟨m1, hm1⟩ : ∃ m1, m1 = (L X2 y).length := ⟨_, rfl⟩
  have l1 : 0 < m1 ∧ m1 ≤ 1024 := by rw [hm1]; exact hL _ _
  have HM1 := hid hm1
  obtain ⟨m2, hm2⟩ : ∃ m2, m2 = (L x Y2).length := ⟨_, rfl⟩
  have l2 : 0 < m2 ∧ m2 ≤ 1024 := by rw [hm2]; exact hL _ _
  have HM2 := hid hm2
  obtain ⟨m3, hm3⟩ : ∃ m3, m3 = (L X2 Y2).length := ⟨_, rfl⟩
  have l3 : 0 < m3 ∧ m3 ≤ 1024 := by rw [hm3]; exact hL _ _
  have HM3 := hid hm3
  clear hm0 hm1 hm2 hm3
  have HQ := hid (And.intro hq1 (And.intro hq2 (And.intro hq3 hq4)))
  have HWX := hid (And.intro hwx hwy)
  clear hq1 hq2 hq3 hq4 hwx hwy
  have HI := hid ih
  have HON := hid hone
  generalize hT : S * S = T at HON HI ⊢
  clear hone ho hf hT ih hL hX2 hY2 hn2
  obtain ⟨i0, hi, hz0, hz1, hz2⟩ := info_parts infoQ
  go_enter Try.func19, Try.ntmps19
  go_wp2_with fail
  refine (HON.out _ (balloc (Below.refl _ _) _)).mono ?_
  rintro e w1 ⟨r, rfl, hr, hb1⟩
  have hr1 : r = false := by
    cases r with
    | false => rfl
    | true => exact absurd (hr.1 rfl) HO.out
  subst hr1
  have hs1 := hb1.size
  simp at hs1
  have c0 : w1.cell? ⟨w.heap.size, 0, none⟩ = some (.int .i64 (S : Int)) := by rw [(bcell hb1).1 _ _ (by simp)]; simp [go_sem]
  have c1 : w1.cell? ⟨w.heap.size, 1, none⟩ = some (.slice (some ⟨g, 0, none⟩) T cap) := by rw [(bcell hb1).1 _ _ (by simp)]; simp [go_sem]
  have hB1 : Below w.heap.size w w1 := bstep (balloc (Below.refl _ _) _) hb1
  clear hr hb1
  obtain ⟨B0, hB0⟩ : ∃ B0, B0 = w1.heap.size := ⟨_, rfl⟩
  have k1 : Below B0 w1 w1 := Below.refl _ _
  have z1 : B0 ≤ w1.heap.size := by omega
  have HW1 := hid (World.ownsRow_nil w1 B0 53 4)
  have HW1' : Hid (w1.ownsRow B0 53 4 (.slice none 0 0) 0 (sqCells [])) := HW1
  have hwb : w.heap.size < B0 := by omega
  clear hB0 HW1
  -- quarter 0
  obtain ⟨hwx, hwy⟩ := HWX.out
  obtain ⟨hq1, hq2, hq3, hq4⟩ := HQ.out
  go_wp2_with fail
  clear hwx hwy hq1 hq2 hq3 hq4
  refine (HI.out x y w1 (by omega) (by omega) (hB1.trans (k1.mono (by omega)))).mono ?_
  rintro e u2 ⟨v2, rfl, ho2, hb2⟩
  rw [← HM0.out] at ho2
  obtain ⟨g2, cap2, rfl, hg2, hg2', hget2⟩ := own_get ho2 l0.1
  have HR2 : Hid (u2.ownsRow B0 53 4 _ (0) (sqCells ([]))) := hid (own_below HW1'.out hb2)
  have HG2 := hid hget2
  have kb2 : Below B0 w1 u2 := k1.trans (hb2.mono z1)
  have zu2 : B0 ≤ u2.heap.size := Nat.le_trans z1 hb2.size
  have d0_2 := (kb2.cell (p := ⟨w.heap.size, 0, none⟩) hwb).trans c0
  have d1_2 := (kb2.cell (p := ⟨w.heap.size, 1, none⟩) hwb).trans c1
  clear hget2 ho2 hb2
  go_wp2_with (first
    | (at_builtin; go_loud (refine wpList_append_own _ rfl (.tmp 33) (.tmp 38) 47 rfl B0 53 i0 (.agg #[.int .i64 0, .int .i64 0, .int .i64 0, .int .i64 0]) 4 32 Try.underlying47 hi hz0 hz1 hz2 rfl (by decide) _ _ _ rfl HR2.out ⟨g2, 0, none⟩ _ cap2 (sqCells (L x y)) rfl (by rw [HM0.out]; exact sqCells_length _) HG2.out (sqCells_one _) (by unfold maxLen; omega) (by omega) zu2 ?_)))
  intro v2' w2 hown2 hgrow2 _
  have k2 : Below B0 w1 w2 := kb2.grown hgrow2 zu2 (fun k hk => (HR2.out.lt k hk).1)
  have z2 : B0 ≤ w2.heap.size := Nat.le_trans z1 k2.size
  have HW2 : Hid (w2.ownsRow B0 53 4 v2' (m0) (sqCells (L x y))) := hid (by
    have := hown2
    simpa [sqCells] using this)
  have y0_2 := (k2.cell (p := ⟨w.heap.size, 0, none⟩) hwb).trans c0
  have y1_2 := (k2.cell (p := ⟨w.heap.size, 1, none⟩) hwb).trans c1
  obtain ⟨A2, q2, hv2⟩ := own_form HW2.out
  subst hv2
  clear hown2 hgrow2 d0_2 d1_2 HG2 HR2
  -- quarter 1
  obtain ⟨hwx, hwy⟩ := HWX.out
  obtain ⟨hq1, hq2, hq3, hq4⟩ := HQ.out
  go_wp2_with fail
  clear hwx hwy hq1 hq2 hq3 hq4
  refine (HI.out X2 y w2 (by omega) (by omega) (hB1.trans (k2.mono (by omega)))).mono ?_
  rintro e u3 ⟨v3, rfl, ho3, hb3⟩
  rw [← HM1.out] at ho3
  obtain ⟨g3, cap3, rfl, hg3, hg3', hget3⟩ := own_get ho3 l1.1
  have HR3 : Hid (u3.ownsRow B0 53 4 _ (m0) (sqCells (L x y))) := hid (own_below HW2.out hb3)
  have HG3 := hid hget3
  have kb3 : Below B0 w1 u3 := k2.trans (hb3.mono z2)
  have zu3 : B0 ≤ u3.heap.size := Nat.le_trans z2 hb3.size
  have d0_3 := (kb3.cell (p := ⟨w.heap.size, 0, none⟩) hwb).trans c0
  have d1_3 := (kb3.cell (p := ⟨w.heap.size, 1, none⟩) hwb).trans c1
  clear hget3 ho3 hb3
  go_wp2_with (first
    | (at_builtin; go_loud (refine wpList_append_own _ rfl (.tmp 40) (.tmp 47) 47 rfl B0 53 i0 (.agg #[.int .i64 0, .int .i64 0, .int .i64 0, .int .i64 0]) 4 32 Try.underlying47 hi hz0 hz1 hz2 rfl (by decide) _ _ _ rfl HR3.out ⟨g3, 0, none⟩ _ cap3 (sqCells (L X2 y)) rfl (by rw [HM1.out]; exact sqCells_length _) HG3.out (sqCells_one _) (by unfold maxLen; omega) (by omega) zu3 ?_)))
  intro v3' w3 hown3 hgrow3 _
  have k3 : Below B0 w1 w3 := kb3.grown hgrow3 zu3 (fun k hk => (HR3.out.lt k hk).1)
  have z3 : B0 ≤ w3.heap.size := Nat.le_trans z1 k3.size
  have HW3 : Hid (w3.ownsRow B0 53 4 v3' (m0 + m1) (sqCells (L x y ++ L X2 y))) := hid (by
    have := hown3
    simp only [sqCells_append] at this ⊢
    exact this)
  have y0_3 := (k3.cell (p := ⟨w.heap.size, 0, none⟩) hwb).trans c0
  have y1_3 := (k3.cell (p := ⟨w.heap.size, 1, none⟩) hwb).trans c1
  obtain ⟨A3, q3, hv3⟩ := own_form HW3.out
  subst hv3
  clear hown3 hgrow3 d0_3 d1_3 HG3 HR3
  -- quarter 2
  obtain ⟨hwx, hwy⟩ := HWX.out
  obtain ⟨hq1, hq2, hq3, hq4⟩ := HQ.out
  go_wp2_with fail
  clear hwx hwy hq1 hq2 hq3 hq4
  refine (HI.out x Y2 w3 (by omega) (by omega) (hB1.trans (k3.mono (by omega)))).mono ?_
  rintro e u4 ⟨v4, rfl, ho4, hb4⟩
  rw [← HM2.out] at ho4
  obtain ⟨g4, cap4, rfl, hg4, hg4', hget4⟩ := own_get ho4 l2.1
  have HR4 : Hid (u4.ownsRow B0 53 4 _ (m0 + m1) (sqCells (L x y ++ L X2 y))) := hid (own_below HW3.out hb4)
  have HG4 := hid hget4
  have kb4 : Below B0 w1 u4 := k3.trans (hb4.mono z3)
  have zu4 : B0 ≤ u4.heap.size := Nat.le_trans z3 hb4.size
  have d0_4 := (kb4.cell (p := ⟨w.heap.size, 0, none⟩) hwb).trans c0
  have d1_4 := (kb4.cell (p := ⟨w.heap.size, 1, none⟩) hwb).trans c1
  clear hget4 ho4 hb4
  go_wp2_with (first
    | (at_builtin; go_loud (refine wpList_append_own _ rfl (.tmp 49) (.tmp 56) 47 rfl B0 53 i0 (.agg #[.int .i64 0, .int .i64 0, .int .i64 0, .int .i64 0]) 4 32 Try.underlying47 hi hz0 hz1 hz2 rfl (by decide) _ _ _ rfl HR4.out ⟨g4, 0, none⟩ _ cap4 (sqCells (L x Y2)) rfl (by rw [HM2.out]; exact sqCells_length _) HG4.out (sqCells_one _) (by unfold maxLen; omega) (by omega) zu4 ?_)))
  intro v4' w4 hown4 hgrow4 _
  have k4 : Below B0 w1 w4 := kb4.grown hgrow4 zu4 (fun k hk => (HR4.out.lt k hk).1)
  have z4 : B0 ≤ w4.heap.size := Nat.le_trans z1 k4.size
  have HW4 : Hid (w4.ownsRow B0 53 4 v4' (m0 + m1 + m2) (sqCells (L x y ++ L X2 y ++ L x Y2))) := hid (by
    have := hown4
    simp only [sqCells_append, List.append_assoc] at this ⊢
    exact this)
  have y0_4 := (k4.cell (p := ⟨w.heap.size, 0, none⟩) hwb).trans c0
  have y1_4 := (k4.cell (p := ⟨w.heap.size, 1, none⟩) hwb).trans c1
  obtain ⟨A4, q4, hv4⟩ := own_form HW4.out
  subst hv4
  clear hown4 hgrow4 d0_4 d1_4 HG4 HR4
  -- quarter 3
  obtain ⟨hwx, hwy⟩ := HWX.out
  obtain ⟨hq1, hq2, hq3, hq4⟩ := HQ.out
  go_wp2_with fail
  clear hwx hwy hq1 hq2 hq3 hq4
  refine (HI.out X2 Y2 w4 (by omega) (by omega) (hB1.trans (k4.mono (by omega)))).mono ?_
  rintro e u5 ⟨v5, rfl, ho5, hb5⟩
  rw [← HM3.out] at ho5
  obtain ⟨g5, cap5, rfl, hg5, hg5', hget5⟩ := own_get ho5 l3.1
  have HR5 : Hid (u5.ownsRow B0 53 4 _ (m0 + m1 + m2) (sqCells (L x y ++ L X2 y ++ L x Y2))) := hid (own_below HW4.out hb5)
  have HG5 := hid hget5
  have kb5 : Below B0 w1 u5 := k4.trans (hb5.mono z4)
  have zu5 : B0 ≤ u5.heap.size := Nat.le_trans z4 hb5.size
  have d0_5 := (kb5.cell (p := ⟨w.heap.size, 0, none⟩) hwb).trans c0
  have d1_5 := (kb5.cell (p := ⟨w.heap.size, 1, none⟩) hwb).trans c1
  clear hget5 ho5 hb5
  go_wp2_with (first
    | (at_builtin; go_loud (refine wpList_append_own _ rfl (.tmp 58) (.tmp 67) 47 rfl B0 53 i0 (.agg #[.int .i64 0, .int .i64 0, .int .i64 0, .int .i64 0]) 4 32 Try.underlying47 hi hz0 hz1 hz2 rfl (by decide) _ _ _ rfl HR5.out ⟨g5, 0, none⟩ _ cap5 (sqCells (L X2 Y2)) rfl (by rw [HM3.out]; exact sqCells_length _) HG5.out (sqCells_one _) (by unfold maxLen; omega) (by omega) zu5 ?_)))
  intro v5' w5 hown5 hgrow5 _
  have k5 : Below B0 w1 w5 := kb5.grown hgrow5 zu5 (fun k hk => (HR5.out.lt k hk).1)
  have z5 : B0 ≤ w5.heap.size := Nat.le_trans z1 k5.size
  have HW5 : Hid (w5.ownsRow B0 53 4 v5' (m0 + m1 + m2 + m3) (sqCells (L x y ++ L X2 y ++ L x Y2 ++ L X2 Y2))) := hid (by
    have := hown5
    simp only [sqCells_append, List.append_assoc] at this ⊢
    exact this)
  have y0_5 := (k5.cell (p := ⟨w.heap.size, 0, none⟩) hwb).trans c0
  have y1_5 := (k5.cell (p := ⟨w.heap.size, 1, none⟩) hwb).trans c1
  obtain ⟨A5, q5, hv5⟩ := own_form HW5.out
  subst hv5
  clear hown5 hgrow5 d0_5 d1_5 HG5 HR5
  go_wp2
  go_ret
  have hall : (L x y ++ L X2 y ++ L x Y2 ++ L X2 Y2).length = m0 + m1 + m2 + m3 := by
    simp only [List.length_append, HM0.out, HM1.out, HM2.out, HM3.out]
  exact ⟨_, rfl, by rw [hall]; exact own_base HW5.out (by omega), hB1.trans (k5.mono (by omega))⟩

end Go.Proofs.Ytdpdkjpkehgdnaa
