/-
  Package quad: a quad's bytes: for every quad.
-/
import Derived.Test.YtdpdkjpkehgdnaaQuM
import Derived.Test.YtdpdkjpkehgdnaaQuO
import Derived.OwnWalk
namespace Go.Proofs.Ytdpdkjpkehgdnaa
open Go.RowKit

theorem infoB : (Try.prog.info? 5).map (fun i => (i.zero, i.size, i.bytes)) = some (some (.int .u8 0), 1, 1) := by kernel_rfl

def cellsB (l : List UInt8) : List Value := l.map fun b => Value.int .u8 (b.toNat : Int)
theorem cellsB_append (a b : List UInt8) : cellsB (a ++ b) = cellsB a ++ cellsB b := List.map_append
theorem cellsB_length (l : List UInt8) : (cellsB l).length = l.length := List.length_map _
theorem cellsB_one (l : List UInt8) : ∀ u ∈ cellsB l, u.oneCell' = true := by simp [cellsB, Value.oneCell']

def byteOf (v : Int) : UInt8 := UInt8.ofNat v.toNat
theorem byteOf_int {v : Int} (h : 0 ≤ v ∧ v ≤ 255) : ((byteOf v).toNat : Int) = v := by
  simp [byteOf]
  omega
def bytesT : Sq → List UInt8
  | .leaf v => [0, byteOf v]
  | .node a b c d => 1 :: (bytesT a ++ bytesT b ++ bytesT c ++ bytesT d)
def bytesTo (f : Nat → List UInt8) : Nat → List UInt8
  | 0 => [1]
  | i + 1 => bytesTo f i ++ f i
theorem bytesT_node (a b c d : Sq) : bytesT (.node a b c d) = bytesTo (fun i => bytesT (kidOf a b c d i)) 4 := by
  simp [bytesT, bytesTo, kidOf]
theorem bytesTo_le {f : Nat → List UInt8} {i : Nat} (h : i ≤ 4) : (bytesTo f i).length ≤ (bytesTo f 4).length := by
  match i, h with
  | 0, _ => simp [bytesTo]
  | 1, _ => simp [bytesTo] <;> omega
  | 2, _ => simp [bytesTo] <;> omega
  | 3, _ => simp [bytesTo]
  | 4, _ => exact Nat.le_refl _

theorem SqAt.belowB {W W' : World} {B : Nat} {t : Sq} {b o : Nat} {F : Nat → Prop} (h : SqAt W t b o F) (k : Below B W W') (hb : b < B) (hF : ∀ c, F c → c < B) : SqAt W' t b o F :=
  h.frame k.size (fun i _ => ⟨k.cell (p := ⟨b, i, none⟩) hb, k.frozen (p := ⟨b, i, none⟩) hb⟩) fun c i hc => ⟨k.cell (p := ⟨c, i, none⟩) (hF c hc), k.frozen (p := ⟨c, i, none⟩) (hF c hc)⟩

theorem two_new (w : World) (u v : Value) (t : TypeId) : ∀ (j : Nat) (x : Value), [u, v][j]? = some x → (w.alloc (.cells #[u, v] t)).cell? ((⟨w.heap.size, 0, none⟩ : Addr).add j) = some x := by
  intro j x hx
  rcases j with _ | _ | j
  · simp at hx
    subst hx
    simp [go_sem]
  · simp at hx
    subst hx
    simp [go_sem]
  · simp at hx

set_option maxHeartbeats 1000000 in
theorem bytes_sq : ∀ (t : Sq) (b o : Nat) (F : Nat → Prop) (base : Nat) (v : Value) (n : Nat) (xs : List Value) (w : World), SqAt w t b o F → b < base → (∀ c, F c → c < base) → base ≤ w.heap.size → w.ownsRow base 5 1 v n xs → n + (bytesT t).length ≤ 1000000000 →
    Calls Try.prog 37 #[.pointer (some ⟨b, o, none⟩), v] w fun e w' => ∃ v', e = .returned v' ∧ w'.ownsRow base 5 1 v' (n + (bytesT t).length) (xs ++ cellsB (bytesT t)) ∧ Below base w w'
  | .leaf u, b, o, F, base, v, n, xs, w, h, hb, hF, hbase, hown, hn => by
    obtain ⟨h1, h2, h3, h4, hu⟩ := h
    obtain ⟨A, c, hv⟩ := own_form hown
    subst hv
    have hcs : cellsB (bytesT (.leaf u)) = [.int .u8 0, .int .u8 u] := by
      simp [cellsB, bytesT, byteOf_int hu]
    have hl : (bytesT (.leaf u)).length = 2 := rfl
    rw [hcs, hl]
    rw [hl] at hn
    have HO := hid hown
    clear hown hcs hl
    obtain ⟨i0, hi, hz0, hz1, hz2⟩ := info_parts infoB
    have hB : Below base w w := Below.refl _ _
    go_enter Try.func37, Try.ntmps37
    go_wp2_with (first
      | (at_builtin; go_loud (refine wpList_append_own _ rfl (.tmp 11) (.tmp 16) 54 rfl base 5 i0 (.int .u8 0) 1 1 Try.underlying54 hi hz0 hz1 hz2 rfl (by decide) _ _ _ rfl (HO.out.alloc _) ⟨w.heap.size, 0, none⟩ 2 2 [.int .u8 0, .int .u8 u] rfl rfl (two_new _ _ _ _) (by simp [Value.oneCell']) (by unfold maxLen; omega) (by omega) (by simp; omega) ?_)))
    intro v' w2 hown2 hgrow _
    have HB2 : Hid (Below base w w2) := hid ((hB.alloc hbase _).grown hgrow (by simp; omega) (fun k hk => (HO.out.lt k hk).1))
    have HO2 := hid hown2
    clear hown2 hgrow
    go_wp2
    go_ret
    exact ⟨v', rfl, HO2.out, HB2.out⟩
  | .node t0 t1 t2 t3, b, o, F, base, v, n, xs, w, h, hb, hF, hbase, hown, hn => by
    have ih : ∀ j, j < 4 → ∀ (b o : Nat) (F : Nat → Prop) (base : Nat) (v : Value) (n : Nat) (xs : List Value) (w : World), SqAt w (kidOf t0 t1 t2 t3 j) b o F → b < base → (∀ c, F c → c < base) → base ≤ w.heap.size → w.ownsRow base 5 1 v n xs → n + (bytesT (kidOf t0 t1 t2 t3 j)).length ≤ 1000000000 →
        Calls Try.prog 37 #[.pointer (some ⟨b, o, none⟩), v] w fun e w' => ∃ v', e = .returned v' ∧ w'.ownsRow base 5 1 v' (n + (bytesT (kidOf t0 t1 t2 t3 j)).length) (xs ++ cellsB (bytesT (kidOf t0 t1 t2 t3 j))) ∧ Below base w w' := fun j hj =>
      match j, hj with
      | 0, _ => bytes_sq t0
      | 1, _ => bytes_sq t1
      | 2, _ => bytes_sq t2
      | 3, _ => bytes_sq t3
    obtain ⟨K, v0, G, ⟨h1, h2, h3, h4⟩, hFK, hK, hd, hG, hk⟩ := h.kids
    rw [bytesT_node] at hn ⊢
    obtain ⟨f, hf⟩ : ∃ f, f = fun i => bytesT (kidOf t0 t1 t2 t3 i) := ⟨_, rfl⟩
    have hfi : ∀ i, bytesT (kidOf t0 t1 t2 t3 i) = f i := fun i => by rw [hf]
    rw [← hf] at hn ⊢
    simp only [hfi] at ih
    generalize kidOf t0 t1 t2 t3 = U at *
    clear h hf hfi hd
    obtain ⟨A, c, hv⟩ := own_form hown
    subst hv
    have HO := hid hown
    clear hown
    obtain ⟨i0, hi, hz0, hz1, hz2⟩ := info_parts infoB
    have hB : Below base w w := Below.refl _ _
    have hKb : K < base := hF K hFK
    have hle : ∀ i, i ≤ 4 → (bytesTo f i).length ≤ (bytesTo f 4).length := fun i hi => bytesTo_le hi
    have hl1 := hle 0 (by decide)
    have hl0 : (bytesTo f 0).length = 1 := rfl
    go_enter Try.func37, Try.ntmps37
    go_wp2_with (first
      | (at_builtin; go_loud (refine wpList_append_own _ rfl (.tmp 18) (.tmp 19) 54 rfl base 5 i0 (.int .u8 0) 1 1 Try.underlying54 hi hz0 hz1 hz2 rfl (by decide) _ _ _ rfl (HO.out.alloc _) ⟨w.heap.size, 0, none⟩ 1 1 [.int .u8 1] rfl rfl (one_new _ _ _) (by simp [Value.oneCell']) (by unfold maxLen; omega) (by omega) (by simp; omega) ?_)))
    intro v' w2 hown2 hgrow _
    have HB2 : Hid (Below base w w2) := hid ((hB.alloc hbase _).grown hgrow (by simp; omega) (fun k hk => (HO.out.lt k hk).1))
    have HO2 := hid hown2
    clear hown2 hgrow
    go_wp2_with fail
    go_loopw [1, 21] (fun s1 s21 wr => ∃ i : Nat, i ≤ 4 ∧ s21 = .int .i64 (i : Int) ∧ wr.ownsRow base 5 1 s1 (n + (bytesTo f i).length) (xs ++ cellsB (bytesTo f i)) ∧ Below base w wr) (fun _ s21 _ => 4 - (intOf s21).toNat)
    case atStart => exact ⟨0, Nat.zero_le _, rfl, HO2.out, HB2.out⟩
    case round =>
      obtain ⟨i, hi4, rfl, hown, hbr⟩ := hrel
      obtain ⟨A1, c1, hs1⟩ := own_form hown
      subst hs1
      have hsr := hbr.size
      have g1 : wr.cell? ⟨b, o, none⟩ = some (.pointer (some ⟨K, 0, none⟩)) := (hbr.cell (p := ⟨b, o, none⟩) hb).trans h1
      by_cases hlt : i < 4
      · have hle1 := hle (i + 1) (by omega)
        have hs1 : (bytesTo f (i + 1)).length = (bytesTo f i).length + (f i).length := by rw [bytesTo, List.length_append]
        rw [hs1] at hle1
        have hc := ih i hlt K (i * 2) (G i) base _ _ _ wr ((hk i hlt).belowB hbr hKb (fun c hc => hF c (hG i c hlt hc).1)) hKb (fun c hc => hF c (hG i c hlt hc).1) (by omega) hown (by omega)
        clear hown
        go_wp2_with fail
        refine hc.mono ?_
        rintro e w3 ⟨v3, rfl, ho3, hb3⟩
        have HO3 := hid ho3
        clear ho3 hc
        go_wp2_with fail
        go_roundw
        case rel => exact ⟨i + 1, by omega, by go_num, by rw [bytesTo, List.length_append, cellsB_append, ← Nat.add_assoc, ← List.append_assoc]; exact HO3.out, hbr.trans hb3⟩
        case measure => simp [intOf]; omega
      · obtain rfl : i = 4 := by omega
        have HO3 := hid hown
        clear hown
        go_wp2
        go_ret
        exact ⟨_, rfl, HO3.out, hbr⟩

theorem bytes_quad (N g : Nat) (side : Int) (t : Sq) (w : World) (hq : QuadAt w N g side t) (hn : (bytesT t).length ≤ 1000000000) :
    Calls Try.prog 21 #[.pointer (some ⟨g, 0, none⟩)] w fun e w' => ∃ v, e = .returned v ∧ w'.ownsRow w.heap.size 5 1 v (bytesT t).length (cellsB (bytesT t)) ∧ Below w.heap.size w w' := by
  obtain ⟨F, h1, h2, h3⟩ := hq.root
  go_enter Try.func21, Try.ntmps21
  go_wp2_with fail
  refine (bytes_sq t g 1 F w.heap.size (.slice none 0 0) 0 [] w h1 hq.lt (fun c hc => (h3 c hc).2) (Nat.le_refl _) (World.ownsRow_nil _ _ _ _) (by omega)).mono ?_
  rintro e w1 ⟨v, rfl, ho, hb⟩
  rw [Nat.zero_add, List.nil_append] at ho
  have HO := hid ho
  clear ho
  go_wp2
  go_ret
  exact ⟨v, rfl, HO.out, hb⟩
end Go.Proofs.Ytdpdkjpkehgdnaa
