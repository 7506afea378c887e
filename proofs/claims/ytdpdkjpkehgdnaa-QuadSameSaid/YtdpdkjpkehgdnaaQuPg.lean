/-
  Package quad: parse, Parse: any bytes are a quad's of a side, or none.
-/
import Derived.Test.YtdpdkjpkehgdnaaQuPf
namespace Go.Proofs.Ytdpdkjpkehgdnaa
open Go.RowKit

theorem sd_le8 {k : Nat} (hk : k ≤ 8) : sd k ≤ 256 := by
  unfold sd
  have : 2 ^ k ≤ 2 ^ 8 := Nat.pow_le_pow_right (by decide) hk
  omega

theorem parse_any : ∀ k : Nat, k ≤ 8 → ParseOk k := fun k => by
  have no : ∀ (k : Nat) (b : UInt8) (r : List UInt8) (v : Value) (N : Nat) (w : World), (b :: r).length ≤ 1000000000 → BAt w N v (b :: r) → N ≤ w.heap.size → (b ≠ 0 ∨ r = []) → (b ≠ 1 ∨ k = 0) →
      Calls Try.prog 38 #[v, .int .i64 (sd k)] w (ParsePost k (b :: r) N w) := fun k b r v N w => parse_no k b r v N w
  have part : ∀ (k : Nat), k + 1 ≤ 8 → ParseOk k → ParseOk (k + 1) := fun k hk ih l v N w hl hb hN => by
    have hsk : sd k ≤ 1000000000 := by have := sd_le8 (k := k) (by omega); omega
    cases l with
    | nil => exact parse_nil _ v N w hb
    | cons b r =>
      by_cases h0 : b = 0
      · subst h0
        cases r with
        | nil => exact no _ _ _ _ _ _ hl hb hN (.inr rfl) (.inl (by decide))
        | cons c r => exact parse_leaf _ c r v N w hl hb hN
      · by_cases h1 : b = 1
        · subst h1
          cases r with
          | nil =>
            rcases hb with ⟨_, h⟩ | ⟨A, cap, hv, h2⟩
            · cases h
            · have hb' : BAt w N v [1] := .inr ⟨A, cap, hv, h2⟩
              by_cases hc : cap = 1
              · exact parse_node1a k ih [] v N w hl hb' hN hsk rfl (fun A' len' cap' h => by rw [hv] at h; cases h; exact hc)
              · exact parse_node1b k ih [] v N w hl hb' hN hsk rfl (fun A' len' cap' h => by rw [hv] at h; cases h; exact hc)
          | cons c r => exact parse_node2 k ih (c :: r) v N w hl hb hN hsk (by simp)
        · exact no _ _ _ _ _ _ hl hb hN (.inl h0) (.inl h1)
  induction k with
  | zero =>
    intro _ l v N w hl hb hN
    cases l with
    | nil => exact parse_nil _ v N w hb
    | cons b r =>
      by_cases h0 : b = 0
      · subst h0
        cases r with
        | nil => exact no _ _ _ _ _ _ hl hb hN (.inr rfl) (.inr rfl)
        | cons c r => exact parse_leaf _ c r v N w hl hb hN
      · exact no _ _ _ _ _ _ hl hb hN (.inl h0) (.inr rfl)
  | succ k ih => exact fun hk => part k hk (ih (by omega))

theorem powB_8 {k : Nat} (hk : k ≤ 8) : powB (sd k) = true := by
  obtain rfl | rfl | rfl | rfl | rfl | rfl | rfl | rfl | rfl : k = 0 ∨ k = 1 ∨ k = 2 ∨ k = 3 ∨ k = 4 ∨ k = 5 ∨ k = 6 ∨ k = 7 ∨ k = 8 := by omega
  all_goals rfl

theorem front_rest {k : Nat} {l r : List UInt8} {t : Sq} (h : Front k l t r) (hr : r ≠ []) : ∀ t', ¬ Front k l t' [] := fun t' h' => by
  have he := h.eq
  rw [h'.eq] at he
  exact hr (bytes_inj _ _ _ _ h'.ok h.ok he).2.symm

/-- what Parse does -/
def ParseQ (k : Nat) (l : List UInt8) (w : World) (e : Ending) (w' : World) : Prop :=
  Below w.heap.size w w' ∧ ((∃ g t, e = .returned (.tuple #[.pointer (some ⟨g, 0, none⟩), .bool true]) ∧ QuadAt w' w.heap.size g (sd k) t ∧ t.fits k ∧ canon t ∧ okS t ∧ l = bytesT t) ∨
    (e = .returned (.tuple #[.pointer none, .bool false]) ∧ ∀ t, ¬ Front k l t []))

theorem qparse_no (n : Int) (v : Value) (w : World) (h : powB n = false) :
    Calls Try.prog 23 #[v, .int .i64 n] w fun e w' => e = .returned (.tuple #[.pointer none, .bool false]) ∧ Below w.heap.size w w' := by
  go_enter Try.func23, Try.ntmps23
  go_wp2_with fail
  refine (right_any' _ _).mono ?_
  rintro e w1 ⟨rfl, hbw1⟩
  obtain ⟨hcw1, hfw1⟩ := bcell hbw1
  have hsw1 := hbw1.size
  try simp at hcw1 hfw1 hsw1
  go_wp2
  refine bodyPost_ret (v := .tuple #[.pointer none, .bool false]) (by simp [results, Try.results23, go_sem]) rfl ⟨rfl, hbw1⟩

set_option maxHeartbeats 1000000 in
theorem qparse_any (k : Nat) (hk : k ≤ 8) (l : List UInt8) (v : Value) (N : Nat) (w : World) (hl : l.length ≤ 1000000000) (hb : BAt w N v l) (hN : N ≤ w.heap.size) :
    Calls Try.prog 23 #[v, .int .i64 (sd k)] w (ParseQ k l w) := by
  have hp := powB_8 hk
  have HP := hid (fun (W : World) (b : BAt W N v l) (hs : N ≤ W.heap.size) => parse_any k hk l v N W hl b hs)
  generalize hs : sd k = s at *
  have HS := hid hs
  clear hs
  go_enter Try.func23, Try.ntmps23
  go_wp2_with fail
  refine (right_any' _ _).mono ?_
  rintro e w1 ⟨rfl, hb1⟩
  rw [hp]
  have hB := hb.below (hb1.mono hN)
  have hN1 : N ≤ w1.heap.size := Nat.le_trans hN hb1.size
  go_wp2_with fail
  refine (HP.out w1 hB hN1).mono ?_
  rintro e w2 ⟨hb2, q, z, v', hpost⟩
  have hbb : Below w.heap.size w w2 := bstep hb1 hb2
  have hs2 := hb2.size
  clear hb hB HP
  rcases hpost with ⟨rfl, t, r, hf, hv, hr⟩ | ⟨rfl, hno⟩
  · rcases hr with ⟨rfl, rfl⟩ | ⟨A', cap', rfl, hc1, hc2, _⟩
    · have hq : QuadAt ((w2.alloc (.cells #[.pointer q, .int .u8 z] 72)).alloc (.cells #[.int .i64 s, .pointer q, .int .u8 z] 74)) w.heap.size (w2.heap.size + 1) (sd k) t := by
        rw [HS.out]
        have h1 := hb1.size
        refine ⟨by omega, by simp, by simp [go_sem], (fun c => w1.heap.size ≤ c ∧ c < w2.heap.size), ?_, fun h => by omega, fun c hc => ⟨by omega, by simp; omega⟩⟩
        refine hv _ _ _ (by simp; omega) (fun c i hc => ?_) (by simp [go_sem]) (by simp [go_sem]) (by simp [go_sem]) (by simp [go_sem])
        have hbel : Below w2.heap.size w2 ((w2.alloc (.cells #[.pointer q, .int .u8 z] 72)).alloc (.cells #[.int .i64 s, .pointer q, .int .u8 z] 74)) := balloc (balloc (Below.refl _ _) _) _
        exact ⟨(bcell hbel).1 _ _ hc.2, (bcell hbel).2 _ _ hc.2⟩
      have HQ := hid hq
      have HF := hid hf
      have hbe : Below w.heap.size w ((w2.alloc (.cells #[.pointer q, .int .u8 z] 72)).alloc (.cells #[.int .i64 s, .pointer q, .int .u8 z] 74)) := balloc (balloc hbb _) _
      have HE := hid hbe
      clear hq hf hv hbe
      go_wp2
      refine bodyPost_ret (v := .tuple #[.pointer (some ⟨w2.heap.size + 1, 0, none⟩), .bool true]) (by simp [results, Try.results23, go_sem]) rfl ⟨HE.out, .inl ⟨_, t, rfl, HQ.out, HF.out.fits, HF.out.can, HF.out.ok, by have := HF.out.eq; rwa [List.append_nil] at this⟩⟩
    · by_cases hr : r = []
      · subst hr
        have hq : QuadAt ((w2.alloc (.cells #[.pointer q, .int .u8 z] 72)).alloc (.cells #[.int .i64 s, .pointer q, .int .u8 z] 74)) w.heap.size (w2.heap.size + 1) (sd k) t := by
          rw [HS.out]
          have h1 := hb1.size
          refine ⟨by omega, by simp, by simp [go_sem], (fun c => w1.heap.size ≤ c ∧ c < w2.heap.size), ?_, fun h => by omega, fun c hc => ⟨by omega, by simp; omega⟩⟩
          refine hv _ _ _ (by simp; omega) (fun c i hc => ?_) (by simp [go_sem]) (by simp [go_sem]) (by simp [go_sem]) (by simp [go_sem])
          have hbel : Below w2.heap.size w2 ((w2.alloc (.cells #[.pointer q, .int .u8 z] 72)).alloc (.cells #[.int .i64 s, .pointer q, .int .u8 z] 74)) := balloc (balloc (Below.refl _ _) _) _
          exact ⟨(bcell hbel).1 _ _ hc.2, (bcell hbel).2 _ _ hc.2⟩
        have HQ := hid hq
        have HF := hid hf
        have hbe : Below w.heap.size w ((w2.alloc (.cells #[.pointer q, .int .u8 z] 72)).alloc (.cells #[.int .i64 s, .pointer q, .int .u8 z] 74)) := balloc (balloc hbb _) _
        have HE := hid hbe
        clear hq hf hv hbe
        simp only [List.length_nil] at *
        go_wp2
        refine bodyPost_ret (v := .tuple #[.pointer (some ⟨w2.heap.size + 1, 0, none⟩), .bool true]) (by simp [results, Try.results23, go_sem]) rfl ⟨HE.out, .inl ⟨_, t, rfl, HQ.out, HF.out.fits, HF.out.can, HF.out.ok, by have := HF.out.eq; rwa [List.append_nil] at this⟩⟩
      · have HN := hid (front_rest hf hr)
        have hpos : 0 < r.length := List.length_pos_iff.2 hr
        have hgt : decide ((0 : Int) < (r.length : Int)) = true := by simp; omega
        have hbe : Below w.heap.size w (w2.alloc (.cells #[.pointer q, .int .u8 z] 72)) := balloc hbb _
        have HE := hid hbe
        generalize r.length = n at *
        clear hf hv hbe
        go_wp2
        refine bodyPost_ret (v := .tuple #[.pointer none, .bool false]) (by simp [results, Try.results23, go_sem]) rfl ⟨HE.out, .inr ⟨rfl, HN.out⟩⟩
  · have HN := hid hno
    have hbe : Below w.heap.size w (w2.alloc (.cells #[.pointer q, .int .u8 z] 72)) := balloc hbb _
    have HE := hid hbe
    clear hno hbe
    go_wp2
    refine bodyPost_ret (v := .tuple #[.pointer none, .bool false]) (by simp [results, Try.results23, go_sem]) rfl ⟨HE.out, .inr ⟨rfl, fun t => HN.out t []⟩⟩
end Go.Proofs.Ytdpdkjpkehgdnaa
