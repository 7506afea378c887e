/-
  Package quad: how many squares a quad has.
-/
import Derived.Test.YtdpdkjpkehgdnaaQuB
namespace Go.Proofs.Ytdpdkjpkehgdnaa
open Go.RowKit

theorem nodes_pos : ∀ t : Sq, 1 ≤ t.nodes
  | .leaf _ => Nat.le_refl _
  | .node .. => by simp only [Sq.nodes]; omega

theorem nodesTo_le {f : Nat → Nat} {i : Nat} (h : i ≤ 4) : nodesTo f i ≤ nodesTo f 4 := by
  match i, h with
  | 0, _ => simp [nodesTo]; omega
  | 1, _ => simp [nodesTo]; omega
  | 2, _ => simp [nodesTo]; omega
  | 3, _ => simp [nodesTo]
  | 4, _ => exact Nat.le_refl _

set_option maxHeartbeats 1000000 in
theorem nodes_any : ∀ (t : Sq) (b o : Nat) (F : Nat → Prop) (w : World), SqAt w t b o F → b < w.heap.size → (∀ c, F c → c < w.heap.size) → t.nodes < 1000000000 →
    Calls Try.prog 34 #[.pointer (some ⟨b, o, none⟩)] w fun e w' => e = .returned (.int .i64 (t.nodes : Int)) ∧ Below w.heap.size w w'
  | .leaf v, b, o, F, w, h, hb, hF, hn => by
    obtain ⟨h1, h2, h3, h4, h5⟩ := h
    go_enter Try.func34, Try.ntmps34
    go_wp2
    go_ret
    refine ⟨rfl, ?_⟩
    repeat' (first | with_reducible assumption | with_reducible refine Below.setCell ?_ ?_ _ | with_reducible refine below_drewN ?_ _ | with_reducible refine Below.drew ?_ | with_reducible refine balloc ?_ _ | with_reducible exact Below.refl _ _ | with_reducible refine bstep ?_ (by assumption) | with_reducible refine Below.alloc ?_ ?_ _ | with_reducible refine bthrough ?_ (by assumption) ?_)
    all_goals (first | omega | (simp; done) | (simp; omega))
  | .node t0 t1 t2 t3, b, o, F, w, h, hb, hF, hn => by
    have ih : ∀ j, j < 4 → ∀ (b o : Nat) (F : Nat → Prop) (w : World), SqAt w (kidOf t0 t1 t2 t3 j) b o F → b < w.heap.size → (∀ c, F c → c < w.heap.size) → (kidOf t0 t1 t2 t3 j).nodes < 1000000000 →
        Calls Try.prog 34 #[.pointer (some ⟨b, o, none⟩)] w fun e w' => e = .returned (.int .i64 ((kidOf t0 t1 t2 t3 j).nodes : Int)) ∧ Below w.heap.size w w' := fun j hj =>
      match j, hj with
      | 0, _ => nodes_any t0
      | 1, _ => nodes_any t1
      | 2, _ => nodes_any t2
      | 3, _ => nodes_any t3
    obtain ⟨K, v, G, ⟨h1, h2, h3, h4⟩, hFK, hK, hd, hG, hk⟩ := h.kids
    have hGs : ∀ i c, i < 4 → G i c → c < w.heap.size := fun i c hi hg => hF c (hG i c hi hg).1
    have htot : nodesTo (fun j => (kidOf t0 t1 t2 t3 j).nodes) 4 = (Sq.node t0 t1 t2 t3).nodes := by simp [nodesTo, Sq.nodes, kidOf]
    generalize hT : (Sq.node t0 t1 t2 t3).nodes = T at *
    generalize kidOf t0 t1 t2 t3 = U at *
    clear h
    have hle : ∀ i, i ≤ 4 → nodesTo (fun j => (U j).nodes) i ≤ T := fun i hi => htot ▸ nodesTo_le hi
    go_enter Try.func34, Try.ntmps34
    go_wp2_with fail
    go_loopw [3, 10] (fun s3 s10 wr => ∃ i : Nat, i ≤ 4 ∧ s10 = .int .i64 (i : Int) ∧ s3 = .int .i64 ((nodesTo (fun j => (U j).nodes) i : Nat) : Int) ∧ Below w.heap.size w wr) (fun _ s10 _ => 4 - (intOf s10).toNat)
    case atStart => exact ⟨0, Nat.zero_le _, rfl, rfl, Below.refl _ _⟩
    case round =>
      obtain ⟨i, hi, rfl, rfl, hbr⟩ := hrel
      have g1 : wr.cell? ⟨b, o, none⟩ = some (.pointer (some ⟨K, 0, none⟩)) := ((bcell hbr).1 _ _ hb).trans h1
      have hsr := hbr.size
      by_cases hlt : i < 4
      · have hc := ih i hlt K (i * 2) (G i) wr ((hk i hlt).below hbr hK (fun c hc => hGs i c hlt hc)) (by omega) (fun c hc => Nat.lt_of_lt_of_le (hGs i c hlt hc) hsr) (by have := hle (i + 1) (by omega); simp only [nodesTo] at this; have h0 : 0 ≤ nodesTo (fun j => (U j).nodes) i := Nat.zero_le _; omega)
        have hle1 := hle (i + 1) (by omega)
        simp only [nodesTo] at hle1
        go_wp2_with fail
        refine hc.mono ?_
        rintro e w1 ⟨rfl, hb1⟩
        go_wp2_with fail
        go_roundw
        case rel => exact ⟨i + 1, by omega, by go_num, by simp only [nodesTo]; go_num, bthrough hbr hb1 hsr⟩
        case measure => simp [intOf]; omega
      · obtain rfl : i = 4 := by omega
        rw [htot]
        go_wp2
        go_ret
        exact ⟨rfl, hbr⟩
end Go.Proofs.Ytdpdkjpkehgdnaa
