/-
  A region that draws its order and whose operations only read, inside the round of a range over a function: one walk in the text's order serves every order. (The library's law asks a fence without a round; here it is shown where no operation is a defer statement.)
-/
import Derived.Sort.BigQuietIn
import Derived.OwnWalkIn
import Derived.Test.YtdpdkjpkehgdnaaBase
namespace Go.Proofs.Ytdpdkjpkehgdnaa
open Go.RowKit Go

section
variable {F : Fence} {n : Nat} {P : Program} {ops : Array Oper} {md : Region.Mode} {C : World → Prop}

def noDefer (o : Oper) : Bool := match o.op with
  | .defer _ => false
  | _ => true
theorem noDefer_spec {o : Oper} (h : noDefer o = true) : ∀ c, o.op ≠ .defer c := by
  intro c e
  simp [noDefer, e] at h

theorem quiet_op_round {o : Oper} {a : Act} {K : Act → Prop} {K' : Act → World → Prop} {Q' : Exit → Act → World → Prop} {w : World} (hd : noDefer o = true) (hw : C w) (h : ∀ a w', C w' → K a → K' a w')
    (ha : o.askedIn F P a C) (hh : o.quietIn F n P a C K) : o.wpIn F n P a w K' Q' := by
  obtain ⟨v, h1, h2⟩ := hh
  have h3 := h1 w hw
  unfold Oper.quietAtIn at h3
  unfold Oper.wpIn
  refine ⟨ha w hw, ?_⟩
  rw [Oper.semAt_plain F a.eval o (noDefer_spec hd)]
  revert h3
  generalize (execOp a.eval o).run P w = r
  intro h3
  cases r with
  | halt x w' => simp only [Oper.quietUponIn] at h3
  | ok x w' =>
    cases x with
    | value u =>
      obtain ⟨e1, e2⟩ := h3
      subst e1 e2
      exact h _ _ hw h2
    | skip =>
      obtain ⟨e1, e2⟩ := h3
      subst e1 e2
      exact h _ _ hw h2
    | enter f args =>
      obtain ⟨e1, hdp, hc⟩ := h3
      subst e1
      exact ⟨hdp, hc.mono fun e w'' ⟨he, hw''⟩ => by subst he; exact h _ _ hw'' h2⟩
    | _ => simp only [Oper.quietUponIn] at h3

theorem quiet_any_round {Q : Act → Prop} {Q' : Exit → Act → World → Prop} (hd : ∀ (i : Nat) (o : Oper), ops[i]? = some o → noDefer o = true) (hQ : ∀ a w, C w → Q a → Q' .normal a w) :
    ∀ (fuel : Nat) (listed : Array Bool) (a : Act) (w : World), C w → wpAnyQIn F n P md ops C Q fuel listed a → wpAnyIn F n P md ops Q' fuel listed a w
  | 0, _, _, _, hw, h => ⟨h.1, hQ _ _ hw h.2⟩
  | fuel + 1, listed, a, w, hw, h => by
    refine ⟨fun h0 => hQ _ _ hw (h.1 h0), fun i hi => ?_⟩
    have hh := h.2 i hi
    have hrec : ∀ a' w', C w' → wpAnyQIn F n P md ops C Q fuel (listed.setIfInBounds i true) a' → wpAnyIn F n P md ops Q' fuel (listed.setIfInBounds i true) a' w' := fun a' w' hw' => quiet_any_round hd hQ fuel _ a' w' hw'
    unfold qOpIn at hh
    unfold wpOpIn
    split
    · rename_i ho
      simp only [ho] at hh
      exact hrec _ _ hw hh
    · rename_i o ho
      simp only [ho] at hh
      obtain ⟨ha, hh⟩ := hh
      split
      · rename_i hwt
        simp only [hwt, if_true] at hh
        exact quiet_op_round (hd i o ho) hw hrec ha hh
      · rename_i hwt
        simp only [hwt] at hh
        exact ⟨ha w hw, hrec _ _ hw hh⟩

theorem region_quiet_round {id : Nat} {Q : Exit → Act → World → Prop} {a : Act} {w : World} {l : List Oper} (hd : l.all noDefer = true) (hm : P.follows .mixedOrders = true) (hB : Region.lexB .any l.toArray = true)
    (h : wpQuietIn F n P l.toArray (fun w' => ∃ n, w' = w.drewN n) (fun a' => ∀ w', (∃ n, w' = w.drewN n) → Q .normal a' w') l a) : (Code.region id l.toArray true).wpIn F n P Q a w := by
  have hd' : ∀ (i : Nat) (o : Oper), l.toArray[i]? = some o → noDefer o = true := fun i o ho => by
    rw [List.all_eq_true] at hd
    exact hd o (List.mem_of_getElem? (by simpa using ho))
  simp only [Region.lexB, Bool.and_eq_true] at hB
  refine wpIn_region_any hm (quiet_any_round (C := fun w' => ∃ n, w' = w.drewN n) (Q := fun a' => ∀ w', (∃ n, w' = w.drewN n) → Q .normal a' w') hd' (fun _ w' hw' h => h w' hw') _ _ _ _ ⟨1, rfl⟩ ?_)
  have := wpAnyQIn_lex (F := F) (n := n) (C := fun w' => ∃ n, w' = w.drewN n) (md := .any) hB.1 l 0 (Array.replicate l.toArray.size false) a (by simp) (by simpa using hB.2) h
  simpa using this
end
end Go.Proofs.Ytdpdkjpkehgdnaa
