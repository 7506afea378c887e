/-
  A range over a function whose iterator says of each element, in the world in which it is handed over, what the body may lean on ('G'). The library's law asks the body for every element, whatever it is; here it is asked only for those of which G holds. No condition.
-/
import Derived.RangeFuncWrites
import Derived.Test.YtdpdkjpkehgdnaaBase
namespace Go.Proofs.Ytdpdkjpkehgdnaa
open Go.RowKit Go

section
variable {F : Fence} {n : Nat} {P : Program}

/-- an iterator's contract: each element is handed over with G -/
def SeqHands {α : Type} (F : Fence) (n : Nat) (P : Program) (g : Nat) (lb : Array Value) (encs : α → Array Value) (G : List α → α → World → Prop) (Kp : World → World → Prop) (S Sp : List α → Prop) (N : Nat) (w : World) : Prop :=
  ∀ (l : Nat) (J Jx : List α → World → Prop) (W : World), Below w.heap.size w W → AbidesFrom W.heap.size J → AbidesFrom W.heap.size Jx →
    (∀ pre x W1, J pre W1 → pre.length < N → G pre x W1 → YieldAt F (n - 1) P l (encs x) W1 fun e W' =>
      (e = .returned (.bool true) ∧ J (pre ++ [x]) W' ∧ Kp W1 W') ∨ (e = .returned (.bool false) ∧ Jx (pre ++ [x]) W')) →
    J [] W →
    CallsIn F n P g (#[.func (.yield l) #[] #[]] ++ lb) W fun e W' => (∃ v, e = .returned v) ∧ ((∃ xs, S xs ∧ J xs W') ∨ (∃ pre, Sp pre ∧ Jx pre W'))

theorem SeqHands.stops {α : Type} {g : Nat} {lb : Array Value} {encs : α → Array Value} {G : List α → α → World → Prop} {Kp : World → World → Prop} {S Sp : List α → Prop} {N : Nat} {w : World}
    (h : SeqHands F n P g lb encs G Kp S Sp N w) : SeqStopsK F n P g lb encs Kp S Sp N w := fun l J Jx W hW hJ hJx hY h0 => h l J Jx W hW hJ hJx (fun pre x W1 hj hl _ => hY pre x W1 hj hl) h0

/-- the two blocks that the loop lays for itself -/
def books (rec : Loop) (B : Nat) (W : World) : Prop := W.heap[B + 1]? = some (.loop rec) ∧ W.heap[B]? = some (.deferred (some []))
theorem books.kept {rec : Loop} {B : Nat} {W W' : World} {row : Option Nat} (h : books rec B W) (hg : W.grownBy W' row) (hr : ∀ r, row = some r → ∃ o : Obj, W.heap[r]? = some o ∧ o.isWalk = true) : books rec B W' :=
  ⟨(grownBy_keeps hg hr h.1 rfl).trans h.1, (grownBy_keeps hg hr h.2 rfl).trans h.2⟩
theorem books.put {rec rec' : Loop} {B : Nat} {W : World} (h : books rec B W) : books rec' B (W.putObj (B + 1) (.loop rec')) :=
  ⟨World.putObj_heap_same (Array.getElem?_eq_some_iff.1 h.1).1, (World.putObj_heap_other (by omega)).trans h.2⟩
theorem books.stay {rec : Loop} {B : Nat} {W W' : World} (h : books rec B W) (hk : KeepsFrom B W W') : books rec B W' :=
  ⟨hk.same _ _ (Nat.le_succ B) h.1 rfl, hk.same _ _ (Nat.le_refl B) h.2 rfl⟩

theorem wpIn_rangeFunc_given {α : Type} {g : Operand} {ps : Array Tmp} {assign body : Code} {Q : Exit → Act → World → Prop} {a : Act} {w : World}
    (hro : F.round = none) (h1 : 1 ≤ n) {gf : Nat} {lb : Array Value} (hg : a.eval g = .func (.func gf) #[] lb) (hFg : F.fn gf) (eg : ∀ args w, (callFunc gf args).run P w = .ok (.enter gf args) w)
    {encs : α → Array Value} {G : List α → α → World → Prop} {Kp : World → World → Prop} {S Sp : List α → Prop} {N : Nat} {w0 : World} (hseq : SeqHands F (n - 1) P gf lb encs G Kp S Sp N w0)
    (hKt : ∀ {A B C : World}, Kp A B → Kp B C → Kp A C) (hKb : ∀ (W : World) (l : Nat) (o o' : Obj), w.heap.size ≤ l → W.heap[l]? = some o → o.isCells = false → o.isWalk = false → Kp W (W.putObj l o')) (hb0 : Below w0.heap.size w0 w) (hps : ∀ x, (encs x).size = ps.size)
    (I : List α → World → Prop) (Ix : Code → List α → World → Prop) (hI : OwnFrom w.heap.size I) (hIx : ∀ c, OwnFrom w.heap.size (Ix c)) (hG : ∀ pre, OwnFrom w.heap.size (G pre)) (h0 : I [] w) (a₁ : α → Act)
    (hassign : ∀ (l : Nat) (x : α) (W : World) (K : Act → World → Prop), K (a₁ x) W →
      assign.wpIn (F.inRound l) (n - 1 - 1) P (Exit.then K (fun _ _ _ => False)) { tmps := (ps.zip (encs x)).foldl (fun t (p, v) => t.setIfInBounds p v) a.tmps, defers := [] } W)
    (hbody : ∀ (l : Nat) (pre : List α) (x : α) (W : World), I pre W → pre.length < N → G pre x W → body.wpIn (F.inRound l) (n - 1 - 1) P (ownPostG w.heap.size Kp I Ix (pre ++ [x]) W) (a₁ x) W)
    (hdone : ∀ (D : Nat) (xs : List α) (W : World), w.heap.size ≤ D → S xs → I xs W → W.heap[D]? = some (.deferred (some [])) → Q .normal { a with defers := { target := .collected D, args := #[] } :: a.defers } W)
    (hstop : ∀ (D : Nat) (c : Code) (pre : List α) (W : World), w.heap.size ≤ D → Sp pre → Ix c pre W → W.heap[D]? = some (.deferred (some [])) → c.wpIn F n P Q { a with defers := { target := .collected D, args := #[] } :: a.defers } W) :
    (Code.rangeFunc g ps assign body).wpIn F n P Q a w := by
  refine wpIn_rangeFunc fun fn hfn => ?_
  rw [hro]
  generalize hB : w.heap.size = B at *
  let rec0 : LoopState → Option Code → Loop := fun st pe => { state := st, pending := pe, fn, tmps := a.tmps, params := ps, assign, body, defers := B }
  have hs1 : (w.alloc (.deferred (some []))).heap.size = B + 1 := by simp [hB]
  have hbk : books (rec0 .ready none) B ((w.alloc (.deferred (some []))).alloc (.loop (rec0 .ready none))) := by
    constructor
    · rw [← hs1]; exact World.alloc_heap_new _ _
    · rw [← hB]; exact (Below.heap_alloc _ _ _ (by simp)).trans (World.alloc_heap_new w _)
  have hin : I [] ((w.alloc (.deferred (some []))).alloc (.loop (rec0 .ready none))) := hI.alloc _ (hI.alloc _ h0)
  have hbl : Below w0.heap.size w0 ((w.alloc (.deferred (some []))).alloc (.loop (rec0 .ready none))) :=
    (hb0.alloc (by have := hb0.size; omega) _).alloc (by have := hb0.size; omega) _
  have henter : (Instr.enterLoop fn a.tmps ps assign body none).run P w = .ok (B + 1, [{ target := .collected B, args := #[] }]) ((w.alloc (.deferred (some []))).alloc (.loop (rec0 .ready none))) := by
    have := run_enterLoop_outer (P := P) (w := w) fn a.tmps ps assign body
    rw [hB] at this
    exact this
  have hs2 : ((w.alloc (.deferred (some []))).alloc (.loop (rec0 .ready none))).heap.size = B + 2 := by simp [hB]
  generalize (w.alloc (.deferred (some []))).alloc (.loop (rec0 .ready none)) = W1 at hbk hin hbl henter hs2
  refine ⟨B + 1, [{ target := .collected B, args := #[] }], W1, { target := .fn (.func gf) lb, args := #[.func (.yield (B + 1)) #[] #[]] }, W1, gf, #[.func (.yield (B + 1)) #[] #[]] ++ lb, W1, henter, ?_, ?_, ?_, fun _ => h1, ?_⟩
  · simp only [resolve, hg]
    simp [go_sem]
  · intro f' hf'
    simp [Target.leads] at hf'
    subst hf'
    exact hFg
  · simp [invoke, go_sem, eg]
  · have walks : ∀ {A : World} {row : Option Nat}, (∀ r, row = some r → W1.heap.size ≤ r ∧ ∃ o : Obj, A.heap[r]? = some o ∧ o.isWalk = true) → (∀ r, row = some r → B ≤ r ∧ ∃ o : Obj, A.heap[r]? = some o ∧ o.isCells = false) := fun hr r e => by
      obtain ⟨h2, o, ho, hw⟩ := hr r e
      exact ⟨by omega, o, ho, Obj.not_cells_of_walk hw⟩
    refine (hseq (B + 1) (fun pre W => I pre W ∧ books (rec0 .ready none) B W) (fun pre W => ∃ c, Ix c pre W ∧ books (rec0 .done (some c)) B W) W1 hbl
      (fun s X Y row hs hgr hr => ⟨hI s X Y row hs.1 hgr (walks hr), hs.2.kept hgr fun r e => (hr r e).2⟩)
      (fun s X Y row hs hgr hr => hs.elim fun c hc => ⟨c, hIx c s X Y row hc.1 hgr (walks hr), hc.2.kept hgr fun r e => (hr r e).2⟩) ?_ ⟨hin, hbk⟩).mono ?_
    · rintro pre x W ⟨hi, hk⟩ hlen hgx
      refine ⟨fn, _, assign, body, run_yield (P := P) (args := encs x) hk.1 (hps x), roundIn_of_wpIn hfn (hassign _ x W _ ⟨_, run_beginRound hk.1 rfl, ?_⟩)⟩
      have hkb := hk.put (rec' := rec0 .busy none)
      have hKp0 : Kp W (W.putObj (B + 1) (.loop (rec0 .busy none))) := hKb _ _ _ _ (by omega) hk.1 rfl rfl
      have hi0 := hI.putObj (.loop (rec0 .busy none)) hi (Nat.le_succ B) hk.1 rfl
      have hg0 := (hG pre).putObj (.loop (rec0 .busy none)) hgx (Nat.le_succ B) hk.1 rfl
      refine wpIn_mono (hbody _ pre x _ hi0 hlen hg0) ?_
      intro e a3 W3 hp
      cases e with
      | normal =>
        have hk3 := hkb.stay hp.1
        exact ⟨_, _, run_endRound (P := P) none hk3.1, .inl ⟨rfl, ⟨hI.putObj _ hp.2.2 (Nat.le_succ B) hk3.1 rfl, hk3.put⟩, hKt (hKt hKp0 hp.2.1) (hKb _ _ _ _ (by omega) hk3.1 rfl rfl)⟩⟩
      | ret =>
        have hk3 := hkb.stay hp.1
        exact ⟨_, _, run_endRound (P := P) (some .ret) hk3.1, .inr ⟨rfl, .ret, (hIx _).putObj _ hp.2 (Nat.le_succ B) hk3.1 rfl, hk3.put⟩⟩
      | exit id =>
        have hk3 := hkb.stay hp.1
        exact ⟨_, _, run_endRound (P := P) (some (.exit id)) hk3.1, .inr ⟨rfl, .exit id, (hIx _).putObj _ hp.2 (Nat.le_succ B) hk3.1 rfl, hk3.put⟩⟩
      | goto t =>
        have hk3 := hkb.stay hp.1
        exact ⟨_, _, run_endRound (P := P) (some (.goto t)) hk3.1, .inr ⟨rfl, .goto t, (hIx _).putObj _ hp.2 (Nat.le_succ B) hk3.1 rfl, hk3.put⟩⟩
      | panic ch => exact hp.elim
      | outgrown => exact hp.elim
    · rintro e W2 ⟨⟨v, rfl⟩, (⟨xs, hS, hi, hk⟩ | ⟨pre, hSp, c, hi, hk⟩)⟩
      · exact ⟨none, _, run_endLoop (P := P) hk.1 (by simp [rec0]), hdone _ xs _ (Nat.le_refl _) hS (hI.putObj _ hi (Nat.le_succ B) hk.1 rfl) ((World.putObj_heap_other (by omega)).trans hk.2)⟩
      · exact ⟨some c, _, run_endLoop (P := P) hk.1 (by simp [rec0]), hstop _ c pre _ (Nat.le_refl _) hSp ((hIx c).putObj _ hi (Nat.le_succ B) hk.1 rfl) ((World.putObj_heap_other (by omega)).trans hk.2)⟩
end
end Go.Proofs.Ytdpdkjpkehgdnaa
