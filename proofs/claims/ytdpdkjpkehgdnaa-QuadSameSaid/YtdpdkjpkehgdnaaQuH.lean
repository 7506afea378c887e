/-
  Package quad: the leaves that meet a rectangle are handed over in order, as far as it is asked: for every square.
-/
import Derived.RangeFuncNested
import Derived.RangeFuncBound
import Derived.RangeFuncCalls
import Derived.RangeFuncLeaves
import Derived.OwnWalkIn
import Derived.TacticsInMore
import Derived.LoopNIn
import Derived.LoopIn
import Derived.Shelf.Abstract
import Derived.Shelf.RegionOpen
import Derived.Stop.RegionWithIn
import Derived.Test.YtdpdkjpkehgdnaaQuF
import Derived.Test.YtdpdkjpkehgdnaaRangeG
namespace Go.Proofs.Ytdpdkjpkehgdnaa
open Go.RowKit Go.Shelf

attribute [local go_sem] Oper.semAt_some

theorem roundIn_wide {m n : Nat} {P : Program} {l : Nat} {f : FuncId} {tmps : Array Value} {assign body : Code} {w : World} {R : Ending → World → Prop} (h : RoundIn Fence.wide n P l f tmps assign body w R) : RoundIn Fence.wide m P l f tmps assign body w R :=
  ⟨trivial, fun c cs _ => h.2 c cs (room_wide _)⟩
theorem yieldAt_wide {m n : Nat} {P : Program} {l : Nat} {args : Array Value} {W : World} {R : Ending → World → Prop} (h : YieldAt Fence.wide n P l args W R) : YieldAt Fence.wide m P l args W R := by
  obtain ⟨fn, tmps, assign, body, h1, h2⟩ := h
  exact ⟨fn, tmps, assign, body, h1, roundIn_wide h2⟩

theorem abides_below {α : Type} {B : Nat} {J : α → World → Prop} (h : AbidesFrom B J) {s : α} {W W' : World} (hs : J s W) (hb : Below W.heap.size W W') : J s W' :=
  h s W W' none hs ⟨hb.os, hb.tape, hb.output, hb.size, fun k hk _ => hb.block k hk⟩ (fun r e => by cases e)

/-- a leaf: where, its side, its value -/
abbrev Lf := Int × Int × Int × Int
abbrev encL (p : Lf) : Array Value := #[.agg #[.int .i64 (p.1), .int .i64 (p.2.1), .int .i64 (p.2.2.1), .int .i64 (p.2.2.1)], .int .i64 p.2.2.2]

/-- the leaves of a square that meet a rectangle -/
def lvs : Nat → Int → Int → Int → Int → Int → Int → Sq → List Lf
  | k, x, y, rx, ry, rw, rh, .leaf v => if meetB x y (sd k) (sd k) rx ry rw rh = true then [(x, y, sd k, v)] else []
  | 0, _, _, _, _, _, _, .node .. => []
  | k + 1, x, y, rx, ry, rw, rh, .node a b c d => if meetB x y (sd (k + 1)) (sd (k + 1)) rx ry rw rh = true then
      lvs k (quX x (sd k) 0) (quY y (sd k) 0) rx ry rw rh a ++ lvs k (quX x (sd k) 1) (quY y (sd k) 1) rx ry rw rh b ++ lvs k (quX x (sd k) 2) (quY y (sd k) 2) rx ry rw rh c ++ lvs k (quX x (sd k) 3) (quY y (sd k) 3) rx ry rw rh d else []
def lvsTo (f : Nat → List Lf) : Nat → List Lf
  | 0 => []
  | i + 1 => lvsTo f i ++ f i
theorem lvs_no (k : Nat) (x y rx ry rw rh : Int) (t : Sq) (h : meetB x y (sd k) (sd k) rx ry rw rh = false) : lvs k x y rx ry rw rh t = [] := by
  cases t <;> cases k <;> simp [lvs, h]
theorem lvs_node (k : Nat) (x y rx ry rw rh : Int) (a b c d : Sq) (h : meetB x y (sd (k + 1)) (sd (k + 1)) rx ry rw rh = true) :
    lvs (k + 1) x y rx ry rw rh (.node a b c d) = lvsTo (fun i => lvs k (quX x (sd k) i) (quY y (sd k) i) rx ry rw rh (kidOf a b c d i)) 4 := by
  simp [lvs, h, lvsTo, kidOf]
theorem lvsTo_prefix {f : Nat → List Lf} {i j : Nat} (h : i ≤ j) : lvsTo f i <+: lvsTo f j := by
  obtain ⟨d, rfl⟩ := Nat.le.dest h
  clear h
  induction d with
  | zero => exact List.prefix_refl _
  | succ d ih => exact ih.trans (List.prefix_append _ _)

/-- what is handed over: the next of all -/
def nextG (all : List Lf) (pre : List Lf) (p : Lf) (_ : World) : Prop := pre ++ [p] <+: all

/-- what the body of a loop keeps: all that lies below V, and each block of cells from hi on -/
structure KpL (V : World) (hi : Nat) (W W' : World) : Prop where
  below : Below V.heap.size W W'
  cells : ∀ (c : Nat) (cur : Array Value) (e : TypeId) (fr : Nat × Nat), W.heap[c]? = some (Obj.cells cur e fr) → hi ≤ c → W'.heap[c]? = some (Obj.cells cur e fr)
theorem KpL.trans {V : World} {hi : Nat} {a b c : World} (h : KpL V hi a b) (k : KpL V hi b c) : KpL V hi a c :=
  ⟨h.below.trans k.below, fun x cur e fr h1 h2 => k.cells x cur e fr (h.cells x cur e fr h1 h2) h2⟩
theorem KpL.of_below {V : World} {hi : Nat} {W W' : World} (h : Below W.heap.size W W') (hV : V.heap.size ≤ W.heap.size) : KpL V hi W W' :=
  ⟨h.mono hV, fun c _ _ _ h1 _ => (h.block c (Array.getElem?_eq_some_iff.1 h1).1).trans h1⟩
theorem abides_step {B : Nat} {J : List Lf → World → Prop} (h : AbidesFrom B J) {s : List Lf} {W W' : World} (hs : J s W) (hb : Below W.heap.size W W') : J s W' :=
  h s W W' none hs ⟨hb.os, hb.tape, hb.output, hb.size, fun k hk _ => hb.block k hk⟩ (fun r e => by cases e)

/-- the contract of leaves at squares of side 2^k that lie in V -/
def LeavesOk (V : World) (hi : Nat) (l : Nat) (all : List Lf) (J Jx : List Lf → World → Prop) (k : Nat) (rx ry rw rh : Int) : Prop :=
  ∀ (t : Sq) (x y : Int) (b o : Nat) (F : Nat → Prop) (pre : List Lf) (W : World), SqAt V t b o F → b < V.heap.size → (∀ c, F c → c < V.heap.size) → Below V.heap.size V W → hi ≤ W.heap.size → t.fits k → rightB x y (sd k) (sd k) = true →
    J pre W → pre ++ lvs k x y rx ry rw rh t <+: all →
    Calls Try.prog 44 #[.pointer (some ⟨b, o, none⟩), .agg #[.int .i64 x, .int .i64 y, .int .i64 (sd k), .int .i64 (sd k)], .agg #[.int .i64 rx, .int .i64 ry, .int .i64 rw, .int .i64 rh], .func (.yield l) #[] #[]] W fun e W' =>
      ∃ r : Bool, e = .returned (.bool r) ∧ (r = true → KpL V hi W W' ∧ J (pre ++ lvs k x y rx ry rw rh t) W') ∧ (r = false → ∃ p, p <+: all ∧ Jx p W')

section
variable {V : World} {hi l : Nat} {all : List Lf} {J Jx : List Lf → World → Prop}

theorem leaves_no {B : Nat} (hJ : AbidesFrom B J) (k : Nat) (rx ry rw rh : Int) (t : Sq) (x y : Int) (b o : Nat) (pre : List Lf) (W : World) (hW : Below V.heap.size V W) (h0 : J pre W)
    (hm : meetB x y (sd k) (sd k) rx ry rw rh = false) :
    Calls Try.prog 44 #[.pointer (some ⟨b, o, none⟩), .agg #[.int .i64 x, .int .i64 y, .int .i64 (sd k), .int .i64 (sd k)], .agg #[.int .i64 rx, .int .i64 ry, .int .i64 rw, .int .i64 rh], .func (.yield l) #[] #[]] W fun e W' =>
      ∃ r : Bool, e = .returned (.bool r) ∧ (r = true → KpL V hi W W' ∧ J (pre ++ lvs k x y rx ry rw rh t) W') ∧ (r = false → ∃ p, p <+: all ∧ Jx p W') := by
  rw [lvs_no _ _ _ _ _ _ _ _ hm, List.append_nil]
  generalize sd k = s at *
  have hsz := hW.size
  suffices hs : Calls Try.prog 44 #[.pointer (some ⟨b, o, none⟩), .agg #[.int .i64 x, .int .i64 y, .int .i64 s, .int .i64 s], .agg #[.int .i64 rx, .int .i64 ry, .int .i64 rw, .int .i64 rh], .func (.yield l) #[] #[]] W fun e w' => e = .returned (.bool true) ∧ Below W.heap.size W w' from
    hs.mono fun e w' ⟨h1, h2⟩ => ⟨true, h1, fun _ => ⟨KpL.of_below h2 hsz, abides_step hJ h0 h2⟩, fun h => by cases h⟩
  clear h0
  go_enter Try.func44, Try.ntmps44
  go_wp2_with fail
  refine (meets_any _ _ _ _ _ _ _ _ _).mono ?_
  rintro e w1 ⟨rfl, hbw1⟩
  obtain ⟨hcw1, hfw1⟩ := bcell hbw1
  have hsw1 := hbw1.size
  try simp at hcw1 hfw1 hsw1
  have lw1_0 : W.heap.size < w1.heap.size := by omega
  have lw1_1 : W.heap.size + 1 < w1.heap.size := by omega
  rw [hm]
  go_wp2
  go_ret
  refine ⟨rfl, ?_⟩
  repeat' (first | with_reducible assumption | with_reducible refine Below.setCell ?_ ?_ _ | with_reducible refine below_drewN ?_ _ | with_reducible refine Below.drew ?_ | with_reducible refine balloc ?_ _ | with_reducible exact Below.refl _ _ | with_reducible refine bstep ?_ (by assumption) | with_reducible refine Below.alloc ?_ ?_ _ | with_reducible refine bthrough ?_ (by assumption) ?_)
  all_goals (first | omega | (simp; done) | (simp; omega))

set_option maxHeartbeats 1000000 in
theorem leaves_leaf {B : Nat} (hJ : AbidesFrom B J)
    (hY : ∀ pre p W1, J pre W1 → pre ++ [p] <+: all → ∀ m, YieldAt Fence.wide m Try.prog l (encL p) W1 fun e W' => ∃ r : Bool, e = .returned (.bool r) ∧ (r = true → KpL V hi W1 W' ∧ J (pre ++ [p]) W') ∧ (r = false → Jx (pre ++ [p]) W'))
    (k : Nat) (rx ry rw rh : Int) (v : Int) (x y : Int) (b o : Nat) (F : Nat → Prop) (pre : List Lf) (W : World) (h : SqAt V (.leaf v) b o F) (hb : b < V.heap.size) (hW : Below V.heap.size V W) (h0 : J pre W)
    (hm : meetB x y (sd k) (sd k) rx ry rw rh = true) (hp : pre ++ lvs k x y rx ry rw rh (.leaf v) <+: all) :
    Calls Try.prog 44 #[.pointer (some ⟨b, o, none⟩), .agg #[.int .i64 x, .int .i64 y, .int .i64 (sd k), .int .i64 (sd k)], .agg #[.int .i64 rx, .int .i64 ry, .int .i64 rw, .int .i64 rh], .func (.yield l) #[] #[]] W fun e W' =>
      ∃ r : Bool, e = .returned (.bool r) ∧ (r = true → KpL V hi W W' ∧ J (pre ++ lvs k x y rx ry rw rh (.leaf v)) W') ∧ (r = false → ∃ p, p <+: all ∧ Jx p W') := by
  have hl : lvs k x y rx ry rw rh (.leaf v) = [(x, y, sd k, v)] := by simp [lvs, hm]
  rw [hl] at hp ⊢
  clear hl
  generalize sd k = s at *
  have hsz := hW.size
  obtain ⟨h1, h2, h3, h4, hv⟩ := h
  have g1 : W.cell? ⟨b, o, none⟩ = some (.pointer none) := (hW.cell (p := ⟨b, o, none⟩) hb).trans h1
  have g2 : W.cell? ⟨b, o + 1, none⟩ = some (.int .u8 v) := (hW.cell (p := ⟨b, o + 1, none⟩) hb).trans h2
  have hvv : IntKind.i64.wrap v = v := IntWalk.i64_in _ (by omega)
  clear h1 h2 h3 h4
  refine (callsIn_wide (n := 9)).1 ?_
  refine callsIn_of_wp Try.func44 rfl trivial ?_ rfl
  simp only [Try.ntmps44, List.size_toArray, List.length_cons, List.length_nil, Nat.reduceAdd, Nat.reduceSub, Array.replicate_succ, Array.replicate_zero, List.push_toArray, List.append_toArray, List.nil_append, List.cons_append]
  gi_wp2_with fail
  refine ⟨trivial, (callsIn_wide.2 (meets_any _ _ _ _ _ _ _ _ _)).mono ?_⟩
  rintro e w1 ⟨rfl, hb1⟩
  rw [hm]
  have hbW : Below W.heap.size W w1 := bstep (balloc (balloc (Below.refl _ _) _) _) hb1
  have hJ1 : J pre w1 := abides_step hJ h0 hbW
  obtain ⟨hcw1, hfw1⟩ := bcell hb1
  have hsw1 := hb1.size
  simp at hcw1 hfw1 hsw1
  have l0 : W.heap.size < w1.heap.size := by omega
  have l1 : b < W.heap.size := by omega
  have k1 : w1.cell? ⟨b, o, none⟩ = some (.pointer none) := by rw [hcw1 _ _ (by omega)]; simpa [go_sem, l1] using g1
  have k2 : w1.cell? ⟨b, o + 1, none⟩ = some (.int .u8 v) := by rw [hcw1 _ _ (by omega)]; simpa [go_sem, l1] using g2
  gi_wp2_with fail
  have hbd : Below W.heap.size W w1.drew := hbW.drew
  have hJd : J pre w1.drew := abides_step hJ h0 hbd
  obtain ⟨fn, tmps, assign, body, hy, hR⟩ := hY pre (x, y, s, v) w1.drew hJd hp 8
  dsimp only [encL] at hy
  gi_region_with (refine (roundIn_wide hR).mono ?_; rintro e W3 ⟨r, rfl, hp3⟩)
  all_goals simp [Act.put]
  all_goals gi_wp2
  all_goals refine bodyPost_ret (results_tmp rfl _ _ _) rfl ?_
  all_goals exact ⟨r, rfl, fun h => ⟨(KpL.of_below hbd hsz).trans (hp3.1 h).1, (hp3.1 h).2⟩, fun h => ⟨_, hp, hp3.2 h⟩⟩
end
end Go.Proofs.Ytdpdkjpkehgdnaa
