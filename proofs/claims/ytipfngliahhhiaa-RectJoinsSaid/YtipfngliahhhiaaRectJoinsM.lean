/-
  Steps of a list of operations on a frame of which some slots alone are known; one operation each: what it yields. No condition.
-/
import Derived.Test.YtipfngliahhhiaaBase
namespace Go.Proofs.Ytipfngliahhhiaa
open Go.RowKit

structure Out (lo hi : Nat) (a0 a : Act) : Prop where
  room : hi ≤ a0.tmps.size
  size : a.tmps.size = a0.tmps.size
  defers : a.defers = a0.defers
  same : ∀ k, (k < lo ∨ hi ≤ k) → a.tmps[k]? = a0.tmps[k]?
theorem Out.refl {lo hi : Nat} {a : Act} (h : hi ≤ a.tmps.size) : Out lo hi a a := ⟨h, rfl, rfl, fun _ _ => rfl⟩
theorem Out.at {lo hi k : Nat} {a0 a : Act} {v : Value} (O : Out lo hi a0 a) (hk : k < lo ∨ hi ≤ k) (e : a0.tmps[k]? = some v) : a.tmps[k]? = some v := (O.same k hk).trans e

theorem put_same {a : Act} {d : Nat} {v : Value} (h : d < a.tmps.size) : (a.put (some d) v).tmps[d]? = some v := by
  simp [Act.put, h]
theorem put_else {a : Act} {d k : Nat} {v : Value} (h : k ≠ d) : (a.put (some d) v).tmps[k]? = a.tmps[k]? := by
  simp [Act.put, Array.getElem?_setIfInBounds, Ne.symm h]
theorem Out.put {lo hi d : Nat} {a0 a : Act} {v : Value} (O : Out lo hi a0 a) (h : lo ≤ d ∧ d < hi) : Out lo hi a0 (a.put (some d) v) :=
  ⟨O.room, by simp [Act.put, O.size], by simp [Act.put, O.defers], fun k hk => (put_else (by omega)).trans (O.same k hk)⟩

theorem ev {a : Act} {k : Nat} {v : Value} (e : a.tmps[k]? = some v) : a.eval (.tmp k) = v := by
  simp [Act.eval, Array.getD_eq_getD_getElem?, e]

section
variable {P : Program} {ops : Array Oper} {Q : Exit → Act → World → Prop} {o : Oper} {rest : List Oper} {a a0 : Act} {w : World} {v : Value} {lo hi d : Nat}
theorem wn0 {y : Nat → Option Bool} (h : o.guard = none) : Region.wanted o y = true := by
  simp [Region.wanted, h]
theorem wn1 {j s : Nat} {b c r : Bool} (hg : o.guard = some (j, b)) (hj : (ops[j]?).bind (·.dst) = some s) (ht : a.tmps[s]? = some (.bool c)) (hr : (c == b) = r) : Region.wanted o (yielded ops a.tmps) = r := by
  subst hr
  simp only [Region.wanted, hg, yielded, hj, Option.bind_some, ht]
  cases b <;> cases c <;> rfl
theorem stp (O : Out lo hi a0 a) (hw : Region.wanted o (yielded ops a.tmps) = true) (hd : o.dst = some d) (hb : lo ≤ d ∧ d < hi) (hx : (execOp a.eval o).run P w = .ok (.value v) w)
    (h : ∀ a', Out lo hi a0 a' → (∀ k, k ≠ d → a'.tmps[k]? = a.tmps[k]?) → a'.tmps[d]? = some v → wpList P ops Q rest a' w) : wpList P ops Q (o::rest) a w :=
  wpList_step fun K hK => by
    rw [if_pos hw]
    unfold Oper.wp
    rw [hx, Oper.upon_value, hd]
    exact hK _ _ (h _ (O.put hb) (fun _ hk => put_else hk) (put_same (Nat.lt_of_lt_of_le (Nat.lt_of_lt_of_le hb.2 O.room) (Nat.le_of_eq O.size.symm))))
theorem skp (O : Out lo hi a0 a) (hw : Region.wanted o (yielded ops a.tmps) = false) (hd : o.dst = some d) (hb : lo ≤ d ∧ d < hi)
    (h : ∀ a', Out lo hi a0 a' → (∀ k, k ≠ d → a'.tmps[k]? = a.tmps[k]?) → wpList P ops Q rest a' w) : wpList P ops Q (o::rest) a w :=
  wpList_step fun K hK => by
    rw [if_neg (by simp [hw]), hd]
    exact hK _ _ (h _ (O.put hb) (fun _ hk => put_else hk))
end

section
variable {ρ : Operand → Value} {x y z : Operand} {dst : Option Tmp} {ty : TypeId} {pos : String} {af : Array Edge} {gd : Option (Nat × Bool)} {w : World} {b : Nat} {v : Value}
theorem jfa0 (h : ρ x = .pointer (some ⟨b, 0, none⟩)) : (execOp ρ ⟨dst, .fieldAddr 23 x 0, ty, pos, af, gd⟩).run Try.prog w = .ok (.value (.pointer (some ⟨b, 0, none⟩))) w := by
  go_simp
theorem jfa1 (h : ρ x = .pointer (some ⟨b, 0, none⟩)) : (execOp ρ ⟨dst, .fieldAddr 23 x 1, ty, pos, af, gd⟩).run Try.prog w = .ok (.value (.pointer (some ⟨b, 1, none⟩))) w := by
  go_simp
theorem jfa2 (h : ρ x = .pointer (some ⟨b, 0, none⟩)) : (execOp ρ ⟨dst, .fieldAddr 23 x 2, ty, pos, af, gd⟩).run Try.prog w = .ok (.value (.pointer (some ⟨b, 2, none⟩))) w := by
  go_simp
theorem jfa3 (h : ρ x = .pointer (some ⟨b, 0, none⟩)) : (execOp ρ ⟨dst, .fieldAddr 23 x 3, ty, pos, af, gd⟩).run Try.prog w = .ok (.value (.pointer (some ⟨b, 3, none⟩))) w := by
  go_simp
theorem jld {i : Nat} {n : Int} (h : ρ x = .pointer (some ⟨b, i, none⟩)) (hc : w.cell? ⟨b, i, none⟩ = some (.int .i64 n)) : (execOp ρ ⟨dst, .load 3 x, ty, pos, af, gd⟩).run Try.prog w = .ok (.value (.int .i64 n)) w := by
  go_simp
theorem jeq {m n : Int} {r : Bool} (h : ρ x = .int .i64 m) (h' : ρ y = .int .i64 n) (hr : (m == n) = r) : (execOp ρ ⟨dst, .binOp .eql 3 x y 3, ty, pos, af, gd⟩).run Try.prog w = .ok (.value (.bool r)) w := by
  subst hr
  go_simp
theorem jad {m n s : Int} (h : ρ x = .int .i64 m) (h' : ρ y = .int .i64 n) (hs : IntKind.i64.wrap (m + n) = s) : (execOp ρ ⟨dst, .binOp .add 3 x y 3, ty, pos, af, gd⟩).run Try.prog w = .ok (.value (.int .i64 s)) w := by
  subst hs
  go_simp
theorem jmv (h : ρ x = v) : (execOp ρ ⟨dst, .move x, ty, pos, af, gd⟩).run Try.prog w = .ok (.value v) w := by
  subst h
  rfl
theorem jas (h : ρ x = v) : (execOp ρ ⟨dst, .assign x, ty, pos, af, gd⟩).run Try.prog w = .ok (.value v) w := by
  subst h
  rfl
theorem jpt (h : ρ x = .bool true) (h' : ρ y = v) : (execOp ρ ⟨dst, .pick x y z, ty, pos, af, gd⟩).run Try.prog w = .ok (.value v) w := by
  subst h'
  go_simp
theorem jpf (h : ρ x = .bool false) (h' : ρ z = v) : (execOp ρ ⟨dst, .pick x y z, ty, pos, af, gd⟩).run Try.prog w = .ok (.value v) w := by
  subst h'
  go_simp
end

theorem cutT0 {P : Program} {ops : Array Oper} {Q : Exit → Act → World → Prop} {o0 o1 o2 o3 o4 o5 o6 o7 o8 o9 o10 o11 o12 : Oper} {rest : List Oper} {a a0 : Act} {w : World} (g : (∀ a, Out 94 172 a0 a → a.tmps[106]? = some (.bool true) → wpList P ops Q rest a w) → wpList P ops Q (o0::o1::o2::o3::o4::o5::o6::o7::o8::o9::o10::o11::o12::rest) a w) (h : (∀ a, Out 94 172 a0 a → a.tmps[106]? = some (.bool true) → wpList P ops Q rest a w)) : wpList P ops Q (o0::o1::o2::o3::o4::o5::o6::o7::o8::o9::o10::o11::o12::rest) a w := g h
theorem cutT1 {P : Program} {ops : Array Oper} {Q : Exit → Act → World → Prop} {o0 o1 o2 o3 o4 o5 o6 o7 o8 o9 o10 o11 o12 o13 : Oper} {rest : List Oper} {a a0 : Act} {w : World} (g : (∀ a, Out 94 172 a0 a → a.tmps[120]? = some (.bool true) → wpList P ops Q rest a w) → wpList P ops Q (o0::o1::o2::o3::o4::o5::o6::o7::o8::o9::o10::o11::o12::o13::rest) a w) (h : (∀ a, Out 94 172 a0 a → a.tmps[120]? = some (.bool true) → wpList P ops Q rest a w)) : wpList P ops Q (o0::o1::o2::o3::o4::o5::o6::o7::o8::o9::o10::o11::o12::o13::rest) a w := g h
theorem cutT2 {P : Program} {ops : Array Oper} {Q : Exit → Act → World → Prop} {o0 o1 o2 o3 o4 o5 o6 o7 o8 o9 o10 o11 o12 o13 o14 o15 o16 o17 o18 o19 o20 o21 o22 o23 o24 o25 : Oper} {rest : List Oper} {a a0 : Act} {w : World} (g : (∀ a, Out 94 172 a0 a → a.tmps[146]? = some (.bool true) → wpList P ops Q rest a w) → wpList P ops Q (o0::o1::o2::o3::o4::o5::o6::o7::o8::o9::o10::o11::o12::o13::o14::o15::o16::o17::o18::o19::o20::o21::o22::o23::o24::o25::rest) a w) (h : (∀ a, Out 94 172 a0 a → a.tmps[146]? = some (.bool true) → wpList P ops Q rest a w)) : wpList P ops Q (o0::o1::o2::o3::o4::o5::o6::o7::o8::o9::o10::o11::o12::o13::o14::o15::o16::o17::o18::o19::o20::o21::o22::o23::o24::o25::rest) a w := g h
theorem cutT3 {P : Program} {ops : Array Oper} {Q : Exit → Act → World → Prop} {o0 o1 o2 o3 o4 o5 o6 o7 o8 o9 o10 o11 o12 o13 o14 o15 o16 o17 o18 o19 o20 o21 o22 o23 o24 : Oper} {rest : List Oper} {a a0 : Act} {w : World} (g : (∀ a, Out 94 172 a0 a → a.tmps[171]? = some (.bool true) → wpList P ops Q rest a w) → wpList P ops Q (o0::o1::o2::o3::o4::o5::o6::o7::o8::o9::o10::o11::o12::o13::o14::o15::o16::o17::o18::o19::o20::o21::o22::o23::o24::rest) a w) (h : (∀ a, Out 94 172 a0 a → a.tmps[171]? = some (.bool true) → wpList P ops Q rest a w)) : wpList P ops Q (o0::o1::o2::o3::o4::o5::o6::o7::o8::o9::o10::o11::o12::o13::o14::o15::o16::o17::o18::o19::o20::o21::o22::o23::o24::rest) a w := g h

theorem jabs {P : Program} {ops : Array Oper} {Q : Exit → Act → World → Prop} {o0 o1 o2 o3 o4 o5 o6 o7 o8 o9 o10 o11 o12 o13 o14 o15 o16 o17 o18 o19 o20 o21 o22 o23 o24 o25 o26 o27 o28 o29 o30 o31 o32 o33 o34 o35 o36 o37 o38 o39 o40 o41 o42 o43 o44 o45 o46 o47 o48 o49 o50 o51 o52 o53 o54 o55 o56 o57 o58 o59 o60 o61 o62 o63 o64 o65 o66 o67 o68 o69 o70 o71 o72 o73 o74 o75 o76 o77 : Oper} {rest : List Oper} {l : List Value} {d : List Deferred} {w : World} {A B C : Nat} (hn : l.length = 193)
    (h2 : l[2]? = some (.pointer (some ⟨A, 0, none⟩))) (h3 : l[3]? = some (.pointer (some ⟨B, 0, none⟩))) (h5 : l[5]? = some (.pointer (some ⟨C, 0, none⟩)))
    (h : ∀ a0 : Act, a0.tmps.size = 193 → a0.tmps[2]? = some (.pointer (some ⟨A, 0, none⟩)) → a0.tmps[3]? = some (.pointer (some ⟨B, 0, none⟩)) → a0.tmps[5]? = some (.pointer (some ⟨C, 0, none⟩)) →
      (∀ a, Out 94 172 a0 a → a.tmps[171]? = some (.bool true) → wpList P ops Q rest a w) → wpList P ops Q (o0::o1::o2::o3::o4::o5::o6::o7::o8::o9::o10::o11::o12::o13::o14::o15::o16::o17::o18::o19::o20::o21::o22::o23::o24::o25::o26::o27::o28::o29::o30::o31::o32::o33::o34::o35::o36::o37::o38::o39::o40::o41::o42::o43::o44::o45::o46::o47::o48::o49::o50::o51::o52::o53::o54::o55::o56::o57::o58::o59::o60::o61::o62::o63::o64::o65::o66::o67::o68::o69::o70::o71::o72::o73::o74::o75::o76::o77::rest) a0 w)
    (hq : ∀ a, Out 94 172 ⟨l.toArray, d⟩ a → a.tmps[171]? = some (.bool true) → wpList P ops Q rest a w) : wpList P ops Q (o0::o1::o2::o3::o4::o5::o6::o7::o8::o9::o10::o11::o12::o13::o14::o15::o16::o17::o18::o19::o20::o21::o22::o23::o24::o25::o26::o27::o28::o29::o30::o31::o32::o33::o34::o35::o36::o37::o38::o39::o40::o41::o42::o43::o44::o45::o46::o47::o48::o49::o50::o51::o52::o53::o54::o55::o56::o57::o58::o59::o60::o61::o62::o63::o64::o65::o66::o67::o68::o69::o70::o71::o72::o73::o74::o75::o76::o77::rest) ⟨l.toArray, d⟩ w :=
  h _ (by simpa using hn) (by simpa using h2) (by simpa using h3) (by simpa using h5) hq
theorem jlast {P : Program} {ops : Array Oper} {Q : Exit → Act → World → Prop} {o : Oper} {a : Act} {w : World} {v : Value} {d : Nat} (hw : Region.wanted o (yielded ops a.tmps) = true) (hd : o.dst = some d) (hx : (execOp a.eval o).run P w = .ok (.value v) w) (hl : d < a.tmps.size)
    (h : ∀ a', a'.tmps[d]? = some v → (∀ k, k ≠ d → a'.tmps[k]? = a.tmps[k]?) → a'.tmps.size = a.tmps.size → a'.defers = a.defers → Q .normal a' w) : wpList P ops Q [o] a w :=
  wpList_step fun K hK => by
    rw [if_pos hw]
    unfold Oper.wp
    rw [hx, Oper.upon_value, hd]
    exact hK _ _ (h _ (put_same hl) (fun _ hk => put_else hk) (by simp [Act.put]) (by simp [Act.put]))
theorem len_succ {n : Nat} {l : List Value} (h : l.length = n + 1) : ∃ x t, l = x::t ∧ t.length = n := by
  cases l with
  | nil => simp at h
  | cons x t => exact ⟨x, t, rfl, by simpa using h⟩
theorem fin_of {l : List Value} {d : List Deferred} {a1 a : Act} {v : Value} (hn : l.length = 193) (O : Out 94 172 ⟨l.toArray, d⟩ a1) (h8 : a.tmps[8]? = some v) (hk : ∀ k, k ≠ 8 → a.tmps[k]? = a1.tmps[k]?) (hs : a.tmps.size = a1.tmps.size) (hd : a.defers = a1.defers) :
    ∃ m : List Value, m.length = 78 ∧ a = ⟨((l.take 94).set 8 v ++ m ++ l.drop 172).toArray, d⟩ := by
  have hs1 : a1.tmps.size = 193 := by simpa [hn] using O.size
  refine ⟨(a.tmps.toList.drop 94).take 78, by simp [hs, hs1], ?_⟩
  obtain ⟨t, df⟩ := a
  simp only [Act.mk.injEq]
  refine ⟨?_, by simpa [O.defers] using hd⟩
  apply Array.ext'
  apply List.ext_getElem?
  intro k
  have hs2 : t.size = 193 := by simpa [hs1] using hs
  have ht : t.toList.length = 193 := by simpa using hs2
  have hO := O.same k
  have hK := hk k
  simp only [List.getElem?_toArray] at hO
  rw [List.append_assoc, List.getElem?_append, List.getElem?_append, List.getElem?_set, List.getElem?_take, List.getElem?_take, List.getElem?_drop, List.getElem?_drop]
  simp only [List.length_set, List.length_take, List.length_drop, ht, hn, Array.getElem?_toList]
  by_cases h : k = 8
  · subst h
    simp [h8]
  · by_cases h1 : k < 94
    · rw [hK h, hO (.inl h1)]
      simp [h1, Ne.symm h]
    · by_cases h2 : k < 172
      · have e : 94 + (k - 94) = k := by omega
        simp [h1, e, show k - 94 < 78 by omega]
        done
      · have e : 172 + (k - 94 - 78) = k := by omega
        rw [hK h, hO (.inr (by omega))]
        simp [h1, e, show ¬ k - 94 < 78 by omega]

set_option maxRecDepth 100000 in
set_option maxHeartbeats 4000000 in
theorem jfin {Q : Exit → Act → World → Prop} {w : World} {d : List Deferred} {v : Value} {x0 x1 x2 x3 x4 x5 x6 x7 x8 x9 x10 x11 x12 x13 x14 x15 x16 x17 x18 x19 x20 x21 x22 x23 x24 x25 x26 x27 x28 x29 x30 x31 x32 x33 x34 x35 x36 x37 x38 x39 x40 x41 x42 x43 x44 x45 x46 x47 x48 x49 x50 x51 x52 x53 x54 x55 x56 x57 x58 x59 x60 x61 x62 x63 x64 x65 x66 x67 x68 x69 x70 x71 x72 x73 x74 x75 x76 x77 x78 x79 x80 x81 x82 x83 x84 x85 x86 x87 x88 x89 x90 x91 x92 x93 x94 x95 x96 x97 x98 x99 x100 x101 x102 x103 x104 x105 x106 x107 x108 x109 x110 x111 x112 x113 x114 x115 x116 x117 x118 x119 x120 x121 x122 x123 x124 x125 x126 x127 x128 x129 x130 x131 x132 x133 x134 x135 x136 x137 x138 x139 x140 x141 x142 x143 x144 x145 x146 x147 x148 x149 x150 x151 x152 x153 x154 x155 x156 x157 x158 x159 x160 x161 x162 x163 x164 x165 x166 x167 x168 x169 x170 x171 x172 x173 x174 x175 x176 x177 x178 x179 x180 x181 x182 x183 x184 x185 x186 x187 x188 x189 x190 x191 x192 : Value} (h : ∀ u94 u95 u96 u97 u98 u99 u100 u101 u102 u103 u104 u105 u106 u107 u108 u109 u110 u111 u112 u113 u114 u115 u116 u117 u118 u119 u120 u121 u122 u123 u124 u125 u126 u127 u128 u129 u130 u131 u132 u133 u134 u135 u136 u137 u138 u139 u140 u141 u142 u143 u144 u145 u146 u147 u148 u149 u150 u151 u152 u153 u154 u155 u156 u157 u158 u159 u160 u161 u162 u163 u164 u165 u166 u167 u168 u169 u170 u171 : Value, Q .normal ⟨List.toArray (x0::x1::x2::x3::x4::x5::x6::x7::v::x9::x10::x11::x12::x13::x14::x15::x16::x17::x18::x19::x20::x21::x22::x23::x24::x25::x26::x27::x28::x29::x30::x31::x32::x33::x34::x35::x36::x37::x38::x39::x40::x41::x42::x43::x44::x45::x46::x47::x48::x49::x50::x51::x52::x53::x54::x55::x56::x57::x58::x59::x60::x61::x62::x63::x64::x65::x66::x67::x68::x69::x70::x71::x72::x73::x74::x75::x76::x77::x78::x79::x80::x81::x82::x83::x84::x85::x86::x87::x88::x89::x90::x91::x92::x93::u94::u95::u96::u97::u98::u99::u100::u101::u102::u103::u104::u105::u106::u107::u108::u109::u110::u111::u112::u113::u114::u115::u116::u117::u118::u119::u120::u121::u122::u123::u124::u125::u126::u127::u128::u129::u130::u131::u132::u133::u134::u135::u136::u137::u138::u139::u140::u141::u142::u143::u144::u145::u146::u147::u148::u149::u150::u151::u152::u153::u154::u155::u156::u157::u158::u159::u160::u161::u162::u163::u164::u165::u166::u167::u168::u169::u170::u171::x172::x173::x174::x175::x176::x177::x178::x179::x180::x181::x182::x183::x184::x185::x186::x187::x188::x189::x190::x191::x192::[]), d⟩ w) (m : List Value) (hm : m.length = 78) : Q .normal ⟨List.toArray ((List.take 94 (x0::x1::x2::x3::x4::x5::x6::x7::x8::x9::x10::x11::x12::x13::x14::x15::x16::x17::x18::x19::x20::x21::x22::x23::x24::x25::x26::x27::x28::x29::x30::x31::x32::x33::x34::x35::x36::x37::x38::x39::x40::x41::x42::x43::x44::x45::x46::x47::x48::x49::x50::x51::x52::x53::x54::x55::x56::x57::x58::x59::x60::x61::x62::x63::x64::x65::x66::x67::x68::x69::x70::x71::x72::x73::x74::x75::x76::x77::x78::x79::x80::x81::x82::x83::x84::x85::x86::x87::x88::x89::x90::x91::x92::x93::x94::x95::x96::x97::x98::x99::x100::x101::x102::x103::x104::x105::x106::x107::x108::x109::x110::x111::x112::x113::x114::x115::x116::x117::x118::x119::x120::x121::x122::x123::x124::x125::x126::x127::x128::x129::x130::x131::x132::x133::x134::x135::x136::x137::x138::x139::x140::x141::x142::x143::x144::x145::x146::x147::x148::x149::x150::x151::x152::x153::x154::x155::x156::x157::x158::x159::x160::x161::x162::x163::x164::x165::x166::x167::x168::x169::x170::x171::x172::x173::x174::x175::x176::x177::x178::x179::x180::x181::x182::x183::x184::x185::x186::x187::x188::x189::x190::x191::x192::[])).set 8 v ++ m ++ List.drop 172 (x0::x1::x2::x3::x4::x5::x6::x7::x8::x9::x10::x11::x12::x13::x14::x15::x16::x17::x18::x19::x20::x21::x22::x23::x24::x25::x26::x27::x28::x29::x30::x31::x32::x33::x34::x35::x36::x37::x38::x39::x40::x41::x42::x43::x44::x45::x46::x47::x48::x49::x50::x51::x52::x53::x54::x55::x56::x57::x58::x59::x60::x61::x62::x63::x64::x65::x66::x67::x68::x69::x70::x71::x72::x73::x74::x75::x76::x77::x78::x79::x80::x81::x82::x83::x84::x85::x86::x87::x88::x89::x90::x91::x92::x93::x94::x95::x96::x97::x98::x99::x100::x101::x102::x103::x104::x105::x106::x107::x108::x109::x110::x111::x112::x113::x114::x115::x116::x117::x118::x119::x120::x121::x122::x123::x124::x125::x126::x127::x128::x129::x130::x131::x132::x133::x134::x135::x136::x137::x138::x139::x140::x141::x142::x143::x144::x145::x146::x147::x148::x149::x150::x151::x152::x153::x154::x155::x156::x157::x158::x159::x160::x161::x162::x163::x164::x165::x166::x167::x168::x169::x170::x171::x172::x173::x174::x175::x176::x177::x178::x179::x180::x181::x182::x183::x184::x185::x186::x187::x188::x189::x190::x191::x192::[])), d⟩ w := by
  obtain ⟨u94, m1, rfl, h1⟩ := len_succ hm
  obtain ⟨u95, m2, rfl, h2⟩ := len_succ h1
  obtain ⟨u96, m3, rfl, h3⟩ := len_succ h2
  obtain ⟨u97, m4, rfl, h4⟩ := len_succ h3
  obtain ⟨u98, m5, rfl, h5⟩ := len_succ h4
  obtain ⟨u99, m6, rfl, h6⟩ := len_succ h5
  obtain ⟨u100, m7, rfl, h7⟩ := len_succ h6
  obtain ⟨u101, m8, rfl, h8⟩ := len_succ h7
  obtain ⟨u102, m9, rfl, h9⟩ := len_succ h8
  obtain ⟨u103, m10, rfl, h10⟩ := len_succ h9
  obtain ⟨u104, m11, rfl, h11⟩ := len_succ h10
  obtain ⟨u105, m12, rfl, h12⟩ := len_succ h11
  obtain ⟨u106, m13, rfl, h13⟩ := len_succ h12
  obtain ⟨u107, m14, rfl, h14⟩ := len_succ h13
  obtain ⟨u108, m15, rfl, h15⟩ := len_succ h14
  obtain ⟨u109, m16, rfl, h16⟩ := len_succ h15
  obtain ⟨u110, m17, rfl, h17⟩ := len_succ h16
  obtain ⟨u111, m18, rfl, h18⟩ := len_succ h17
  obtain ⟨u112, m19, rfl, h19⟩ := len_succ h18
  obtain ⟨u113, m20, rfl, h20⟩ := len_succ h19
  obtain ⟨u114, m21, rfl, h21⟩ := len_succ h20
  obtain ⟨u115, m22, rfl, h22⟩ := len_succ h21
  obtain ⟨u116, m23, rfl, h23⟩ := len_succ h22
  obtain ⟨u117, m24, rfl, h24⟩ := len_succ h23
  obtain ⟨u118, m25, rfl, h25⟩ := len_succ h24
  obtain ⟨u119, m26, rfl, h26⟩ := len_succ h25
  obtain ⟨u120, m27, rfl, h27⟩ := len_succ h26
  obtain ⟨u121, m28, rfl, h28⟩ := len_succ h27
  obtain ⟨u122, m29, rfl, h29⟩ := len_succ h28
  obtain ⟨u123, m30, rfl, h30⟩ := len_succ h29
  obtain ⟨u124, m31, rfl, h31⟩ := len_succ h30
  obtain ⟨u125, m32, rfl, h32⟩ := len_succ h31
  obtain ⟨u126, m33, rfl, h33⟩ := len_succ h32
  obtain ⟨u127, m34, rfl, h34⟩ := len_succ h33
  obtain ⟨u128, m35, rfl, h35⟩ := len_succ h34
  obtain ⟨u129, m36, rfl, h36⟩ := len_succ h35
  obtain ⟨u130, m37, rfl, h37⟩ := len_succ h36
  obtain ⟨u131, m38, rfl, h38⟩ := len_succ h37
  obtain ⟨u132, m39, rfl, h39⟩ := len_succ h38
  obtain ⟨u133, m40, rfl, h40⟩ := len_succ h39
  obtain ⟨u134, m41, rfl, h41⟩ := len_succ h40
  obtain ⟨u135, m42, rfl, h42⟩ := len_succ h41
  obtain ⟨u136, m43, rfl, h43⟩ := len_succ h42
  obtain ⟨u137, m44, rfl, h44⟩ := len_succ h43
  obtain ⟨u138, m45, rfl, h45⟩ := len_succ h44
  obtain ⟨u139, m46, rfl, h46⟩ := len_succ h45
  obtain ⟨u140, m47, rfl, h47⟩ := len_succ h46
  obtain ⟨u141, m48, rfl, h48⟩ := len_succ h47
  obtain ⟨u142, m49, rfl, h49⟩ := len_succ h48
  obtain ⟨u143, m50, rfl, h50⟩ := len_succ h49
  obtain ⟨u144, m51, rfl, h51⟩ := len_succ h50
  obtain ⟨u145, m52, rfl, h52⟩ := len_succ h51
  obtain ⟨u146, m53, rfl, h53⟩ := len_succ h52
  obtain ⟨u147, m54, rfl, h54⟩ := len_succ h53
  obtain ⟨u148, m55, rfl, h55⟩ := len_succ h54
  obtain ⟨u149, m56, rfl, h56⟩ := len_succ h55
  obtain ⟨u150, m57, rfl, h57⟩ := len_succ h56
  obtain ⟨u151, m58, rfl, h58⟩ := len_succ h57
  obtain ⟨u152, m59, rfl, h59⟩ := len_succ h58
  obtain ⟨u153, m60, rfl, h60⟩ := len_succ h59
  obtain ⟨u154, m61, rfl, h61⟩ := len_succ h60
  obtain ⟨u155, m62, rfl, h62⟩ := len_succ h61
  obtain ⟨u156, m63, rfl, h63⟩ := len_succ h62
  obtain ⟨u157, m64, rfl, h64⟩ := len_succ h63
  obtain ⟨u158, m65, rfl, h65⟩ := len_succ h64
  obtain ⟨u159, m66, rfl, h66⟩ := len_succ h65
  obtain ⟨u160, m67, rfl, h67⟩ := len_succ h66
  obtain ⟨u161, m68, rfl, h68⟩ := len_succ h67
  obtain ⟨u162, m69, rfl, h69⟩ := len_succ h68
  obtain ⟨u163, m70, rfl, h70⟩ := len_succ h69
  obtain ⟨u164, m71, rfl, h71⟩ := len_succ h70
  obtain ⟨u165, m72, rfl, h72⟩ := len_succ h71
  obtain ⟨u166, m73, rfl, h73⟩ := len_succ h72
  obtain ⟨u167, m74, rfl, h74⟩ := len_succ h73
  obtain ⟨u168, m75, rfl, h75⟩ := len_succ h74
  obtain ⟨u169, m76, rfl, h76⟩ := len_succ h75
  obtain ⟨u170, m77, rfl, h77⟩ := len_succ h76
  obtain ⟨u171, m78, rfl, h78⟩ := len_succ h77
  cases List.eq_nil_of_length_eq_zero h78
  exact h u94 u95 u96 u97 u98 u99 u100 u101 u102 u103 u104 u105 u106 u107 u108 u109 u110 u111 u112 u113 u114 u115 u116 u117 u118 u119 u120 u121 u122 u123 u124 u125 u126 u127 u128 u129 u130 u131 u132 u133 u134 u135 u136 u137 u138 u139 u140 u141 u142 u143 u144 u145 u146 u147 u148 u149 u150 u151 u152 u153 u154 u155 u156 u157 u158 u159 u160 u161 u162 u163 u164 u165 u166 u167 u168 u169 u170 u171
end Go.Proofs.Ytipfngliahhhiaa
