/- For each Go function: if its typed Lean form gives some result, the call returns that result (printed by a program of this hand). Condition: the typed form gives some result. -/
import Derived.Test.YtbggpcnbbhjiaaaGreatDoorW2
set_option linter.unusedVariables false
set_option linter.unusedSimpArgs false
set_option linter.unnecessarySimpa false
section
set_option maxRecDepth 100000
set_option maxHeartbeats 0
namespace Go.Abs
open Go Go.Proofs
variable {mx : Int}
def go_wire_reader_check (n : Nat) (a1 : Int) (m0 : T_wire_reader) : Option T_wire_reader :=
 (if m0.f_failed = true then (some true) else (some (a1 != 0))).bind fun y2 =>
 some (T_wire_reader.mk m0.f_l y2)
theorem go_wire_reader_check_ok {n : Nat} {a1 : Int} {m0 : T_wire_reader} {r : T_wire_reader} (h : go_wire_reader_check n a1 m0 = some r) : ACalls Tryz.prog (gl0 mx) 140 [.ptr 0 0, .int .i64 a1] ⟨[[.sl 3 (List.map T_api_Element.cells m0.f_l) .none, .bool m0.f_failed]], []⟩ (Out (.tuple []) ⟨[[.sl 3 (List.map T_api_Element.cells r.f_l) .none, .bool r.f_failed]], []⟩) := by
 delta go_wire_reader_check at h
 refine fnc Tryz.func140 rfl ?_
 obtain ⟨y2, hE, h⟩ := bindE h
 refine regN ⟨15, []⟩ ⟨[[.sl 3 (List.map T_api_Element.cells m0.f_l) .none, .bool y2]], []⟩ cl_body ?_ ?_
 ·replace h := hE
  refine kG 6 9 (m0.f_failed) (fun hb => ?_) (fun hb => ?_)
  ·have h := ite_t hb h
   obtain rfl := Option.some.inj h
   exact kE ⟨[0], 1, [], 0⟩
  have h := ite_f hb h
  obtain rfl := Option.some.inj h
  exact kE ⟨[0], 1, [], 0⟩
 obtain rfl := Option.some.inj h
 exact rtn ⟨[0], 1, [], 0⟩ (.inl rfl)
def go_wire_reader_optional (n : Nat) (a1 : Int) (m0 : T_wire_reader) : Option (T_api_Element × Bool × T_wire_reader) :=
 (if ((List.length m0.f_l : Int) == 0) = true then (some true) else ((lidx m0.f_l 0).bind fun x1 =>
 some (x1.f_Tag != a1))).bind fun y3 =>
 if y3 = true then (some ((T_api_Element.mk 0 ([] : List UInt8) ([] : List UInt8)), false, m0)) else ((go_wire_reader_next n m0).bind fun r4 =>
 some (r4.1, true, r4.2))
theorem go_wire_reader_optional_ok {n : Nat} {a1 : Int} {m0 : T_wire_reader} {r : (T_api_Element × Bool × T_wire_reader)} (h : go_wire_reader_optional n a1 m0 = some r) : ACalls Tryz.prog (gl0 mx) 141 [.ptr 0 0, .int .i64 a1] ⟨[[.sl 3 (List.map T_api_Element.cells m0.f_l) .none, .bool m0.f_failed]], []⟩ (Out (.tuple [.agg [.int .i64 r.1.f_Tag, .str r.1.f_Content, .str r.1.f_Raw], .bool r.2.1]) ⟨[[.sl 3 (List.map T_api_Element.cells r.2.2.f_l) .none, .bool r.2.2.f_failed]], []⟩) := by
 delta go_wire_reader_optional at h
 refine fnc Tryz.func141 rfl ?_
 refine b_seq ?_
 refine reg ⟨26, [(0, .ptr 0 0), (1, .int .i64 a1), (4, .ptr 1 0)]⟩ ⟨[[.sl 3 (List.map T_api_Element.cells m0.f_l) .none, .bool m0.f_failed], [.int .i64 0, .str ([] : List UInt8), .str ([] : List UInt8)]], []⟩ ?_ ?_
 ·exact kE ⟨[0, 1], 2, [], 0⟩
 refine b_seq ?_
 refine b_seq ?_
 obtain ⟨y3, hE, h⟩ := bindE h
 refine reg ⟨26, [(0, .ptr 0 0), (4, .ptr 1 0), (22, .bool y3)]⟩ ⟨[[.sl 3 (List.map T_api_Element.cells m0.f_l) .none, .bool m0.f_failed], [.int .i64 0, .str ([] : List UInt8), .str ([] : List UInt8)]], []⟩ ?_ ?_
 ·replace h := hE
  refine kP 4 (x_len (c := T_api_Element.cells) (l := m0.f_l) (e := 103) (sz := 3) (sz' := 3) (b := 40) (tok := .none)) ?_
  refine kG 7 12 ((List.length m0.f_l : Int) == 0) (fun hb => ?_) (fun hb => ?_)
  ·have h := ite_t hb h
   obtain rfl := Option.some.inj h
   exact kE ⟨[0, 1], 2, [], 0⟩
  have h := ite_f hb h
  obtain ⟨x1, hx1, h⟩ := bindE h
  refine kP 11 (x_lidx (c := T_api_Element.cells) (e := 103) (sz := 3) (b := 40) (tok := .none) hx1) ?_
  obtain rfl := Option.some.inj h
  exact kE ⟨[0, 1], 2, [], 0⟩
 refine bif_ (y3) (fun hb => ?_) (fun hb => ?_)
 ·replace h := ite_t hb h
  refine b_seq ?_
  refine reg ⟨26, [(4, .ptr 1 0), (5, .bool false)]⟩ ⟨[[.sl 3 (List.map T_api_Element.cells m0.f_l) .none, .bool m0.f_failed], [.int .i64 0, .str ([] : List UInt8), .str ([] : List UInt8)]], []⟩ ?_ ?_
  ·exact kE ⟨[0, 1], 2, [], 0⟩
  refine b_ret ?_
  obtain rfl := Option.some.inj h
  exact rtn ⟨[0], 2, [], 0⟩ (.inr rfl)
 replace h := ite_f hb h
 refine b_skip ?_
 refine b_seq ?_
 obtain ⟨r4, hr4, h⟩ := bindE h
 refine reg ⟨26, [(4, .ptr 1 0), (5, .bool true)]⟩ ⟨[[.sl 3 (List.map T_api_Element.cells r4.2.f_l) .none, .bool r4.2.f_failed], [.int .i64 r4.1.f_Tag, .str r4.1.f_Content, .str r4.1.f_Raw]], []⟩ ?_ ?_
 ·refine kC 1 ⟨[0], 2, [], 0⟩ (go_wire_reader_next_ok hr4) ?_
  exact kE ⟨[0, 1], 2, [], 0⟩
 refine b_ret ?_
 obtain rfl := Option.some.inj h
 exact rtn ⟨[0], 2, [], 0⟩ (.inr rfl)
def go_prim_Bits (n : Nat) (a0 : (List UInt8)) : Option ((List UInt8) × Int × Int) :=
 (if (a0 == ([] : List UInt8)) = true then (some true) else ((bidx a0 0).bind fun x1 =>
 if (decide (x1 > 7)) = true then (some true) else ((ssl a0 1 (List.length a0)).bind fun x2 =>
 (bidx a0 0).bind fun x3 =>
 (go_prim_spare n x2 (IntKind.wrap .i64 x3)).bind fun r4 =>
 some (!r4)))).bind fun y6 =>
 if y6 = true then (some (([] : List UInt8), 0, 7)) else ((ssl a0 1 (List.length a0)).bind fun x7 =>
 (bidx a0 0).bind fun x8 =>
 some (x7, IntKind.wrap .i64 x8, 0))
theorem go_prim_Bits_ok {n : Nat} {a0 : (List UInt8)} {r : ((List UInt8) × Int × Int)} (h : go_prim_Bits n a0 = some r) : ACalls Tryz.prog (gl0 mx) 198 [.str a0] ⟨[], []⟩ (Out (.tuple [.str r.1, .int .i64 r.2.1, .int .i64 r.2.2]) ⟨[], []⟩) := by
 delta go_prim_Bits at h
 refine fnc Tryz.func198 rfl ?_
 refine b_seq ?_
 refine reg ⟨26, [(0, .str a0)]⟩ ⟨[], []⟩ ?_ ?_
 ·exact kE ⟨[], 0, [], 0⟩
 refine b_seq ?_
 refine b_seq ?_
 obtain ⟨y6, hE, h⟩ := bindE h
 refine drw [0, 1, 2, 3, 4, 5, 6, 7, 8, 9, 10, 11, 12, 13, 14, 15] [13] [[], [0], [0, 1], [0, 1, 2], [0, 1, 2, 3], [0, 1, 2, 3, 4], [0, 1, 2, 3, 4, 5], [0, 1, 2, 3, 4, 5, 6], [0, 1, 2, 3, 4, 5, 6, 7], [0, 1, 2, 3, 4, 5, 6, 7, 8], [0, 1, 2, 3, 4, 5, 6, 7], [0, 1, 2, 3, 4, 5, 6, 7, 10], [0, 1, 2, 3, 4, 5, 6, 7, 10, 11], [0, 1, 2, 3, 4, 5, 6, 7, 8, 9, 10, 11, 12], [0, 1, 2, 3, 4, 5, 6, 7, 8, 9, 10, 11, 12, 13], [0, 1, 2, 3, 4, 5, 6, 7, 8, 9, 10, 11, 12, 13, 14]] ⟨26, [(0, .str a0), (20, .bool y6)]⟩ ⟨[], []⟩ ?_ ?_
 ·replace h := hE
  refine dS [0, 1, 2] ?_
  refine dG 7 (a0 == ([] : List UInt8)) (fun hb => ?_) (fun hb => ?_)
  ·have h := ite_t hb h
   refine dS [3, 4, 5, 6, 7, 8, 9, 10, 11, 12] ?_
   refine dF fxNil ?_
   refine dS [14, 15] ?_
   obtain rfl := Option.some.inj h
   exact dE ⟨[], 0, [], 0⟩
  have h := ite_f hb h
  obtain ⟨x1, hx1, h⟩ := bindE h
  refine dS [3] ?_
  refine dP (x_bidx hx1) ?_
  refine dS [5, 6, 7] ?_
  refine dG 12 (decide (x1 > 7)) (fun hb => ?_) (fun hb => ?_)
  ·have h := ite_t hb h
   refine dS [8, 9, 10, 11, 12] ?_
   refine dF (fxCons 4 (x_bidx hx1) fxNil) ?_
   refine dS [14, 15] ?_
   obtain rfl := Option.some.inj h
   exact dE ⟨[], 0, [], 0⟩
  have h := ite_f hb h
  obtain ⟨x2, hx2, h⟩ := bindE h
  obtain ⟨x3, hx3, h⟩ := bindE h
  obtain ⟨r4, hr4, h⟩ := bindE h
  refine dS [8] ?_
  refine dP (x_ssl_lo (k := .i64) hx2) ?_
  refine dS [10] ?_
  refine dP (x_bidx hx3) ?_
  refine dS [12] ?_
  refine dC (fxCons 11 (x_bidx hx3) (fxCons 9 (x_ssl_lo (k := .i64) hx2) (fxCons 4 (x_bidx hx1) fxNil))) ⟨[], 0, [], 0⟩ (go_prim_spare_ok hr4) ?_
  refine dS [14, 15] ?_
  obtain rfl := Option.some.inj h
  exact dE ⟨[], 0, [], 0⟩
 refine bif_ (y6) (fun hb => ?_) (fun hb => ?_)
 ·replace h := ite_t hb h
  refine b_seq ?_
  refine reg ⟨26, [(2, .str ([] : List UInt8)), (3, .int .i64 0), (4, .int .i64 7)]⟩ ⟨[], []⟩ ?_ ?_
  ·exact kE ⟨[], 0, [], 0⟩
  refine b_ret ?_
  obtain rfl := Option.some.inj h
  exact rtn ⟨[], 0, [], 0⟩ (.inr rfl)
 replace h := ite_f hb h
 refine b_skip ?_
 refine b_seq ?_
 obtain ⟨x7, hx7, h⟩ := bindE h
 obtain ⟨x8, hx8, h⟩ := bindE h
 refine drw [0, 1, 2, 3, 4, 5, 6, 7] [] [[], [0], [], [2], [2, 3], [0, 1], [0, 1, 2, 3, 4, 5], [0, 1, 2, 3, 4, 5, 6]] ⟨26, [(2, .str x7), (3, .int .i64 (IntKind.wrap .i64 x8)), (4, .int .i64 0)]⟩ ⟨[], []⟩ ?_ ?_
 ·refine dS [0] ?_
  refine dP (x_ssl_lo (k := .i64) hx7) ?_
  refine dS [2] ?_
  refine dP (x_bidx hx8) ?_
  refine dS [4, 5, 6, 7] ?_
  exact dE ⟨[], 0, [], 0⟩
 refine b_ret ?_
 obtain rfl := Option.some.inj h
 exact rtn ⟨[], 0, [], 0⟩ (.inr rfl)
def go_prim_bit (n : Nat) (a0 : (List UInt8)) (a1 : Int) : Option Bool :=
 (bidx a0 (IntKind.wrap .i64 (Int.tdiv a1 8))).bind fun x1 =>
 (ishr .u8 x1 (IntKind.wrap .u64 ((7 : Int) - (IntKind.wrap .u64 (Int.tmod a1 8))))).bind fun x2 =>
 some ((iand .u8 x2 1) == 1)
theorem go_prim_bit_ok {n : Nat} {a0 : (List UInt8)} {a1 : Int} {r : Bool} (h : go_prim_bit n a0 a1 = some r) : ACalls Tryz.prog (gl0 mx) 199 [.str a0, .int .i64 a1] ⟨[], []⟩ (Out (.bool r) ⟨[], []⟩) := by
 delta go_prim_bit at h
 refine fnc Tryz.func199 rfl ?_
 refine b_seq ?_
 refine reg ⟨16, [(0, .str a0), (1, .int .i64 a1)]⟩ ⟨[], []⟩ ?_ ?_
 ·exact kE ⟨[], 0, [], 0⟩
 refine b_seq ?_
 obtain ⟨x1, hx1, h⟩ := bindE h
 obtain ⟨x2, hx2, h⟩ := bindE h
 refine reg ⟨16, [(4, .bool ((iand .u8 x2 1) == 1))]⟩ ⟨[], []⟩ ?_ ?_
 ·refine kP 3 (x_bidx hx1) ?_
  refine kP 8 (x_ishr (k := .u8) (d := (tyT 5).d) (k' := .u64) hx2) ?_
  exact kE ⟨[], 0, [], 0⟩
 refine b_ret ?_
 obtain rfl := Option.some.inj h
 exact rtn ⟨[], 0, [], 0⟩ (.inr rfl)
def go_prim_Flags_l1 (n : Nat) (r1 : ((List UInt8) × Int × Int)) : Nat → Int → Int → Option Int
 | 0, _, _ => none
 | k + 1, v40, v41 =>
  if (decide (v41 < (IntKind.wrap .i64 ((IntKind.wrap .i64 ((8 : Int) * (List.length r1.1 : Int))) - r1.2.1)))) = true then (((go_prim_bit n r1.1 v41).bind fun r58 =>
  if r58 = true then ((ishl .i64 1 (IntKind.wrap .u64 v41)).bind fun x59 =>
  some (ior .i64 v40 x59)) else (some v40)).bind fun y56 =>
  go_prim_Flags_l1 n r1 k y56 (IntKind.wrap .i64 (v41 + 1))) else (some v40)
def go_prim_Flags (n : Nat) (a0 : (List UInt8)) : Option (Int × Int) :=
 (go_prim_Bits n a0).bind fun r1 =>
 if (r1.2.2 != 0) = true then (some (0, r1.2.2)) else ((if (decide ((IntKind.wrap .i64 ((IntKind.wrap .i64 ((8 : Int) * (List.length r1.1 : Int))) - r1.2.1)) > 0)) = true then ((go_prim_bit n r1.1 (IntKind.wrap .i64 ((IntKind.wrap .i64 ((IntKind.wrap .i64 ((8 : Int) * (List.length r1.1 : Int))) - r1.2.1)) - 1))).bind fun r2 =>
 some (!r2)) else (some false)).bind fun y4 =>
 if y4 = true then (some (0, 7)) else (if (decide ((IntKind.wrap .i64 ((IntKind.wrap .i64 ((8 : Int) * (List.length r1.1 : Int))) - r1.2.1)) > 16)) = true then (some (0, 1)) else ((go_prim_Flags_l1 n r1 n 0 0).bind fun y32 =>
 some (y32, 0))))
theorem go_prim_Flags_ok {n : Nat} {a0 : (List UInt8)} {r : (Int × Int)} (h : go_prim_Flags n a0 = some r) : ACalls Tryz.prog (gl0 mx) 143 [.str a0] ⟨[], []⟩ (Out (.tuple [.int .i64 r.1, .int .i64 r.2]) ⟨[], []⟩) := by
 delta go_prim_Flags at h
 refine fnc Tryz.func143 rfl ?_
 refine b_seq ?_
 refine reg ⟨49, [(0, .str a0)]⟩ ⟨[], []⟩ ?_ ?_
 ·exact kE ⟨[], 0, [], 0⟩
 refine b_seq ?_
 obtain ⟨r1, hr1, h⟩ := bindE h
 refine reg ⟨49, [(4, .str r1.1), (5, .int .i64 r1.2.1), (6, .int .i64 r1.2.2)]⟩ ⟨[], []⟩ ?_ ?_
 ·refine kC 1 ⟨[], 0, [], 0⟩ (go_prim_Bits_ok hr1) ?_
  exact kE ⟨[], 0, [], 0⟩
 refine b_seq ?_
 refine b_seq ?_
 refine reg ⟨49, [(4, .str r1.1), (5, .int .i64 r1.2.1), (6, .int .i64 r1.2.2), (17, .bool (r1.2.2 != 0))]⟩ ⟨[], []⟩ ?_ ?_
 ·exact kE ⟨[], 0, [], 0⟩
 refine bif_ (r1.2.2 != 0) (fun hb => ?_) (fun hb => ?_)
 ·replace h := ite_t hb h
  refine b_seq ?_
  refine reg ⟨49, [(2, .int .i64 0), (3, .int .i64 r1.2.2)]⟩ ⟨[], []⟩ ?_ ?_
  ·exact kE ⟨[], 0, [], 0⟩
  refine b_ret ?_
  obtain rfl := Option.some.inj h
  exact rtn ⟨[], 0, [], 0⟩ (.inr rfl)
 replace h := ite_f hb h
 refine b_skip ?_
 refine b_seq ?_
 refine reg ⟨49, [(4, .str r1.1), (7, .int .i64 (IntKind.wrap .i64 ((IntKind.wrap .i64 ((8 : Int) * (List.length r1.1 : Int))) - r1.2.1)))]⟩ ⟨[], []⟩ ?_ ?_
 ·exact kE ⟨[], 0, [], 0⟩
 refine b_seq ?_
 refine b_seq ?_
 obtain ⟨y4, hE, h⟩ := bindE h
 refine reg ⟨49, [(4, .str r1.1), (7, .int .i64 (IntKind.wrap .i64 ((IntKind.wrap .i64 ((8 : Int) * (List.length r1.1 : Int))) - r1.2.1))), (32, .bool y4)]⟩ ⟨[], []⟩ ?_ ?_
 ·replace h := hE
  refine kG 3 26 (decide ((IntKind.wrap .i64 ((IntKind.wrap .i64 ((8 : Int) * (List.length r1.1 : Int))) - r1.2.1)) > 0)) (fun hb => ?_) (fun hb => ?_)
  ·have h := ite_t hb h
   obtain ⟨r2, hr2, h⟩ := bindE h
   refine kC 6 ⟨[], 0, [], 0⟩ (go_prim_bit_ok hr2) ?_
   obtain rfl := Option.some.inj h
   exact kE ⟨[], 0, [], 0⟩
  have h := ite_f hb h
  obtain rfl := Option.some.inj h
  exact kE ⟨[], 0, [], 0⟩
 refine bif_ (y4) (fun hb => ?_) (fun hb => ?_)
 ·replace h := ite_t hb h
  refine b_seq ?_
  refine reg ⟨49, [(2, .int .i64 0), (3, .int .i64 7)]⟩ ⟨[], []⟩ ?_ ?_
  ·exact kE ⟨[], 0, [], 0⟩
  refine b_ret ?_
  obtain rfl := Option.some.inj h
  exact rtn ⟨[], 0, [], 0⟩ (.inr rfl)
 replace h := ite_f hb h
 refine b_skip ?_
 refine b_seq ?_
 refine b_seq ?_
 refine reg ⟨49, [(4, .str r1.1), (7, .int .i64 (IntKind.wrap .i64 ((IntKind.wrap .i64 ((8 : Int) * (List.length r1.1 : Int))) - r1.2.1))), (34, .bool (decide ((IntKind.wrap .i64 ((IntKind.wrap .i64 ((8 : Int) * (List.length r1.1 : Int))) - r1.2.1)) > 16)))]⟩ ⟨[], []⟩ ?_ ?_
 ·exact kE ⟨[], 0, [], 0⟩
 refine bif_ (decide ((IntKind.wrap .i64 ((IntKind.wrap .i64 ((8 : Int) * (List.length r1.1 : Int))) - r1.2.1)) > 16)) (fun hb => ?_) (fun hb => ?_)
 ·replace h := ite_t hb h
  refine b_seq ?_
  refine reg ⟨49, [(2, .int .i64 0), (3, .int .i64 1)]⟩ ⟨[], []⟩ ?_ ?_
  ·exact kE ⟨[], 0, [], 0⟩
  refine b_ret ?_
  obtain rfl := Option.some.inj h
  exact rtn ⟨[], 0, [], 0⟩ (.inr rfl)
 replace h := ite_f hb h
 refine b_skip ?_
 refine b_seq ?_
 refine reg ⟨49, [(4, .str r1.1), (7, .int .i64 (IntKind.wrap .i64 ((IntKind.wrap .i64 ((8 : Int) * (List.length r1.1 : Int))) - r1.2.1))), (8, .int .i64 0)]⟩ ⟨[], []⟩ ?_ ?_
 ·exact kE ⟨[], 0, [], 0⟩
 refine b_seq ?_
 refine b_seq ?_
 refine reg ⟨49, [(4, .str r1.1), (8, .int .i64 0), (35, .int .i64 (IntKind.wrap .i64 ((IntKind.wrap .i64 ((8 : Int) * (List.length r1.1 : Int))) - r1.2.1))), (36, .int .i64 0)]⟩ ⟨[], []⟩ ?_ ?_
 ·exact kE ⟨[], 0, [], 0⟩
 obtain ⟨y32, hE, h⟩ := bindE h
 refine b_blockE (Y := Int) (fun y32 => ⟨49, [(8, .int .i64 y32)]⟩) (fun y32 => ⟨[], []⟩) (fun z => y32 = z) ?_ cl_cons (fun z hz => ?_)
 ·replace h := hE
  refine b_loop (X := (Int × Int)) (fun x => ⟨49, [(4, .str r1.1), (8, .int .i64 x.1), (35, .int .i64 (IntKind.wrap .i64 ((IntKind.wrap .i64 ((8 : Int) * (List.length r1.1 : Int))) - r1.2.1))), (36, .int .i64 x.2)]⟩) (fun x => ⟨[], []⟩) (fun k x => go_prim_Flags_l1 n r1 k x.1 x.2 = some y32) (fun _ hx => by simp [go_prim_Flags_l1] at hx) n (0, 0) h (wk ⟨[], 0, [], 0⟩) (fun k x h => ?_)
  obtain ⟨v40, v41⟩ := x
  rw [go_prim_Flags_l1] at h
  refine b_seq ?_
  refine reg ⟨49, [(4, .str r1.1), (8, .int .i64 v40), (35, .int .i64 (IntKind.wrap .i64 ((IntKind.wrap .i64 ((8 : Int) * (List.length r1.1 : Int))) - r1.2.1))), (36, .int .i64 v41), (37, .bool (decide (v41 < (IntKind.wrap .i64 ((IntKind.wrap .i64 ((8 : Int) * (List.length r1.1 : Int))) - r1.2.1)))))]⟩ ⟨[], []⟩ ?_ ?_
  ·exact kE ⟨[], 0, [], 0⟩
  refine b_seq ?_
  refine bif_ (decide (v41 < (IntKind.wrap .i64 ((IntKind.wrap .i64 ((8 : Int) * (List.length r1.1 : Int))) - r1.2.1)))) (fun hb => ?_) (fun hb => ?_)
  ·replace h := ite_t hb h
   refine b_skip ?_
   refine b_seq ?_
   obtain ⟨y56, hE, h⟩ := bindE h
   refine b_blockE (Y := Int) (fun y56 => ⟨49, [(4, .str r1.1), (8, .int .i64 y56), (35, .int .i64 (IntKind.wrap .i64 ((IntKind.wrap .i64 ((8 : Int) * (List.length r1.1 : Int))) - r1.2.1))), (36, .int .i64 v41)]⟩) (fun y56 => ⟨[], []⟩) (fun z => y56 = z) ?_ cl_cons (fun z hz => ?_)
   ·replace h := hE
    refine b_seq ?_
    refine reg ⟨49, [(4, .str r1.1), (8, .int .i64 v40), (9, .int .i64 v41), (35, .int .i64 (IntKind.wrap .i64 ((IntKind.wrap .i64 ((8 : Int) * (List.length r1.1 : Int))) - r1.2.1))), (36, .int .i64 v41)]⟩ ⟨[], []⟩ ?_ ?_
    ·exact kE ⟨[], 0, [], 0⟩
    refine b_seq ?_
    obtain ⟨r58, hr58, h⟩ := bindE h
    refine reg ⟨49, [(4, .str r1.1), (8, .int .i64 v40), (9, .int .i64 v41), (35, .int .i64 (IntKind.wrap .i64 ((IntKind.wrap .i64 ((8 : Int) * (List.length r1.1 : Int))) - r1.2.1))), (36, .int .i64 v41), (41, .bool r58)]⟩ ⟨[], []⟩ ?_ ?_
    ·refine kC 2 ⟨[], 0, [], 0⟩ (go_prim_bit_ok hr58) ?_
     exact kE ⟨[], 0, [], 0⟩
    refine bif_ (r58) (fun hb => ?_) (fun hb => ?_)
    ·replace h := ite_t hb h
     obtain ⟨x59, hx59, h⟩ := bindE h
     refine regN ⟨49, [(4, .str r1.1), (8, .int .i64 (ior .i64 v40 x59)), (35, .int .i64 (IntKind.wrap .i64 ((IntKind.wrap .i64 ((8 : Int) * (List.length r1.1 : Int))) - r1.2.1))), (36, .int .i64 v41)]⟩ ⟨[], []⟩ cl_blockL ?_ ?_
     ·refine kP 3 (x_ishl (k := .i64) (d := (tyT 3).d) (k' := .u64) hx59) ?_
      exact kE ⟨[], 0, [], 0⟩
     exact ⟨ior .i64 v40 x59, (Option.some.inj h).symm, wk ⟨[], 0, [], 0⟩⟩
    replace h := ite_f hb h
    refine b_skip ?_
    exact ⟨v40, (Option.some.inj h).symm, wk ⟨[], 0, [], 0⟩⟩
   subst hz
   refine regN ⟨49, [(4, .str r1.1), (8, .int .i64 y56), (35, .int .i64 (IntKind.wrap .i64 ((IntKind.wrap .i64 ((8 : Int) * (List.length r1.1 : Int))) - r1.2.1))), (36, .int .i64 (IntKind.wrap .i64 (v41 + 1)))]⟩ ⟨[], []⟩ cl_loopT ?_ ?_
   ·exact kE ⟨[], 0, [], 0⟩
   exact ⟨(y56, IntKind.wrap .i64 (v41 + 1)), h, wk ⟨[], 0, [], 0⟩⟩
  replace h := ite_f hb h
  refine b_exit ?_
  refine tk_exit ?_
  refine bl_exit ?_
  exact ⟨v40, (Option.some.inj h).symm, wk ⟨[], 0, [], 0⟩⟩
 subst hz
 refine b_seq ?_
 refine reg ⟨49, [(2, .int .i64 y32), (3, .int .i64 0)]⟩ ⟨[], []⟩ ?_ ?_
 ·exact kE ⟨[], 0, [], 0⟩
 refine b_ret ?_
 obtain rfl := Option.some.inj h
 exact rtn ⟨[], 0, [], 0⟩ (.inr rfl)
def go_wire_reader_oids_l1 (n : Nat) (r1 : T_wire_reader) : Nat → Option Unit
 | 0 => none
 | k + 1 =>
  if (decide ((List.length r1.f_l : Int) > 0)) = true then (none) else (some ())
def go_wire_reader_oids (n : Nat) (a1 : (List UInt8)) (m0 : T_wire_reader) : Option ((List (List UInt8)) × T_wire_reader) :=
 (go_wire_contents n a1).bind fun r1 =>
 (go_wire_reader_oids_l1 n r1 n ).bind fun y4 =>
 (if m0.f_failed = true then (some true) else (some r1.f_failed)).bind fun y9 =>
 some (([] : (List (List UInt8))), (T_wire_reader.mk m0.f_l y9))
theorem go_wire_reader_oids_ok {n : Nat} {a1 : (List UInt8)} {m0 : T_wire_reader} {r : ((List (List UInt8)) × T_wire_reader)} (h : go_wire_reader_oids n a1 m0 = some r) : ACalls Tryz.prog (gl0 mx) 144 [.ptr 0 0, .str a1] ⟨[[.sl 3 (List.map T_api_Element.cells m0.f_l) .none, .bool m0.f_failed]], []⟩ (Out (.sl 1 (List.map cS r.1) .none) ⟨[[.sl 3 (List.map T_api_Element.cells r.2.f_l) .none, .bool r.2.f_failed]], []⟩) := by
 delta go_wire_reader_oids at h
 refine fnc Tryz.func144 rfl ?_
 refine b_seq ?_
 refine reg ⟨59, [(0, .ptr 0 0), (1, .str a1)]⟩ ⟨[[.sl 3 (List.map T_api_Element.cells m0.f_l) .none, .bool m0.f_failed]], []⟩ ?_ ?_
 ·exact kE ⟨[0], 1, [], 0⟩
 refine b_seq ?_
 refine reg ⟨59, [(0, .ptr 0 0), (1, .str a1), (5, .nilsl)]⟩ ⟨[[.sl 3 (List.map T_api_Element.cells m0.f_l) .none, .bool m0.f_failed]], []⟩ ?_ ?_
 ·exact kE ⟨[0], 1, [], 0⟩
 refine b_seq ?_
 obtain ⟨r1, hr1, h⟩ := bindE h
 refine reg ⟨59, [(0, .ptr 0 0), (5, .nilsl), (6, .ptr 1 0)]⟩ ⟨[[.sl 3 (List.map T_api_Element.cells m0.f_l) .none, .bool m0.f_failed], [.sl 3 (List.map T_api_Element.cells r1.f_l) .none, .bool r1.f_failed]], []⟩ ?_ ?_
 ·refine kC 1 ⟨[], 1, [], 0⟩ (go_wire_contents_ok hr1) ?_
  exact kE ⟨[0, 1], 2, [], 0⟩
 refine b_seq ?_
 obtain ⟨y4, hE, h⟩ := bindE h
 refine b_blockE (Y := Unit) (fun _ => ⟨59, [(0, .ptr 0 0), (5, .nilsl), (6, .ptr 1 0)]⟩) (fun _ => ⟨[[.sl 3 (List.map T_api_Element.cells m0.f_l) .none, .bool m0.f_failed], [.sl 3 (List.map T_api_Element.cells r1.f_l) .none, .bool r1.f_failed]], []⟩) (fun z => y4 = z) ?_ cl_cons (fun z hz => ?_)
 ·replace h := hE
  refine b_loop (X := Unit) (fun _ => ⟨59, [(0, .ptr 0 0), (5, .nilsl), (6, .ptr 1 0)]⟩) (fun _ => ⟨[[.sl 3 (List.map T_api_Element.cells m0.f_l) .none, .bool m0.f_failed], [.sl 3 (List.map T_api_Element.cells r1.f_l) .none, .bool r1.f_failed]], []⟩) (fun k _ => go_wire_reader_oids_l1 n r1 k  = some y4) (fun _ hx => by simp [go_wire_reader_oids_l1] at hx) n () h (wk ⟨[0, 1], 2, [], 0⟩) (fun k x h => ?_)
  rw [go_wire_reader_oids_l1] at h
  refine b_seq ?_
  refine b_seq ?_
  refine reg ⟨59, [(0, .ptr 0 0), (5, .nilsl), (6, .ptr 1 0), (17, .bool (decide ((List.length r1.f_l : Int) > 0)))]⟩ ⟨[[.sl 3 (List.map T_api_Element.cells m0.f_l) .none, .bool m0.f_failed], [.sl 3 (List.map T_api_Element.cells r1.f_l) .none, .bool r1.f_failed]], []⟩ ?_ ?_
  ·refine kP 4 (x_len (c := T_api_Element.cells) (l := r1.f_l) (e := 103) (sz := 3) (sz' := 3) (b := 40) (tok := .none)) ?_
   exact kE ⟨[0, 1], 2, [], 0⟩
  refine bif_ (decide ((List.length r1.f_l : Int) > 0)) (fun hb => ?_) (fun hb => ?_)
  ·replace h := ite_t hb h
   cases h
  replace h := ite_f hb h
  refine b_exit ?_
  refine tk_exit ?_
  refine bl_exit ?_
  exact ⟨(), (Option.some.inj h).symm, wk ⟨[0, 1], 2, [], 0⟩⟩
 subst hz
 refine b_seq ?_
 obtain ⟨y9, hE, h⟩ := bindE h
 refine reg ⟨59, [(5, .nilsl)]⟩ ⟨[[.sl 3 (List.map T_api_Element.cells m0.f_l) .none, .bool y9]], []⟩ ?_ ?_
 ·replace h := hE
  refine kG 6 50 (m0.f_failed) (fun hb => ?_) (fun hb => ?_)
  ·have h := ite_t hb h
   obtain rfl := Option.some.inj h
   exact kE ⟨[0], 2, [], 0⟩
  have h := ite_f hb h
  obtain rfl := Option.some.inj h
  exact kE ⟨[0], 2, [], 0⟩
 refine b_seq ?_
 refine reg ⟨59, [(4, .nilsl)]⟩ ⟨[[.sl 3 (List.map T_api_Element.cells m0.f_l) .none, .bool y9]], []⟩ ?_ ?_
 ·exact kE ⟨[0], 1, [], 0⟩
 refine b_ret ?_
 obtain rfl := Option.some.inj h
 exact rtn ⟨[0], 1, [], 0⟩ (.inr rfl)
def go_prim_Boolean (n : Nat) (a0 : (List UInt8)) : Option (Bool × Int) :=
 if (a0 == ([0] : List UInt8)) = true then (some (false, 0)) else (if (a0 == ([255] : List UInt8)) = true then (some (true, 0)) else (some (false, 7)))
theorem go_prim_Boolean_ok {n : Nat} {a0 : (List UInt8)} {r : (Bool × Int)} (h : go_prim_Boolean n a0 = some r) : ACalls Tryz.prog (gl0 mx) 200 [.str a0] ⟨[], []⟩ (Out (.tuple [.bool r.1, .int .i64 r.2]) ⟨[], []⟩) := by
 delta go_prim_Boolean at h
 refine fnc Tryz.func200 rfl ?_
 refine b_seq ?_
 refine reg ⟨9, [(0, .str a0)]⟩ ⟨[], []⟩ ?_ ?_
 ·exact kE ⟨[], 0, [], 0⟩
 refine b_seq ?_
 refine b_seq ?_
 refine reg ⟨9, [(4, .str a0)]⟩ ⟨[], []⟩ ?_ ?_
 ·exact kE ⟨[], 0, [], 0⟩
 refine b_block ?_
 refine b_seq ?_
 refine reg ⟨9, [(4, .str a0), (5, .bool (a0 == ([0] : List UInt8)))]⟩ ⟨[], []⟩ ?_ ?_
 ·exact kE ⟨[], 0, [], 0⟩
 refine bif_ (a0 == ([0] : List UInt8)) (fun hb => ?_) (fun hb => ?_)
 ·replace h := ite_t hb h
  refine b_seq ?_
  refine reg ⟨9, [(2, .bool false), (3, .int .i64 0)]⟩ ⟨[], []⟩ ?_ ?_
  ·exact kE ⟨[], 0, [], 0⟩
  refine b_ret ?_
  refine bk_ret ?_
  obtain rfl := Option.some.inj h
  exact rtn ⟨[], 0, [], 0⟩ (.inr rfl)
 replace h := ite_f hb h
 refine b_seq ?_
 refine reg ⟨9, [(7, .bool (a0 == ([255] : List UInt8)))]⟩ ⟨[], []⟩ ?_ ?_
 ·exact kE ⟨[], 0, [], 0⟩
 refine bif_ (a0 == ([255] : List UInt8)) (fun hb => ?_) (fun hb => ?_)
 ·replace h := ite_t hb h
  refine b_seq ?_
  refine reg ⟨9, [(2, .bool true), (3, .int .i64 0)]⟩ ⟨[], []⟩ ?_ ?_
  ·exact kE ⟨[], 0, [], 0⟩
  refine b_ret ?_
  refine bk_ret ?_
  obtain rfl := Option.some.inj h
  exact rtn ⟨[], 0, [], 0⟩ (.inr rfl)
 replace h := ite_f hb h
 refine b_skip ?_
 refine bk_norm ?_
 refine b_seq ?_
 refine reg ⟨9, [(2, .bool false), (3, .int .i64 7)]⟩ ⟨[], []⟩ ?_ ?_
 ·exact kE ⟨[], 0, [], 0⟩
 refine b_ret ?_
 obtain rfl := Option.some.inj h
 exact rtn ⟨[], 0, [], 0⟩ (.inr rfl)
def go_wire_reader_flag (n : Nat) (a1 : Int) (m0 : T_wire_reader) : Option (Bool × T_wire_reader) :=
 (go_wire_reader_optional n a1 m0).bind fun r1 =>
 if (!r1.2.1) = true then (some (false, r1.2.2)) else ((go_prim_Boolean n r1.1.f_Content).bind fun r2 =>
 (go_wire_reader_check n r2.2 r1.2.2).bind fun r3 =>
 some (r2.1, r3))
theorem go_wire_reader_flag_ok {n : Nat} {a1 : Int} {m0 : T_wire_reader} {r : (Bool × T_wire_reader)} (h : go_wire_reader_flag n a1 m0 = some r) : ACalls Tryz.prog (gl0 mx) 145 [.ptr 0 0, .int .i64 a1] ⟨[[.sl 3 (List.map T_api_Element.cells m0.f_l) .none, .bool m0.f_failed]], []⟩ (Out (.bool r.1) ⟨[[.sl 3 (List.map T_api_Element.cells r.2.f_l) .none, .bool r.2.f_failed]], []⟩) := by
 delta go_wire_reader_flag at h
 refine fnc Tryz.func145 rfl ?_
 refine b_seq ?_
 refine reg ⟨27, [(0, .ptr 0 0), (1, .int .i64 a1)]⟩ ⟨[[.sl 3 (List.map T_api_Element.cells m0.f_l) .none, .bool m0.f_failed]], []⟩ ?_ ?_
 ·exact kE ⟨[0], 1, [], 0⟩
 refine b_seq ?_
 obtain ⟨r1, hr1, h⟩ := bindE h
 refine reg ⟨27, [(0, .ptr 0 0), (5, .ptr 1 0), (6, .bool r1.2.1)]⟩ ⟨[[.sl 3 (List.map T_api_Element.cells r1.2.2.f_l) .none, .bool r1.2.2.f_failed], [.int .i64 r1.1.f_Tag, .str r1.1.f_Content, .str r1.1.f_Raw]], []⟩ ?_ ?_
 ·refine kC 2 ⟨[0], 1, [], 0⟩ (go_wire_reader_optional_ok hr1) ?_
  exact kE ⟨[0, 1], 2, [], 0⟩
 refine b_seq ?_
 refine b_seq ?_
 refine reg ⟨27, [(0, .ptr 0 0), (5, .ptr 1 0), (16, .bool (!r1.2.1))]⟩ ⟨[[.sl 3 (List.map T_api_Element.cells r1.2.2.f_l) .none, .bool r1.2.2.f_failed], [.int .i64 r1.1.f_Tag, .str r1.1.f_Content, .str r1.1.f_Raw]], []⟩ ?_ ?_
 ·exact kE ⟨[0, 1], 2, [], 0⟩
 refine bif_ (!r1.2.1) (fun hb => ?_) (fun hb => ?_)
 ·replace h := ite_t hb h
  refine b_seq ?_
  refine reg ⟨27, [(4, .bool false)]⟩ ⟨[[.sl 3 (List.map T_api_Element.cells r1.2.2.f_l) .none, .bool r1.2.2.f_failed]], []⟩ ?_ ?_
  ·exact kE ⟨[0], 2, [], 0⟩
  refine b_ret ?_
  obtain rfl := Option.some.inj h
  exact rtn ⟨[0], 1, [], 0⟩ (.inr rfl)
 replace h := ite_f hb h
 refine b_skip ?_
 refine b_seq ?_
 obtain ⟨r2, hr2, h⟩ := bindE h
 refine reg ⟨27, [(0, .ptr 0 0), (7, .bool r2.1), (8, .int .i64 r2.2)]⟩ ⟨[[.sl 3 (List.map T_api_Element.cells r1.2.2.f_l) .none, .bool r1.2.2.f_failed]], []⟩ ?_ ?_
 ·refine kC 2 ⟨[], 2, [], 0⟩ (go_prim_Boolean_ok hr2) ?_
  exact kE ⟨[0], 2, [], 0⟩
 refine b_seq ?_
 obtain ⟨r3, hr3, h⟩ := bindE h
 refine reg ⟨27, [(7, .bool r2.1)]⟩ ⟨[[.sl 3 (List.map T_api_Element.cells r3.f_l) .none, .bool r3.f_failed]], []⟩ ?_ ?_
 ·refine kC 2 ⟨[0], 1, [], 0⟩ (go_wire_reader_check_ok hr3) ?_
  exact kE ⟨[0], 1, [], 0⟩
 refine b_seq ?_
 refine reg ⟨27, [(4, .bool r2.1)]⟩ ⟨[[.sl 3 (List.map T_api_Element.cells r3.f_l) .none, .bool r3.f_failed]], []⟩ ?_ ?_
 ·exact kE ⟨[0], 1, [], 0⟩
 refine b_ret ?_
 obtain rfl := Option.some.inj h
 exact rtn ⟨[0], 1, [], 0⟩ (.inr rfl)
def go_tlv_Ascending_l1 (n : Nat) (a0 : (List T_api_Element)) : Nat → Int → Option (Ctl Bool Unit)
 | 0, _ => none
 | k + 1, v21 =>
  if (decide (v21 < (List.length a0 : Int))) = true then ((lidx a0 v21).bind fun x28 =>
  (lidx a0 (IntKind.wrap .i64 (v21 - 1))).bind fun x29 =>
  if (Op.bytesLess x28.f_Raw x29.f_Raw) = true then (some (.ret false)) else (go_tlv_Ascending_l1 n a0 k (IntKind.wrap .i64 (v21 + 1)))) else (some (.nxt ()))
def go_tlv_Ascending (n : Nat) (a0 : (List T_api_Element)) : Option Bool :=
 ctlB (go_tlv_Ascending_l1 n a0 n 1) (fun r => some r) (fun y14 =>
 some true)
theorem go_tlv_Ascending_ok {n : Nat} {a0 : (List T_api_Element)} {r : Bool} (h : go_tlv_Ascending n a0 = some r) : ACalls Tryz.prog (gl0 mx) 247 [.sl 3 (List.map T_api_Element.cells a0) .none] ⟨[], []⟩ (Out (.bool r) ⟨[], []⟩) := by
 delta go_tlv_Ascending at h
 refine fnc Tryz.func247 rfl ?_
 refine b_seq ?_
 refine reg ⟨22, [(0, .sl 3 (List.map T_api_Element.cells a0) .none)]⟩ ⟨[], []⟩ ?_ ?_
 ·exact kE ⟨[], 0, [], 0⟩
 refine b_seq ?_
 refine b_seq ?_
 refine reg ⟨22, [(0, .sl 3 (List.map T_api_Element.cells a0) .none), (3, .int .i64 1)]⟩ ⟨[], []⟩ ?_ ?_
 ·exact kE ⟨[], 0, [], 0⟩
 obtain ⟨o15, hE, hr16, h⟩ := ctlE h
 refine b_blockE (Y := Unit) (fun _ => ⟨22, []⟩) (fun _ => ⟨[], []⟩) (fun z => o15 = .nxt z) ?_ cl_cons (fun y14 hy => ?_)
 ·replace h := hE
  refine b_loop (X := Int) (fun x => ⟨22, [(0, .sl 3 (List.map T_api_Element.cells a0) .none), (3, .int .i64 x)]⟩) (fun x => ⟨[], []⟩) (fun k x => go_tlv_Ascending_l1 n a0 k x = some o15) (fun _ hx => by simp [go_tlv_Ascending_l1] at hx) n 1 h (wk ⟨[], 0, [], 0⟩) (fun k x h => ?_)
  revert h; revert x; intro v21 h
  rw [go_tlv_Ascending_l1] at h
  refine b_seq ?_
  refine b_seq ?_
  refine reg ⟨22, [(0, .sl 3 (List.map T_api_Element.cells a0) .none), (3, .int .i64 v21), (7, .bool (decide (v21 < (List.length a0 : Int))))]⟩ ⟨[], []⟩ ?_ ?_
  ·refine kP 2 (x_len (c := T_api_Element.cells) (l := a0) (e := 103) (sz := 3) (sz' := 3) (b := 40) (tok := .none)) ?_
   exact kE ⟨[], 0, [], 0⟩
  refine bif_ (decide (v21 < (List.length a0 : Int))) (fun hb => ?_) (fun hb => ?_)
  ·replace h := ite_t hb h
   refine b_skip ?_
   refine b_seq ?_
   refine b_block ?_
   refine b_seq ?_
   obtain ⟨x28, hx28, h⟩ := bindE h
   obtain ⟨x29, hx29, h⟩ := bindE h
   refine drw [0, 1, 2, 3, 4, 5, 6, 7, 8, 9, 10, 11] [] [[], [], [0, 1], [0, 1, 2], [0, 1, 2, 3], [], [], [6], [5, 6, 7], [5, 6, 7, 8], [5, 6, 7, 8, 9], [0, 1, 2, 3, 4, 5, 6, 7, 8, 9, 10]] ⟨22, [(0, .sl 3 (List.map T_api_Element.cells a0) .none), (3, .int .i64 v21), (21, .bool (Op.bytesLess x28.f_Raw x29.f_Raw))]⟩ ⟨[], []⟩ ?_ ?_
   ·refine dS [0, 1] ?_
    refine dP (x_lidx (c := T_api_Element.cells) (e := 103) (sz := 3) (b := 40) (tok := .none) hx28) ?_
    refine dS [3, 4, 5, 6, 7] ?_
    refine dP (x_lidx (c := T_api_Element.cells) (e := 103) (sz := 3) (b := 40) (tok := .none) hx29) ?_
    refine dS [9, 10, 11] ?_
    exact dE ⟨[], 0, [], 0⟩
   refine bif_ (Op.bytesLess x28.f_Raw x29.f_Raw) (fun hb => ?_) (fun hb => ?_)
   ·replace h := ite_t hb h
    refine b_seq ?_
    refine reg ⟨22, [(2, .bool false)]⟩ ⟨[], []⟩ ?_ ?_
    ·exact kE ⟨[], 0, [], 0⟩
    refine b_ret ?_
    refine bk_ret ?_
    refine tk_ret ?_
    replace h := hr16 _ (Option.some.inj h).symm
    refine bl_ret ?_
    obtain rfl := Option.some.inj h
    exact rtn ⟨[], 0, [], 0⟩ (.inr rfl)
   replace h := ite_f hb h
   refine b_skip ?_
   refine bk_norm ?_
   refine regN ⟨22, [(0, .sl 3 (List.map T_api_Element.cells a0) .none), (3, .int .i64 (IntKind.wrap .i64 (v21 + 1)))]⟩ ⟨[], []⟩ cl_loopT ?_ ?_
   ·exact kE ⟨[], 0, [], 0⟩
   exact ⟨IntKind.wrap .i64 (v21 + 1), h, wk ⟨[], 0, [], 0⟩⟩
  replace h := ite_f hb h
  refine b_exit ?_
  refine tk_exit ?_
  refine bl_exit ?_
  exact ⟨(), (Option.some.inj h).symm, wk ⟨[], 0, [], 0⟩⟩
 replace h := h _ hy
 refine b_seq ?_
 refine reg ⟨22, [(2, .bool true)]⟩ ⟨[], []⟩ ?_ ?_
 ·exact kE ⟨[], 0, [], 0⟩
 refine b_ret ?_
 obtain rfl := Option.some.inj h
 exact rtn ⟨[], 0, [], 0⟩ (.inr rfl)
def go_dname_decodeAttribute (n : Nat) (a0 : T_api_Element) : Option (T_api_Attribute × Int) :=
 if (a0.f_Tag != 48) = true then (some ((T_api_Attribute.mk ([] : List UInt8) 0 ([] : List UInt8)), 5)) else ((go_tlv_List n a0.f_Content).bind fun r1 =>
 if (r1.2 != 0) = true then (some ((T_api_Attribute.mk ([] : List UInt8) 0 ([] : List UInt8)), r1.2)) else (if (decide ((List.length r1.1 : Int) < 1)) = true then (some ((T_api_Attribute.mk ([] : List UInt8) 0 ([] : List UInt8)), 3)) else ((lidx r1.1 0).bind fun x2 =>
 if (x2.f_Tag != 6) = true then (some ((T_api_Attribute.mk ([] : List UInt8) 0 ([] : List UInt8)), 5)) else (none))))
theorem go_dname_decodeAttribute_ok {n : Nat} {a0 : T_api_Element} {r : (T_api_Attribute × Int)} (h : go_dname_decodeAttribute n a0 = some r) : ACalls Tryz.prog (gl0 mx) 248 [.agg [.int .i64 a0.f_Tag, .str a0.f_Content, .str a0.f_Raw]] ⟨[], []⟩ (Out (.tuple [.agg [.str r.1.f_Type, .int .i64 r.1.f_Kind, .str r.1.f_Value], .int .i64 r.2]) ⟨[], []⟩) := by
 delta go_dname_decodeAttribute at h
 refine fnc Tryz.func248 rfl ?_
 refine b_seq ?_
 refine reg ⟨71, [(1, .ptr 0 0), (2, .ptr 1 0)]⟩ ⟨[[.int .i64 a0.f_Tag, .str a0.f_Content, .str a0.f_Raw], [.str ([] : List UInt8), .int .i64 0, .str ([] : List UInt8)]], []⟩ ?_ ?_
 ·exact kE ⟨[0, 1], 2, [], 0⟩
 refine b_seq ?_
 refine reg ⟨71, [(1, .ptr 0 0), (2, .ptr 1 0), (4, .ptr 2 0)]⟩ ⟨[[.int .i64 a0.f_Tag, .str a0.f_Content, .str a0.f_Raw], [.str ([] : List UInt8), .int .i64 0, .str ([] : List UInt8)], [.str ([] : List UInt8), .int .i64 0, .str ([] : List UInt8)]], []⟩ ?_ ?_
 ·exact kE ⟨[0, 1, 2], 3, [], 0⟩
 refine b_seq ?_
 refine b_seq ?_
 refine reg ⟨71, [(1, .ptr 0 0), (2, .ptr 1 0), (4, .ptr 2 0), (10, .bool (a0.f_Tag != 48))]⟩ ⟨[[.int .i64 a0.f_Tag, .str a0.f_Content, .str a0.f_Raw], [.str ([] : List UInt8), .int .i64 0, .str ([] : List UInt8)], [.str ([] : List UInt8), .int .i64 0, .str ([] : List UInt8)]], []⟩ ?_ ?_
 ·exact kE ⟨[0, 1, 2], 3, [], 0⟩
 refine bif_ (a0.f_Tag != 48) (fun hb => ?_) (fun hb => ?_)
 ·replace h := ite_t hb h
  refine b_seq ?_
  refine reg ⟨71, [(2, .ptr 0 0), (3, .int .i64 5)]⟩ ⟨[[.str ([] : List UInt8), .int .i64 0, .str ([] : List UInt8)]], []⟩ ?_ ?_
  ·exact kE ⟨[1], 3, [], 0⟩
  refine b_ret ?_
  obtain rfl := Option.some.inj h
  exact rtn ⟨[], 1, [], 0⟩ (.inr rfl)
 replace h := ite_f hb h
 refine b_skip ?_
 refine b_seq ?_
 obtain ⟨r1, hr1, h⟩ := bindE h
 refine reg ⟨71, [(2, .ptr 0 0), (4, .ptr 1 0), (5, .sl 3 (List.map T_api_Element.cells r1.1) .none), (6, .int .i64 r1.2)]⟩ ⟨[[.str ([] : List UInt8), .int .i64 0, .str ([] : List UInt8)], [.str ([] : List UInt8), .int .i64 0, .str ([] : List UInt8)]], []⟩ ?_ ?_
 ·refine kC 2 ⟨[], 3, [], 0⟩ (go_tlv_List_ok hr1) ?_
  exact kE ⟨[1, 2], 3, [], 0⟩
 refine b_seq ?_
 refine b_seq ?_
 refine reg ⟨71, [(2, .ptr 0 0), (4, .ptr 1 0), (5, .sl 3 (List.map T_api_Element.cells r1.1) .none), (6, .int .i64 r1.2), (19, .bool (r1.2 != 0))]⟩ ⟨[[.str ([] : List UInt8), .int .i64 0, .str ([] : List UInt8)], [.str ([] : List UInt8), .int .i64 0, .str ([] : List UInt8)]], []⟩ ?_ ?_
 ·exact kE ⟨[0, 1], 2, [], 0⟩
 refine bif_ (r1.2 != 0) (fun hb => ?_) (fun hb => ?_)
 ·replace h := ite_t hb h
  refine b_seq ?_
  refine reg ⟨71, [(2, .ptr 0 0), (3, .int .i64 r1.2)]⟩ ⟨[[.str ([] : List UInt8), .int .i64 0, .str ([] : List UInt8)]], []⟩ ?_ ?_
  ·exact kE ⟨[0], 2, [], 0⟩
  refine b_ret ?_
  obtain rfl := Option.some.inj h
  exact rtn ⟨[], 1, [], 0⟩ (.inr rfl)
 replace h := ite_f hb h
 refine b_skip ?_
 refine b_seq ?_
 refine b_seq ?_
 refine reg ⟨71, [(2, .ptr 0 0), (4, .ptr 1 0), (5, .sl 3 (List.map T_api_Element.cells r1.1) .none), (24, .bool (decide ((List.length r1.1 : Int) < 1)))]⟩ ⟨[[.str ([] : List UInt8), .int .i64 0, .str ([] : List UInt8)], [.str ([] : List UInt8), .int .i64 0, .str ([] : List UInt8)]], []⟩ ?_ ?_
 ·refine kP 1 (x_len (c := T_api_Element.cells) (l := r1.1) (e := 103) (sz := 3) (sz' := 3) (b := 40) (tok := .none)) ?_
  exact kE ⟨[0, 1], 2, [], 0⟩
 refine bif_ (decide ((List.length r1.1 : Int) < 1)) (fun hb => ?_) (fun hb => ?_)
 ·replace h := ite_t hb h
  refine b_seq ?_
  refine reg ⟨71, [(2, .ptr 0 0), (3, .int .i64 3)]⟩ ⟨[[.str ([] : List UInt8), .int .i64 0, .str ([] : List UInt8)]], []⟩ ?_ ?_
  ·exact kE ⟨[0], 2, [], 0⟩
  refine b_ret ?_
  obtain rfl := Option.some.inj h
  exact rtn ⟨[], 1, [], 0⟩ (.inr rfl)
 replace h := ite_f hb h
 refine b_skip ?_
 refine b_seq ?_
 refine b_seq ?_
 obtain ⟨x2, hx2, h⟩ := bindE h
 refine reg ⟨71, [(2, .ptr 0 0), (4, .ptr 1 0), (5, .sl 3 (List.map T_api_Element.cells r1.1) .none), (30, .bool (x2.f_Tag != 6))]⟩ ⟨[[.str ([] : List UInt8), .int .i64 0, .str ([] : List UInt8)], [.str ([] : List UInt8), .int .i64 0, .str ([] : List UInt8)]], []⟩ ?_ ?_
 ·refine kP 1 (x_lidx (c := T_api_Element.cells) (e := 103) (sz := 3) (b := 40) (tok := .none) hx2) ?_
  exact kE ⟨[0, 1], 2, [], 0⟩
 refine bif_ (x2.f_Tag != 6) (fun hb => ?_) (fun hb => ?_)
 ·replace h := ite_t hb h
  refine b_seq ?_
  refine reg ⟨71, [(2, .ptr 0 0), (3, .int .i64 5)]⟩ ⟨[[.str ([] : List UInt8), .int .i64 0, .str ([] : List UInt8)]], []⟩ ?_ ?_
  ·exact kE ⟨[0], 2, [], 0⟩
  refine b_ret ?_
  obtain rfl := Option.some.inj h
  exact rtn ⟨[], 1, [], 0⟩ (.inr rfl)
 replace h := ite_f hb h
 cases h
def go_dname_decodeRelative_l1 (n : Nat) (r1 : ((List T_api_Element) × Int)) : Nat → (List T_api_Attribute) → Int → Option (Ctl ((List T_api_Attribute) × Int) (List T_api_Attribute))
 | 0, _, _ => none
 | k + 1, v35, v36 =>
  if (decide (v36 < (List.length r1.1 : Int))) = true then ((lidx r1.1 v36).bind fun x46 =>
  (go_dname_decodeAttribute n x46).bind fun r47 =>
  if (r47.2 != 0) = true then (some (.ret (([] : (List T_api_Attribute)), r47.2))) else ((lapp 40 v35 ([r47.1] : List T_api_Attribute)).bind fun x48 =>
  go_dname_decodeRelative_l1 n r1 k x48 (IntKind.wrap .i64 (v36 + 1)))) else (some (.nxt v35))
def go_dname_decodeRelative (n : Nat) (a0 : T_api_Element) : Option ((List T_api_Attribute) × Int) :=
 if (a0.f_Tag != 49) = true then (some (([] : (List T_api_Attribute)), 5)) else ((go_tlv_List n a0.f_Content).bind fun r1 =>
 if (r1.2 != 0) = true then (some (([] : (List T_api_Attribute)), r1.2)) else ((go_tlv_Ascending n r1.1).bind fun r2 =>
 if (!r2) = true then (some (([] : (List T_api_Attribute)), 9)) else (ctlB (go_dname_decodeRelative_l1 n r1 n ([] : List T_api_Attribute) 0) (fun r => some r) (fun y25 =>
 some (y25, 0)))))
theorem go_dname_decodeRelative_ok {n : Nat} {a0 : T_api_Element} {r : ((List T_api_Attribute) × Int)} (h : go_dname_decodeRelative n a0 = some r) : ACalls Tryz.prog (gl0 mx) 216 [.agg [.int .i64 a0.f_Tag, .str a0.f_Content, .str a0.f_Raw]] ⟨[], []⟩ (Out (.tuple [.sl 3 (List.map T_api_Attribute.cells r.1) .none, .int .i64 r.2]) ⟨[], []⟩) := by
 delta go_dname_decodeRelative at h
 refine fnc Tryz.func216 rfl ?_
 refine b_seq ?_
 refine reg ⟨46, [(1, .ptr 0 0)]⟩ ⟨[[.int .i64 a0.f_Tag, .str a0.f_Content, .str a0.f_Raw]], []⟩ ?_ ?_
 ·exact kE ⟨[0], 1, [], 0⟩
 refine b_seq ?_
 refine b_seq ?_
 refine reg ⟨46, [(1, .ptr 0 0), (13, .bool (a0.f_Tag != 49))]⟩ ⟨[[.int .i64 a0.f_Tag, .str a0.f_Content, .str a0.f_Raw]], []⟩ ?_ ?_
 ·exact kE ⟨[0], 1, [], 0⟩
 refine bif_ (a0.f_Tag != 49) (fun hb => ?_) (fun hb => ?_)
 ·replace h := ite_t hb h
  refine b_seq ?_
  refine reg ⟨46, [(2, .nilsl), (3, .int .i64 5)]⟩ ⟨[], []⟩ ?_ ?_
  ·exact kE ⟨[], 1, [], 0⟩
  refine b_ret ?_
  obtain rfl := Option.some.inj h
  exact rtn ⟨[], 0, [], 0⟩ (.inr rfl)
 replace h := ite_f hb h
 refine b_skip ?_
 refine b_seq ?_
 obtain ⟨r1, hr1, h⟩ := bindE h
 refine reg ⟨46, [(4, .sl 3 (List.map T_api_Element.cells r1.1) .none), (5, .int .i64 r1.2)]⟩ ⟨[], []⟩ ?_ ?_
 ·refine kC 2 ⟨[], 1, [], 0⟩ (go_tlv_List_ok hr1) ?_
  exact kE ⟨[], 1, [], 0⟩
 refine b_seq ?_
 refine b_seq ?_
 refine reg ⟨46, [(4, .sl 3 (List.map T_api_Element.cells r1.1) .none), (5, .int .i64 r1.2), (21, .bool (r1.2 != 0))]⟩ ⟨[], []⟩ ?_ ?_
 ·exact kE ⟨[], 0, [], 0⟩
 refine bif_ (r1.2 != 0) (fun hb => ?_) (fun hb => ?_)
 ·replace h := ite_t hb h
  refine b_seq ?_
  refine reg ⟨46, [(2, .nilsl), (3, .int .i64 r1.2)]⟩ ⟨[], []⟩ ?_ ?_
  ·exact kE ⟨[], 0, [], 0⟩
  refine b_ret ?_
  obtain rfl := Option.some.inj h
  exact rtn ⟨[], 0, [], 0⟩ (.inr rfl)
 replace h := ite_f hb h
 refine b_skip ?_
 refine b_seq ?_
 refine b_seq ?_
 obtain ⟨r2, hr2, h⟩ := bindE h
 refine reg ⟨46, [(4, .sl 3 (List.map T_api_Element.cells r1.1) .none), (25, .bool (!r2))]⟩ ⟨[], []⟩ ?_ ?_
 ·refine kC 1 ⟨[], 0, [], 0⟩ (go_tlv_Ascending_ok hr2) ?_
  exact kE ⟨[], 0, [], 0⟩
 refine bif_ (!r2) (fun hb => ?_) (fun hb => ?_)
 ·replace h := ite_t hb h
  refine b_seq ?_
  refine reg ⟨46, [(2, .nilsl), (3, .int .i64 9)]⟩ ⟨[], []⟩ ?_ ?_
  ·exact kE ⟨[], 0, [], 0⟩
  refine b_ret ?_
  obtain rfl := Option.some.inj h
  exact rtn ⟨[], 0, [], 0⟩ (.inr rfl)
 replace h := ite_f hb h
 refine b_skip ?_
 refine b_seq ?_
 refine reg ⟨46, [(4, .sl 3 (List.map T_api_Element.cells r1.1) .none), (6, .nilsl)]⟩ ⟨[], []⟩ ?_ ?_
 ·exact kE ⟨[], 0, [], 0⟩
 refine b_seq ?_
 refine b_seq ?_
 refine reg ⟨46, [(6, .nilsl), (26, .sl 3 (List.map T_api_Element.cells r1.1) .none), (27, .int .i64 (List.length r1.1 : Int)), (28, .int .i64 0)]⟩ ⟨[], []⟩ ?_ ?_
 ·refine kP 1 (x_len (c := T_api_Element.cells) (l := r1.1) (e := 103) (sz := 3) (sz' := 3) (b := 40) (tok := .none)) ?_
  exact kE ⟨[], 0, [], 0⟩
 obtain ⟨o26, hE, hr27, h⟩ := ctlE h
 refine b_blockE (Y := (List T_api_Attribute)) (fun y25 => ⟨46, [(6, .sl 3 (List.map T_api_Attribute.cells y25) (.fam 0 (List.length y25)))]⟩) (fun y25 => ⟨[], [List.length y25]⟩) (fun z => o26 = .nxt z) ?_ cl_cons (fun y25 hy => ?_)
 ·replace h := hE
  refine b_wk (wk (fr' := ⟨46, [(6, .nilsl), (26, .sl 3 (List.map T_api_Element.cells r1.1) .none), (27, .int .i64 (List.length r1.1 : Int)), (28, .int .i64 0)]⟩) (st' := ⟨[], []⟩) ⟨[], 0, [], 0⟩) ?_
  refine b_wk Wk.nilFam ?_
  refine b_loop (X := ((List T_api_Attribute) × Int)) (fun x => ⟨46, [(6, .sl 3 (List.map T_api_Attribute.cells x.1) (.fam 0 (List.length x.1))), (26, .sl 3 (List.map T_api_Element.cells r1.1) .none), (27, .int .i64 (List.length r1.1 : Int)), (28, .int .i64 x.2)]⟩) (fun x => ⟨[], [List.length x.1]⟩) (fun k x => go_dname_decodeRelative_l1 n r1 k x.1 x.2 = some o26) (fun _ hx => by simp [go_dname_decodeRelative_l1] at hx) n (([] : List T_api_Attribute), 0) h (wk ⟨[], 0, [0], 1⟩) (fun k x h => ?_)
  obtain ⟨v35, v36⟩ := x
  rw [go_dname_decodeRelative_l1] at h
  refine b_seq ?_
  refine reg ⟨46, [(6, .sl 3 (List.map T_api_Attribute.cells v35) (.fam 0 (List.length v35))), (26, .sl 3 (List.map T_api_Element.cells r1.1) .none), (27, .int .i64 (List.length r1.1 : Int)), (28, .int .i64 v36), (29, .bool (decide (v36 < (List.length r1.1 : Int))))]⟩ ⟨[], [List.length v35]⟩ ?_ ?_
  ·exact kE ⟨[], 0, [0], 1⟩
  refine b_seq ?_
  refine bif_ (decide (v36 < (List.length r1.1 : Int))) (fun hb => ?_) (fun hb => ?_)
  ·replace h := ite_t hb h
   refine b_skip ?_
   refine b_seq ?_
   refine b_block ?_
   refine b_seq ?_
   obtain ⟨x46, hx46, h⟩ := bindE h
   refine reg ⟨46, [(6, .sl 3 (List.map T_api_Attribute.cells v35) (.fam 0 (List.length v35))), (8, .ptr 0 0), (26, .sl 3 (List.map T_api_Element.cells r1.1) .none), (27, .int .i64 (List.length r1.1 : Int)), (28, .int .i64 v36)]⟩ ⟨[[.int .i64 x46.f_Tag, .str x46.f_Content, .str x46.f_Raw]], [List.length v35]⟩ ?_ ?_
   ·refine kP 0 (x_lidx (c := T_api_Element.cells) (e := 103) (sz := 3) (b := 40) (tok := .none) hx46) ?_
    exact kE ⟨[0], 1, [0], 1⟩
   refine b_seq ?_
   obtain ⟨r47, hr47, h⟩ := bindE h
   refine reg ⟨46, [(6, .sl 3 (List.map T_api_Attribute.cells v35) (.fam 0 (List.length v35))), (9, .ptr 0 0), (10, .int .i64 r47.2), (26, .sl 3 (List.map T_api_Element.cells r1.1) .none), (27, .int .i64 (List.length r1.1 : Int)), (28, .int .i64 v36)]⟩ ⟨[[.str r47.1.f_Type, .int .i64 r47.1.f_Kind, .str r47.1.f_Value]], [List.length v35]⟩ ?_ ?_
   ·refine kC 1 ⟨[], 1, [], 1⟩ (go_dname_decodeAttribute_ok hr47) ?_
    exact kE ⟨[1], 2, [0], 1⟩
   refine b_seq ?_
   refine b_seq ?_
   refine reg ⟨46, [(6, .sl 3 (List.map T_api_Attribute.cells v35) (.fam 0 (List.length v35))), (9, .ptr 0 0), (10, .int .i64 r47.2), (26, .sl 3 (List.map T_api_Element.cells r1.1) .none), (27, .int .i64 (List.length r1.1 : Int)), (28, .int .i64 v36), (38, .bool (r47.2 != 0))]⟩ ⟨[[.str r47.1.f_Type, .int .i64 r47.1.f_Kind, .str r47.1.f_Value]], [List.length v35]⟩ ?_ ?_
   ·exact kE ⟨[0], 1, [0], 1⟩
   refine bif_ (r47.2 != 0) (fun hb => ?_) (fun hb => ?_)
   ·replace h := ite_t hb h
    refine b_seq ?_
    refine reg ⟨46, [(2, .nilsl), (3, .int .i64 r47.2)]⟩ ⟨[], []⟩ ?_ ?_
    ·exact kE ⟨[], 1, [], 1⟩
    refine b_ret ?_
    refine bk_ret ?_
    refine tk_ret ?_
    replace h := hr27 _ (Option.some.inj h).symm
    refine bl_ret ?_
    obtain rfl := Option.some.inj h
    exact rtn ⟨[], 0, [], 0⟩ (.inr rfl)
   replace h := ite_f hb h
   refine b_skip ?_
   obtain ⟨x48, hx48, h⟩ := bindE h
   refine regN ⟨46, [(6, .sl 3 (List.map T_api_Attribute.cells x48) (.fam 0 (List.length x48))), (26, .sl 3 (List.map T_api_Element.cells r1.1) .none), (27, .int .i64 (List.length r1.1 : Int)), (28, .int .i64 v36)]⟩ ⟨[], [List.length x48]⟩ cl_cons ?_ ?_
   ·refine kA 3 0 T_api_Attribute.cells (e := 140) (e2 := 140) (sz := 3) (bytes := 40) (b2 := 40) (tok2 := .exact) hx48 ?_
    exact kE ⟨[], 1, [0], 1⟩
   refine bk_norm ?_
   refine regN ⟨46, [(6, .sl 3 (List.map T_api_Attribute.cells x48) (.fam 0 (List.length x48))), (26, .sl 3 (List.map T_api_Element.cells r1.1) .none), (27, .int .i64 (List.length r1.1 : Int)), (28, .int .i64 (IntKind.wrap .i64 (v36 + 1)))]⟩ ⟨[], [List.length x48]⟩ cl_loopT ?_ ?_
   ·exact kE ⟨[], 0, [0], 1⟩
   exact ⟨(x48, IntKind.wrap .i64 (v36 + 1)), h, wk ⟨[], 0, [0], 1⟩⟩
  replace h := ite_f hb h
  refine b_exit ?_
  refine tk_exit ?_
  refine bl_exit ?_
  exact ⟨v35, (Option.some.inj h).symm, wk ⟨[], 0, [0], 1⟩⟩
 replace h := h _ hy
 refine b_seq ?_
 refine reg ⟨46, [(2, .sl 3 (List.map T_api_Attribute.cells y25) (.fam 0 (List.length y25))), (3, .int .i64 0)]⟩ ⟨[], [List.length y25]⟩ ?_ ?_
 ·exact kE ⟨[], 0, [0], 1⟩
 refine b_ret ?_
 obtain rfl := Option.some.inj h
 exact rtn ⟨[], 0, [], 1⟩ (.inr rfl)
def go_dname_Decode_l1 (n : Nat) (r2 : ((List T_api_Element) × Int)) : Nat → Int → (List (List T_api_Attribute)) → Option (Ctl (T_api_Name × Int) (List (List T_api_Attribute)))
 | 0, _, _ => none
 | k + 1, v35, v36 =>
  if (decide (v35 < (List.length r2.1 : Int))) = true then ((lidx r2.1 v35).bind fun x46 =>
  (go_dname_decodeRelative n x46).bind fun r47 =>
  if (r47.2 != 0) = true then (some (.ret ((T_api_Name.mk ([] : (List (List T_api_Attribute)))), r47.2))) else ((lapp 24 v36 ([r47.1] : List (List T_api_Attribute))).bind fun x48 =>
  go_dname_Decode_l1 n r2 k (IntKind.wrap .i64 (v35 + 1)) x48)) else (some (.nxt v36))
def go_dname_Decode (n : Nat) (a0 : (List UInt8)) : Option (T_api_Name × Int) :=
 (go_tlv_One n a0).bind fun r1 =>
 if (r1.2 != 0) = true then (some ((T_api_Name.mk ([] : (List (List T_api_Attribute)))), r1.2)) else (if (r1.1.f_Tag != 48) = true then (some ((T_api_Name.mk ([] : (List (List T_api_Attribute)))), 5)) else ((go_tlv_List n r1.1.f_Content).bind fun r2 =>
 if (r2.2 != 0) = true then (some ((T_api_Name.mk ([] : (List (List T_api_Attribute)))), r2.2)) else (ctlB (go_dname_Decode_l1 n r2 n 0 ([] : List (List T_api_Attribute))) (fun r => some r) (fun y25 =>
 (go_dname_Check n (T_api_Name.mk y25)).bind fun r49 =>
 if (r49 != 0) = true then (some ((T_api_Name.mk ([] : (List (List T_api_Attribute)))), r49)) else (some ((T_api_Name.mk y25), 0))))))
theorem go_dname_Decode_ok {n : Nat} {a0 : (List UInt8)} {r : (T_api_Name × Int)} (h : go_dname_Decode n a0 = some r) : ACalls Tryz.prog (gl0 mx) 166 [.str a0] ⟨[], []⟩ (Out (.tuple [.agg [.sl 1 (List.map (cL 3 T_api_Attribute.cells) r.1.f_RDNs) .none], .int .i64 r.2]) ⟨[], []⟩) := by
 delta go_dname_Decode at h
 refine fnc Tryz.func166 rfl ?_
 refine b_seq ?_
 refine reg ⟨66, [(0, .str a0), (2, .ptr 0 0)]⟩ ⟨[[.nilsl]], []⟩ ?_ ?_
 ·exact kE ⟨[0], 1, [], 0⟩
 refine b_seq ?_
 refine reg ⟨66, [(0, .str a0), (2, .ptr 0 0), (4, .ptr 1 0)]⟩ ⟨[[.nilsl], [.nilsl]], []⟩ ?_ ?_
 ·exact kE ⟨[0, 1], 2, [], 0⟩
 refine b_seq ?_
 obtain ⟨r1, hr1, h⟩ := bindE h
 refine reg ⟨66, [(2, .ptr 0 0), (4, .ptr 1 0), (5, .ptr 2 0), (6, .int .i64 r1.2)]⟩ ⟨[[.nilsl], [.nilsl], [.int .i64 r1.1.f_Tag, .str r1.1.f_Content, .str r1.1.f_Raw]], []⟩ ?_ ?_
 ·refine kC 1 ⟨[], 2, [], 0⟩ (go_tlv_One_ok hr1) ?_
  exact kE ⟨[0, 1, 2], 3, [], 0⟩
 refine b_seq ?_
 refine b_seq ?_
 refine reg ⟨66, [(2, .ptr 0 0), (4, .ptr 1 0), (5, .ptr 2 0), (6, .int .i64 r1.2), (20, .bool (r1.2 != 0))]⟩ ⟨[[.nilsl], [.nilsl], [.int .i64 r1.1.f_Tag, .str r1.1.f_Content, .str r1.1.f_Raw]], []⟩ ?_ ?_
 ·exact kE ⟨[0, 1, 2], 3, [], 0⟩
 refine bif_ (r1.2 != 0) (fun hb => ?_) (fun hb => ?_)
 ·replace h := ite_t hb h
  refine b_seq ?_
  refine reg ⟨66, [(2, .ptr 0 0), (3, .int .i64 r1.2)]⟩ ⟨[[.nilsl]], []⟩ ?_ ?_
  ·exact kE ⟨[0], 3, [], 0⟩
  refine b_ret ?_
  obtain rfl := Option.some.inj h
  exact rtn ⟨[], 1, [], 0⟩ (.inr rfl)
 replace h := ite_f hb h
 refine b_skip ?_
 refine b_seq ?_
 refine b_seq ?_
 refine reg ⟨66, [(2, .ptr 0 0), (4, .ptr 1 0), (5, .ptr 2 0), (25, .bool (r1.1.f_Tag != 48))]⟩ ⟨[[.nilsl], [.nilsl], [.int .i64 r1.1.f_Tag, .str r1.1.f_Content, .str r1.1.f_Raw]], []⟩ ?_ ?_
 ·exact kE ⟨[0, 1, 2], 3, [], 0⟩
 refine bif_ (r1.1.f_Tag != 48) (fun hb => ?_) (fun hb => ?_)
 ·replace h := ite_t hb h
  refine b_seq ?_
  refine reg ⟨66, [(2, .ptr 0 0), (3, .int .i64 5)]⟩ ⟨[[.nilsl]], []⟩ ?_ ?_
  ·exact kE ⟨[0], 3, [], 0⟩
  refine b_ret ?_
  obtain rfl := Option.some.inj h
  exact rtn ⟨[], 1, [], 0⟩ (.inr rfl)
 replace h := ite_f hb h
 refine b_skip ?_
 refine b_seq ?_
 obtain ⟨r2, hr2, h⟩ := bindE h
 refine reg ⟨66, [(2, .ptr 0 0), (4, .ptr 1 0), (6, .int .i64 r2.2), (7, .sl 3 (List.map T_api_Element.cells r2.1) .none)]⟩ ⟨[[.nilsl], [.nilsl]], []⟩ ?_ ?_
 ·refine kC 2 ⟨[], 3, [], 0⟩ (go_tlv_List_ok hr2) ?_
  exact kE ⟨[0, 1], 3, [], 0⟩
 refine b_seq ?_
 refine b_seq ?_
 refine reg ⟨66, [(2, .ptr 0 0), (4, .ptr 1 0), (6, .int .i64 r2.2), (7, .sl 3 (List.map T_api_Element.cells r2.1) .none), (34, .bool (r2.2 != 0))]⟩ ⟨[[.nilsl], [.nilsl]], []⟩ ?_ ?_
 ·exact kE ⟨[0, 1], 2, [], 0⟩
 refine bif_ (r2.2 != 0) (fun hb => ?_) (fun hb => ?_)
 ·replace h := ite_t hb h
  refine b_seq ?_
  refine reg ⟨66, [(2, .ptr 0 0), (3, .int .i64 r2.2)]⟩ ⟨[[.nilsl]], []⟩ ?_ ?_
  ·exact kE ⟨[0], 2, [], 0⟩
  refine b_ret ?_
  obtain rfl := Option.some.inj h
  exact rtn ⟨[], 1, [], 0⟩ (.inr rfl)
 replace h := ite_f hb h
 refine b_skip ?_
 refine b_seq ?_
 refine reg ⟨66, [(2, .ptr 0 0), (4, .ptr 1 0), (7, .sl 3 (List.map T_api_Element.cells r2.1) .none), (8, .ptr 2 0)]⟩ ⟨[[.nilsl], [.nilsl], [.nilsl]], []⟩ ?_ ?_
 ·exact kE ⟨[0, 1, 2], 3, [], 0⟩
 refine b_seq ?_
 refine b_seq ?_
 refine reg ⟨66, [(2, .ptr 0 0), (4, .ptr 1 0), (8, .ptr 2 0), (37, .sl 3 (List.map T_api_Element.cells r2.1) .none), (38, .int .i64 (List.length r2.1 : Int)), (39, .int .i64 0)]⟩ ⟨[[.nilsl], [.nilsl], [.nilsl]], []⟩ ?_ ?_
 ·refine kP 1 (x_len (c := T_api_Element.cells) (l := r2.1) (e := 103) (sz := 3) (sz' := 3) (b := 40) (tok := .none)) ?_
  exact kE ⟨[0, 1, 2], 3, [], 0⟩
 obtain ⟨o26, hE, hr27, h⟩ := ctlE h
 refine b_blockE (Y := (List (List T_api_Attribute))) (fun y25 => ⟨66, [(2, .ptr 0 0), (4, .ptr 1 0), (8, .ptr 2 0)]⟩) (fun y25 => ⟨[[.nilsl], [.nilsl], [.sl 1 (List.map (cL 3 T_api_Attribute.cells) y25) (.fam 0 (List.length y25))]], [List.length y25]⟩) (fun z => o26 = .nxt z) ?_ cl_cons (fun y25 hy => ?_)
 ·replace h := hE
  refine b_wk (wk (fr' := ⟨66, [(2, .ptr 0 0), (4, .ptr 1 0), (8, .ptr 2 0), (37, .sl 3 (List.map T_api_Element.cells r2.1) .none), (38, .int .i64 (List.length r2.1 : Int)), (39, .int .i64 0)]⟩) (st' := ⟨[[.nilsl], [.nilsl], [.nilsl]], []⟩) ⟨[0, 1, 2], 3, [], 0⟩) ?_
  refine b_wk Wk.nilFam ?_
  refine b_loop (X := (Int × (List (List T_api_Attribute)))) (fun x => ⟨66, [(2, .ptr 0 0), (4, .ptr 1 0), (8, .ptr 2 0), (37, .sl 3 (List.map T_api_Element.cells r2.1) .none), (38, .int .i64 (List.length r2.1 : Int)), (39, .int .i64 x.1)]⟩) (fun x => ⟨[[.nilsl], [.nilsl], [.sl 1 (List.map (cL 3 T_api_Attribute.cells) x.2) (.fam 0 (List.length x.2))]], [List.length x.2]⟩) (fun k x => go_dname_Decode_l1 n r2 k x.1 x.2 = some o26) (fun _ hx => by simp [go_dname_Decode_l1] at hx) n (0, ([] : List (List T_api_Attribute))) h (wk ⟨[0, 1, 2], 3, [0], 1⟩) (fun k x h => ?_)
  obtain ⟨v35, v36⟩ := x
  rw [go_dname_Decode_l1] at h
  refine b_seq ?_
  refine reg ⟨66, [(2, .ptr 0 0), (4, .ptr 1 0), (8, .ptr 2 0), (37, .sl 3 (List.map T_api_Element.cells r2.1) .none), (38, .int .i64 (List.length r2.1 : Int)), (39, .int .i64 v35), (40, .bool (decide (v35 < (List.length r2.1 : Int))))]⟩ ⟨[[.nilsl], [.nilsl], [.sl 1 (List.map (cL 3 T_api_Attribute.cells) v36) (.fam 0 (List.length v36))]], [List.length v36]⟩ ?_ ?_
  ·exact kE ⟨[0, 1, 2], 3, [0], 1⟩
  refine b_seq ?_
  refine bif_ (decide (v35 < (List.length r2.1 : Int))) (fun hb => ?_) (fun hb => ?_)
  ·replace h := ite_t hb h
   refine b_skip ?_
   refine b_seq ?_
   refine b_block ?_
   refine b_seq ?_
   obtain ⟨x46, hx46, h⟩ := bindE h
   refine reg ⟨66, [(2, .ptr 0 0), (4, .ptr 1 0), (8, .ptr 2 0), (10, .ptr 3 0), (37, .sl 3 (List.map T_api_Element.cells r2.1) .none), (38, .int .i64 (List.length r2.1 : Int)), (39, .int .i64 v35)]⟩ ⟨[[.nilsl], [.nilsl], [.sl 1 (List.map (cL 3 T_api_Attribute.cells) v36) (.fam 0 (List.length v36))], [.int .i64 x46.f_Tag, .str x46.f_Content, .str x46.f_Raw]], [List.length v36]⟩ ?_ ?_
   ·refine kP 0 (x_lidx (c := T_api_Element.cells) (e := 103) (sz := 3) (b := 40) (tok := .none) hx46) ?_
    exact kE ⟨[0, 1, 2, 3], 4, [0], 1⟩
   refine b_seq ?_
   obtain ⟨r47, hr47, h⟩ := bindE h
   refine reg ⟨66, [(2, .ptr 0 0), (4, .ptr 1 0), (8, .ptr 2 0), (11, .sl 3 (List.map T_api_Attribute.cells r47.1) .none), (12, .int .i64 r47.2), (37, .sl 3 (List.map T_api_Element.cells r2.1) .none), (38, .int .i64 (List.length r2.1 : Int)), (39, .int .i64 v35)]⟩ ⟨[[.nilsl], [.nilsl], [.sl 1 (List.map (cL 3 T_api_Attribute.cells) v36) (.fam 0 (List.length v36))]], [List.length v36]⟩ ?_ ?_
   ·refine kC 1 ⟨[], 4, [], 1⟩ (go_dname_decodeRelative_ok hr47) ?_
    exact kE ⟨[0, 1, 2], 4, [0], 1⟩
   refine b_seq ?_
   refine b_seq ?_
   refine reg ⟨66, [(2, .ptr 0 0), (4, .ptr 1 0), (8, .ptr 2 0), (11, .sl 3 (List.map T_api_Attribute.cells r47.1) .none), (12, .int .i64 r47.2), (37, .sl 3 (List.map T_api_Element.cells r2.1) .none), (38, .int .i64 (List.length r2.1 : Int)), (39, .int .i64 v35), (49, .bool (r47.2 != 0))]⟩ ⟨[[.nilsl], [.nilsl], [.sl 1 (List.map (cL 3 T_api_Attribute.cells) v36) (.fam 0 (List.length v36))]], [List.length v36]⟩ ?_ ?_
   ·exact kE ⟨[0, 1, 2], 3, [0], 1⟩
   refine bif_ (r47.2 != 0) (fun hb => ?_) (fun hb => ?_)
   ·replace h := ite_t hb h
    refine b_seq ?_
    refine reg ⟨66, [(2, .ptr 0 0), (3, .int .i64 r47.2)]⟩ ⟨[[.nilsl]], []⟩ ?_ ?_
    ·exact kE ⟨[0], 3, [], 1⟩
    refine b_ret ?_
    refine bk_ret ?_
    refine tk_ret ?_
    replace h := hr27 _ (Option.some.inj h).symm
    refine bl_ret ?_
    obtain rfl := Option.some.inj h
    exact rtn ⟨[], 1, [], 0⟩ (.inr rfl)
   replace h := ite_f hb h
   refine b_skip ?_
   obtain ⟨x48, hx48, h⟩ := bindE h
   refine regN ⟨66, [(2, .ptr 0 0), (4, .ptr 1 0), (8, .ptr 2 0), (37, .sl 3 (List.map T_api_Element.cells r2.1) .none), (38, .int .i64 (List.length r2.1 : Int)), (39, .int .i64 v35)]⟩ ⟨[[.nilsl], [.nilsl], [.sl 1 (List.map (cL 3 T_api_Attribute.cells) x48) (.fam 0 (List.length x48))]], [List.length x48]⟩ cl_cons ?_ ?_
   ·refine kA 4 0 (cL 3 T_api_Attribute.cells) (e := 141) (e2 := 141) (sz := 1) (bytes := 24) (b2 := 24) (tok2 := .exact) hx48 ?_
    exact kE ⟨[0, 1, 2], 3, [0], 1⟩
   refine bk_norm ?_
   refine regN ⟨66, [(2, .ptr 0 0), (4, .ptr 1 0), (8, .ptr 2 0), (37, .sl 3 (List.map T_api_Element.cells r2.1) .none), (38, .int .i64 (List.length r2.1 : Int)), (39, .int .i64 (IntKind.wrap .i64 (v35 + 1)))]⟩ ⟨[[.nilsl], [.nilsl], [.sl 1 (List.map (cL 3 T_api_Attribute.cells) x48) (.fam 0 (List.length x48))]], [List.length x48]⟩ cl_loopT ?_ ?_
   ·exact kE ⟨[0, 1, 2], 3, [0], 1⟩
   exact ⟨(IntKind.wrap .i64 (v35 + 1), x48), h, wk ⟨[0, 1, 2], 3, [0], 1⟩⟩
  replace h := ite_f hb h
  refine b_exit ?_
  refine tk_exit ?_
  refine bl_exit ?_
  exact ⟨v36, (Option.some.inj h).symm, wk ⟨[0, 1, 2], 3, [0], 1⟩⟩
 replace h := h _ hy
 refine b_seq ?_
 refine b_seq ?_
 obtain ⟨r49, hr49, h⟩ := bindE h
 refine reg ⟨66, [(2, .ptr 0 0), (4, .ptr 1 0), (8, .ptr 2 0), (13, .int .i64 r49)]⟩ ⟨[[.nilsl], [.nilsl], [.sl 1 (List.map (cL 3 T_api_Attribute.cells) y25) (.fam 0 (List.length y25))]], [List.length y25]⟩ ?_ ?_
 ·refine kC 1 ⟨[], 3, [], 1⟩ (go_dname_Check_ok hr49) ?_
  exact kE ⟨[0, 1, 2], 3, [0], 1⟩
 refine b_seq ?_
 refine reg ⟨66, [(2, .ptr 0 0), (4, .ptr 1 0), (8, .ptr 2 0), (13, .int .i64 r49), (62, .bool (r49 != 0))]⟩ ⟨[[.nilsl], [.nilsl], [.sl 1 (List.map (cL 3 T_api_Attribute.cells) y25) (.fam 0 (List.length y25))]], [List.length y25]⟩ ?_ ?_
 ·exact kE ⟨[0, 1, 2], 3, [0], 1⟩
 refine bif_ (r49 != 0) (fun hb => ?_) (fun hb => ?_)
 ·replace h := ite_t hb h
  refine b_seq ?_
  refine reg ⟨66, [(2, .ptr 0 0), (3, .int .i64 r49)]⟩ ⟨[[.nilsl]], []⟩ ?_ ?_
  ·exact kE ⟨[0], 3, [], 1⟩
  refine b_ret ?_
  obtain rfl := Option.some.inj h
  exact rtn ⟨[], 1, [], 0⟩ (.inr rfl)
 replace h := ite_f hb h
 refine b_skip ?_
 refine b_seq ?_
 refine reg ⟨66, [(2, .ptr 0 0), (3, .int .i64 0)]⟩ ⟨[[.sl 1 (List.map (cL 3 T_api_Attribute.cells) y25) (.fam 0 (List.length y25))]], [List.length y25]⟩ ?_ ?_
 ·exact kE ⟨[0], 3, [0], 1⟩
 refine b_ret ?_
 obtain rfl := Option.some.inj h
 exact rtn ⟨[], 1, [], 1⟩ (.inr rfl)
def go_gname_Decode (n : Nat) (a0 : T_api_Element) (a1 : Bool) : Option (T_api_GeneralName × Int) :=
 ctlB ((if (a0.f_Tag == 129) = true then (some (a0.f_Tag == 129)) else (if (a0.f_Tag == 130) = true then (some (a0.f_Tag == 130)) else (some (a0.f_Tag == 135)))).bind fun y16 =>
 if y16 = true then (some (.nxt (IntKind.wrap .i64 (a0.f_Tag - 128), a0.f_Content, ([] : List (List T_api_Attribute))))) else (if (a0.f_Tag == 164) = true then ((go_dname_Decode n a0.f_Content).bind fun r18 =>
 if (r18.2 != 0) = true then (some (.ret ((T_api_GeneralName.mk 0 ([] : List UInt8) (T_api_Name.mk ([] : (List (List T_api_Attribute))))), r18.2))) else (some (.nxt (4, ([] : List UInt8), r18.1.f_RDNs)))) else (some (.ret ((T_api_GeneralName.mk 0 ([] : List UInt8) (T_api_Name.mk ([] : (List (List T_api_Attribute))))), 5))))) (fun r => some r) (fun y12 =>
 (go_gname_Check n (T_api_GeneralName.mk y12.1 y12.2.1 (T_api_Name.mk y12.2.2)) a1).bind fun r19 =>
 if (r19 != 0) = true then (some ((T_api_GeneralName.mk 0 ([] : List UInt8) (T_api_Name.mk ([] : (List (List T_api_Attribute))))), r19)) else (some ((T_api_GeneralName.mk y12.1 y12.2.1 (T_api_Name.mk y12.2.2)), 0)))
theorem go_gname_Decode_ok {n : Nat} {a0 : T_api_Element} {a1 : Bool} {r : (T_api_GeneralName × Int)} (h : go_gname_Decode n a0 a1 = some r) : ACalls Tryz.prog (gl0 mx) 202 [.agg [.int .i64 a0.f_Tag, .str a0.f_Content, .str a0.f_Raw], .bool a1] ⟨[], []⟩ (Out (.tuple [.agg [.int .i64 r.1.f_Kind, .str r.1.f_Text, .sl 1 (List.map (cL 3 T_api_Attribute.cells) r.1.f_Name.f_RDNs) .none], .int .i64 r.2]) ⟨[], []⟩) := by
 delta go_gname_Decode at h
 refine fnc Tryz.func202 rfl ?_
 refine b_seq ?_
 refine reg ⟨47, [(1, .bool a1), (2, .ptr 0 0), (4, .ptr 1 0)]⟩ ⟨[[.int .i64 a0.f_Tag, .str a0.f_Content, .str a0.f_Raw], [.int .i64 0, .str ([] : List UInt8), .nilsl]], []⟩ ?_ ?_
 ·exact kE ⟨[0, 1], 2, [], 0⟩
 refine b_seq ?_
 refine reg ⟨47, [(1, .bool a1), (2, .ptr 0 0), (4, .ptr 1 0), (6, .ptr 2 0)]⟩ ⟨[[.int .i64 a0.f_Tag, .str a0.f_Content, .str a0.f_Raw], [.int .i64 0, .str ([] : List UInt8), .nilsl], [.int .i64 0, .str ([] : List UInt8), .nilsl]], []⟩ ?_ ?_
 ·exact kE ⟨[0, 1, 2], 3, [], 0⟩
 refine b_seq ?_
 refine b_seq ?_
 refine reg ⟨47, [(1, .bool a1), (2, .ptr 0 0), (4, .ptr 1 0), (6, .ptr 2 0), (11, .int .i64 a0.f_Tag)]⟩ ⟨[[.int .i64 a0.f_Tag, .str a0.f_Content, .str a0.f_Raw], [.int .i64 0, .str ([] : List UInt8), .nilsl], [.int .i64 0, .str ([] : List UInt8), .nilsl]], []⟩ ?_ ?_
 ·exact kE ⟨[0, 1, 2], 3, [], 0⟩
 obtain ⟨o13, hE, hr14, h⟩ := ctlE h
 refine b_blockE (Y := (Int × (List UInt8) × (List (List T_api_Attribute)))) (fun y12 => ⟨47, [(1, .bool a1), (4, .ptr 0 0), (6, .ptr 1 0)]⟩) (fun y12 => ⟨[[.int .i64 0, .str ([] : List UInt8), .nilsl], [.int .i64 y12.1, .str y12.2.1, .sl 1 (List.map (cL 3 T_api_Attribute.cells) y12.2.2) .none]], []⟩) (fun z => o13 = .nxt z) ?_ cl_cons (fun y12 hy => ?_)
 ·replace h := hE
  refine b_seq ?_
  refine b_seq ?_
  refine reg ⟨47, [(1, .bool a1), (2, .ptr 0 0), (4, .ptr 1 0), (6, .ptr 2 0), (11, .int .i64 a0.f_Tag), (13, .bool (a0.f_Tag == 129))]⟩ ⟨[[.int .i64 a0.f_Tag, .str a0.f_Content, .str a0.f_Raw], [.int .i64 0, .str ([] : List UInt8), .nilsl], [.int .i64 0, .str ([] : List UInt8), .nilsl]], []⟩ ?_ ?_
  ·exact kE ⟨[0, 1, 2], 3, [], 0⟩
  obtain ⟨y16, hE, h⟩ := bindE h
  refine b_cutE (Y := Bool) (fun y16 => ⟨47, [(1, .bool a1), (2, .ptr 0 0), (4, .ptr 1 0), (6, .ptr 2 0), (11, .int .i64 a0.f_Tag), (13, .bool y16)]⟩) (fun y16 => ⟨[[.int .i64 a0.f_Tag, .str a0.f_Content, .str a0.f_Raw], [.int .i64 0, .str ([] : List UInt8), .nilsl], [.int .i64 0, .str ([] : List UInt8), .nilsl]], []⟩) (fun z => y16 = z) ?_ cl_cons (fun z hz => ?_)
  ·replace h := hE
   refine bif_ (a0.f_Tag == 129) (fun hb => ?_) (fun hb => ?_)
   ·replace h := ite_t hb h
    refine b_skip ?_
    exact ⟨a0.f_Tag == 129, (Option.some.inj h).symm, wk ⟨[0, 1, 2], 3, [], 0⟩⟩
   replace h := ite_f hb h
   refine b_seq ?_
   refine reg ⟨47, [(1, .bool a1), (2, .ptr 0 0), (4, .ptr 1 0), (6, .ptr 2 0), (11, .int .i64 a0.f_Tag), (13, .bool (a0.f_Tag == 130))]⟩ ⟨[[.int .i64 a0.f_Tag, .str a0.f_Content, .str a0.f_Raw], [.int .i64 0, .str ([] : List UInt8), .nilsl], [.int .i64 0, .str ([] : List UInt8), .nilsl]], []⟩ ?_ ?_
   ·exact kE ⟨[0, 1, 2], 3, [], 0⟩
   refine bif_ (a0.f_Tag == 130) (fun hb => ?_) (fun hb => ?_)
   ·replace h := ite_t hb h
    refine b_skip ?_
    exact ⟨a0.f_Tag == 130, (Option.some.inj h).symm, wk ⟨[0, 1, 2], 3, [], 0⟩⟩
   replace h := ite_f hb h
   refine regN ⟨47, [(1, .bool a1), (2, .ptr 0 0), (4, .ptr 1 0), (6, .ptr 2 0), (11, .int .i64 a0.f_Tag), (13, .bool (a0.f_Tag == 135))]⟩ ⟨[[.int .i64 a0.f_Tag, .str a0.f_Content, .str a0.f_Raw], [.int .i64 0, .str ([] : List UInt8), .nilsl], [.int .i64 0, .str ([] : List UInt8), .nilsl]], []⟩ cl_loopT ?_ ?_
   ·exact kE ⟨[0, 1, 2], 3, [], 0⟩
   exact ⟨a0.f_Tag == 135, (Option.some.inj h).symm, wk ⟨[0, 1, 2], 3, [], 0⟩⟩
  subst hz
  refine bif_ (y16) (fun hb => ?_) (fun hb => ?_)
  ·replace h := ite_t hb h
   refine drwN [0, 1, 2, 3, 4, 5, 6, 7, 8] [6, 8] [[], [0], [0, 1], [], [3], [0, 1, 2], [0, 1, 2, 5], [0, 1, 2, 3, 4, 5, 6], [0, 1, 2, 3, 4, 5, 6, 7]] ⟨47, [(1, .bool a1), (4, .ptr 0 0), (6, .ptr 1 0)]⟩ ⟨[[.int .i64 0, .str ([] : List UInt8), .nilsl], [.int .i64 (IntKind.wrap .i64 (a0.f_Tag - 128)), .str a0.f_Content, .nilsl]], []⟩ cl_blockL ?_ ?_
   ·refine dS [0, 1, 2, 3, 4, 5] ?_
    refine dF fxNil ?_
    refine dS [7] ?_
    refine dF fxNil ?_
    exact dE ⟨[1, 2], 3, [], 0⟩
   exact ⟨(IntKind.wrap .i64 (a0.f_Tag - 128), a0.f_Content, ([] : List (List T_api_Attribute))), (Option.some.inj h).symm, wk ⟨[0, 1], 2, [], 0⟩⟩
  replace h := ite_f hb h
  refine b_seq ?_
  refine reg ⟨47, [(1, .bool a1), (2, .ptr 0 0), (4, .ptr 1 0), (6, .ptr 2 0), (24, .bool (a0.f_Tag == 164))]⟩ ⟨[[.int .i64 a0.f_Tag, .str a0.f_Content, .str a0.f_Raw], [.int .i64 0, .str ([] : List UInt8), .nilsl], [.int .i64 0, .str ([] : List UInt8), .nilsl]], []⟩ ?_ ?_
  ·exact kE ⟨[0, 1, 2], 3, [], 0⟩
  refine bif_ (a0.f_Tag == 164) (fun hb => ?_) (fun hb => ?_)
  ·replace h := ite_t hb h
   refine b_seq ?_
   obtain ⟨r18, hr18, h⟩ := bindE h
   refine reg ⟨47, [(1, .bool a1), (4, .ptr 0 0), (6, .ptr 1 0), (7, .ptr 2 0), (8, .int .i64 r18.2)]⟩ ⟨[[.int .i64 0, .str ([] : List UInt8), .nilsl], [.int .i64 0, .str ([] : List UInt8), .nilsl], [.sl 1 (List.map (cL 3 T_api_Attribute.cells) r18.1.f_RDNs) .none]], []⟩ ?_ ?_
   ·refine kC 2 ⟨[], 3, [], 0⟩ (go_dname_Decode_ok hr18) ?_
    exact kE ⟨[1, 2, 3], 4, [], 0⟩
   refine b_seq ?_
   refine b_seq ?_
   refine reg ⟨47, [(1, .bool a1), (4, .ptr 0 0), (6, .ptr 1 0), (7, .ptr 2 0), (8, .int .i64 r18.2), (33, .bool (r18.2 != 0))]⟩ ⟨[[.int .i64 0, .str ([] : List UInt8), .nilsl], [.int .i64 0, .str ([] : List UInt8), .nilsl], [.sl 1 (List.map (cL 3 T_api_Attribute.cells) r18.1.f_RDNs) .none]], []⟩ ?_ ?_
   ·exact kE ⟨[0, 1, 2], 3, [], 0⟩
   refine bif_ (r18.2 != 0) (fun hb => ?_) (fun hb => ?_)
   ·replace h := ite_t hb h
    refine b_seq ?_
    refine reg ⟨47, [(4, .ptr 0 0), (5, .int .i64 r18.2)]⟩ ⟨[[.int .i64 0, .str ([] : List UInt8), .nilsl]], []⟩ ?_ ?_
    ·exact kE ⟨[0], 3, [], 0⟩
    refine b_ret ?_
    replace h := hr14 _ (Option.some.inj h).symm
    refine bl_ret ?_
    obtain rfl := Option.some.inj h
    exact rtn ⟨[], 1, [], 0⟩ (.inr rfl)
   replace h := ite_f hb h
   refine b_skip ?_
   refine drwN [0, 1, 2, 3, 4] [2, 4] [[], [], [1], [0, 1, 2], [0, 1, 2, 3]] ⟨47, [(1, .bool a1), (4, .ptr 0 0), (6, .ptr 1 0)]⟩ ⟨[[.int .i64 0, .str ([] : List UInt8), .nilsl], [.int .i64 4, .str ([] : List UInt8), .sl 1 (List.map (cL 3 T_api_Attribute.cells) r18.1.f_RDNs) .none]], []⟩ cl_blockL ?_ ?_
   ·refine dS [0, 1] ?_
    refine dF fxNil ?_
    refine dS [3] ?_
    refine dF fxNil ?_
    exact dE ⟨[0, 1], 3, [], 0⟩
   exact ⟨(4, ([] : List UInt8), r18.1.f_RDNs), (Option.some.inj h).symm, wk ⟨[0, 1], 2, [], 0⟩⟩
  replace h := ite_f hb h
  refine b_seq ?_
  refine reg ⟨47, [(4, .ptr 0 0), (5, .int .i64 5)]⟩ ⟨[[.int .i64 0, .str ([] : List UInt8), .nilsl]], []⟩ ?_ ?_
  ·exact kE ⟨[1], 3, [], 0⟩
  refine b_ret ?_
  replace h := hr14 _ (Option.some.inj h).symm
  refine bl_ret ?_
  obtain rfl := Option.some.inj h
  exact rtn ⟨[], 1, [], 0⟩ (.inr rfl)
 replace h := h _ hy
 refine b_seq ?_
 refine b_seq ?_
 obtain ⟨r19, hr19, h⟩ := bindE h
 refine reg ⟨47, [(4, .ptr 0 0), (6, .ptr 1 0), (9, .int .i64 r19)]⟩ ⟨[[.int .i64 0, .str ([] : List UInt8), .nilsl], [.int .i64 y12.1, .str y12.2.1, .sl 1 (List.map (cL 3 T_api_Attribute.cells) y12.2.2) .none]], []⟩ ?_ ?_
 ·refine kC 2 ⟨[], 2, [], 0⟩ (go_gname_Check_ok hr19) ?_
  exact kE ⟨[0, 1], 2, [], 0⟩
 refine b_seq ?_
 refine reg ⟨47, [(4, .ptr 0 0), (6, .ptr 1 0), (9, .int .i64 r19), (43, .bool (r19 != 0))]⟩ ⟨[[.int .i64 0, .str ([] : List UInt8), .nilsl], [.int .i64 y12.1, .str y12.2.1, .sl 1 (List.map (cL 3 T_api_Attribute.cells) y12.2.2) .none]], []⟩ ?_ ?_
 ·exact kE ⟨[0, 1], 2, [], 0⟩
 refine bif_ (r19 != 0) (fun hb => ?_) (fun hb => ?_)
 ·replace h := ite_t hb h
  refine b_seq ?_
  refine reg ⟨47, [(4, .ptr 0 0), (5, .int .i64 r19)]⟩ ⟨[[.int .i64 0, .str ([] : List UInt8), .nilsl]], []⟩ ?_ ?_
  ·exact kE ⟨[0], 2, [], 0⟩
  refine b_ret ?_
  obtain rfl := Option.some.inj h
  exact rtn ⟨[], 1, [], 0⟩ (.inr rfl)
 replace h := ite_f hb h
 refine b_skip ?_
 refine b_seq ?_
 refine reg ⟨47, [(4, .ptr 0 0), (5, .int .i64 0)]⟩ ⟨[[.int .i64 y12.1, .str y12.2.1, .sl 1 (List.map (cL 3 T_api_Attribute.cells) y12.2.2) .none]], []⟩ ?_ ?_
 ·exact kE ⟨[0], 2, [], 0⟩
 refine b_ret ?_
 obtain rfl := Option.some.inj h
 exact rtn ⟨[], 1, [], 0⟩ (.inr rfl)
def go_gname_DecodeList_l1 (n : Nat) (r1 : ((List T_api_Element) × Int)) : Nat → (List T_api_GeneralName) → Int → Option (Ctl ((List T_api_GeneralName) × Int) (List T_api_GeneralName))
 | 0, _, _ => none
 | k + 1, v35, v36 =>
  if (decide (v36 < (List.length r1.1 : Int))) = true then ((lidx r1.1 v36).bind fun x46 =>
  (go_gname_Decode n x46 false).bind fun r47 =>
  if (r47.2 != 0) = true then (some (.ret (([] : (List T_api_GeneralName)), r47.2))) else ((lapp 48 v35 ([(T_api_GeneralName.mk r47.1.f_Kind r47.1.f_Text (T_api_Name.mk r47.1.f_Name.f_RDNs))] : List T_api_GeneralName)).bind fun x48 =>
  go_gname_DecodeList_l1 n r1 k x48 (IntKind.wrap .i64 (v36 + 1)))) else (some (.nxt v35))
def go_gname_DecodeList (n : Nat) (a0 : (List UInt8)) : Option ((List T_api_GeneralName) × Int) :=
 (go_tlv_List n a0).bind fun r1 =>
 if (r1.2 != 0) = true then (some (([] : (List T_api_GeneralName)), r1.2)) else ((go_gname_count n (List.length r1.1 : Int)).bind fun r2 =>
 if (r2 != 0) = true then (some (([] : (List T_api_GeneralName)), r2)) else (ctlB (go_gname_DecodeList_l1 n r1 n ([] : List T_api_GeneralName) 0) (fun r => some r) (fun y25 =>
 some (y25, 0))))
theorem go_gname_DecodeList_ok {n : Nat} {a0 : (List UInt8)} {r : ((List T_api_GeneralName) × Int)} (h : go_gname_DecodeList n a0 = some r) : ACalls Tryz.prog (gl0 mx) 146 [.str a0] ⟨[], []⟩ (Out (.tuple [.sl 3 (List.map T_api_GeneralName.cells r.1) .none, .int .i64 r.2]) ⟨[], []⟩) := by
 delta go_gname_DecodeList at h
 refine fnc Tryz.func146 rfl ?_
 refine b_seq ?_
 refine reg ⟨46, [(0, .str a0)]⟩ ⟨[], []⟩ ?_ ?_
 ·exact kE ⟨[], 0, [], 0⟩
 refine b_seq ?_
 obtain ⟨r1, hr1, h⟩ := bindE h
 refine reg ⟨46, [(4, .sl 3 (List.map T_api_Element.cells r1.1) .none), (5, .int .i64 r1.2)]⟩ ⟨[], []⟩ ?_ ?_
 ·refine kC 1 ⟨[], 0, [], 0⟩ (go_tlv_List_ok hr1) ?_
  exact kE ⟨[], 0, [], 0⟩
 refine b_seq ?_
 refine b_seq ?_
 refine reg ⟨46, [(4, .sl 3 (List.map T_api_Element.cells r1.1) .none), (5, .int .i64 r1.2), (18, .bool (r1.2 != 0))]⟩ ⟨[], []⟩ ?_ ?_
 ·exact kE ⟨[], 0, [], 0⟩
 refine bif_ (r1.2 != 0) (fun hb => ?_) (fun hb => ?_)
 ·replace h := ite_t hb h
  refine b_seq ?_
  refine reg ⟨46, [(2, .nilsl), (3, .int .i64 r1.2)]⟩ ⟨[], []⟩ ?_ ?_
  ·exact kE ⟨[], 0, [], 0⟩
  refine b_ret ?_
  obtain rfl := Option.some.inj h
  exact rtn ⟨[], 0, [], 0⟩ (.inr rfl)
 replace h := ite_f hb h
 refine b_skip ?_
 refine b_seq ?_
 refine b_seq ?_
 obtain ⟨r2, hr2, h⟩ := bindE h
 refine reg ⟨46, [(4, .sl 3 (List.map T_api_Element.cells r1.1) .none), (6, .int .i64 r2)]⟩ ⟨[], []⟩ ?_ ?_
 ·refine kP 1 (x_len (c := T_api_Element.cells) (l := r1.1) (e := 103) (sz := 3) (sz' := 3) (b := 40) (tok := .none)) ?_
  refine kC 2 ⟨[], 0, [], 0⟩ (go_gname_count_ok hr2) ?_
  exact kE ⟨[], 0, [], 0⟩
 refine b_seq ?_
 refine reg ⟨46, [(4, .sl 3 (List.map T_api_Element.cells r1.1) .none), (6, .int .i64 r2), (24, .bool (r2 != 0))]⟩ ⟨[], []⟩ ?_ ?_
 ·exact kE ⟨[], 0, [], 0⟩
 refine bif_ (r2 != 0) (fun hb => ?_) (fun hb => ?_)
 ·replace h := ite_t hb h
  refine b_seq ?_
  refine reg ⟨46, [(2, .nilsl), (3, .int .i64 r2)]⟩ ⟨[], []⟩ ?_ ?_
  ·exact kE ⟨[], 0, [], 0⟩
  refine b_ret ?_
  obtain rfl := Option.some.inj h
  exact rtn ⟨[], 0, [], 0⟩ (.inr rfl)
 replace h := ite_f hb h
 refine b_skip ?_
 refine b_seq ?_
 refine reg ⟨46, [(4, .sl 3 (List.map T_api_Element.cells r1.1) .none), (7, .nilsl)]⟩ ⟨[], []⟩ ?_ ?_
 ·exact kE ⟨[], 0, [], 0⟩
 refine b_seq ?_
 refine b_seq ?_
 refine reg ⟨46, [(7, .nilsl), (26, .sl 3 (List.map T_api_Element.cells r1.1) .none), (27, .int .i64 (List.length r1.1 : Int)), (28, .int .i64 0)]⟩ ⟨[], []⟩ ?_ ?_
 ·refine kP 1 (x_len (c := T_api_Element.cells) (l := r1.1) (e := 103) (sz := 3) (sz' := 3) (b := 40) (tok := .none)) ?_
  exact kE ⟨[], 0, [], 0⟩
 obtain ⟨o26, hE, hr27, h⟩ := ctlE h
 refine b_blockE (Y := (List T_api_GeneralName)) (fun y25 => ⟨46, [(7, .sl 3 (List.map T_api_GeneralName.cells y25) (.fam 0 (List.length y25)))]⟩) (fun y25 => ⟨[], [List.length y25]⟩) (fun z => o26 = .nxt z) ?_ cl_cons (fun y25 hy => ?_)
 ·replace h := hE
  refine b_wk (wk (fr' := ⟨46, [(7, .nilsl), (26, .sl 3 (List.map T_api_Element.cells r1.1) .none), (27, .int .i64 (List.length r1.1 : Int)), (28, .int .i64 0)]⟩) (st' := ⟨[], []⟩) ⟨[], 0, [], 0⟩) ?_
  refine b_wk Wk.nilFam ?_
  refine b_loop (X := ((List T_api_GeneralName) × Int)) (fun x => ⟨46, [(7, .sl 3 (List.map T_api_GeneralName.cells x.1) (.fam 0 (List.length x.1))), (26, .sl 3 (List.map T_api_Element.cells r1.1) .none), (27, .int .i64 (List.length r1.1 : Int)), (28, .int .i64 x.2)]⟩) (fun x => ⟨[], [List.length x.1]⟩) (fun k x => go_gname_DecodeList_l1 n r1 k x.1 x.2 = some o26) (fun _ hx => by simp [go_gname_DecodeList_l1] at hx) n (([] : List T_api_GeneralName), 0) h (wk ⟨[], 0, [0], 1⟩) (fun k x h => ?_)
  obtain ⟨v35, v36⟩ := x
  rw [go_gname_DecodeList_l1] at h
  refine b_seq ?_
  refine reg ⟨46, [(7, .sl 3 (List.map T_api_GeneralName.cells v35) (.fam 0 (List.length v35))), (26, .sl 3 (List.map T_api_Element.cells r1.1) .none), (27, .int .i64 (List.length r1.1 : Int)), (28, .int .i64 v36), (29, .bool (decide (v36 < (List.length r1.1 : Int))))]⟩ ⟨[], [List.length v35]⟩ ?_ ?_
  ·exact kE ⟨[], 0, [0], 1⟩
  refine b_seq ?_
  refine bif_ (decide (v36 < (List.length r1.1 : Int))) (fun hb => ?_) (fun hb => ?_)
  ·replace h := ite_t hb h
   refine b_skip ?_
   refine b_seq ?_
   refine b_block ?_
   refine b_seq ?_
   obtain ⟨x46, hx46, h⟩ := bindE h
   refine reg ⟨46, [(7, .sl 3 (List.map T_api_GeneralName.cells v35) (.fam 0 (List.length v35))), (9, .ptr 0 0), (26, .sl 3 (List.map T_api_Element.cells r1.1) .none), (27, .int .i64 (List.length r1.1 : Int)), (28, .int .i64 v36)]⟩ ⟨[[.int .i64 x46.f_Tag, .str x46.f_Content, .str x46.f_Raw]], [List.length v35]⟩ ?_ ?_
   ·refine kP 0 (x_lidx (c := T_api_Element.cells) (e := 103) (sz := 3) (b := 40) (tok := .none) hx46) ?_
    exact kE ⟨[0], 1, [0], 1⟩
   refine b_seq ?_
   obtain ⟨r47, hr47, h⟩ := bindE h
   refine reg ⟨46, [(7, .sl 3 (List.map T_api_GeneralName.cells v35) (.fam 0 (List.length v35))), (10, .ptr 0 0), (11, .int .i64 r47.2), (26, .sl 3 (List.map T_api_Element.cells r1.1) .none), (27, .int .i64 (List.length r1.1 : Int)), (28, .int .i64 v36)]⟩ ⟨[[.int .i64 r47.1.f_Kind, .str r47.1.f_Text, .sl 1 (List.map (cL 3 T_api_Attribute.cells) r47.1.f_Name.f_RDNs) .none]], [List.length v35]⟩ ?_ ?_
   ·refine kC 1 ⟨[], 1, [], 1⟩ (go_gname_Decode_ok hr47) ?_
    exact kE ⟨[1], 2, [0], 1⟩
   refine b_seq ?_
   refine b_seq ?_
   refine reg ⟨46, [(7, .sl 3 (List.map T_api_GeneralName.cells v35) (.fam 0 (List.length v35))), (10, .ptr 0 0), (11, .int .i64 r47.2), (26, .sl 3 (List.map T_api_Element.cells r1.1) .none), (27, .int .i64 (List.length r1.1 : Int)), (28, .int .i64 v36), (38, .bool (r47.2 != 0))]⟩ ⟨[[.int .i64 r47.1.f_Kind, .str r47.1.f_Text, .sl 1 (List.map (cL 3 T_api_Attribute.cells) r47.1.f_Name.f_RDNs) .none]], [List.length v35]⟩ ?_ ?_
   ·exact kE ⟨[0], 1, [0], 1⟩
   refine bif_ (r47.2 != 0) (fun hb => ?_) (fun hb => ?_)
   ·replace h := ite_t hb h
    refine b_seq ?_
    refine reg ⟨46, [(2, .nilsl), (3, .int .i64 r47.2)]⟩ ⟨[], []⟩ ?_ ?_
    ·exact kE ⟨[], 1, [], 1⟩
    refine b_ret ?_
    refine bk_ret ?_
    refine tk_ret ?_
    replace h := hr27 _ (Option.some.inj h).symm
    refine bl_ret ?_
    obtain rfl := Option.some.inj h
    exact rtn ⟨[], 0, [], 0⟩ (.inr rfl)
   replace h := ite_f hb h
   refine b_skip ?_
   obtain ⟨x48, hx48, h⟩ := bindE h
   refine regN ⟨46, [(7, .sl 3 (List.map T_api_GeneralName.cells x48) (.fam 0 (List.length x48))), (26, .sl 3 (List.map T_api_Element.cells r1.1) .none), (27, .int .i64 (List.length r1.1 : Int)), (28, .int .i64 v36)]⟩ ⟨[], [List.length x48]⟩ cl_cons ?_ ?_
   ·refine kA 3 0 T_api_GeneralName.cells (e := 59) (e2 := 59) (sz := 3) (bytes := 48) (b2 := 48) (tok2 := .exact) hx48 ?_
    exact kE ⟨[], 1, [0], 1⟩
   refine bk_norm ?_
   refine regN ⟨46, [(7, .sl 3 (List.map T_api_GeneralName.cells x48) (.fam 0 (List.length x48))), (26, .sl 3 (List.map T_api_Element.cells r1.1) .none), (27, .int .i64 (List.length r1.1 : Int)), (28, .int .i64 (IntKind.wrap .i64 (v36 + 1)))]⟩ ⟨[], [List.length x48]⟩ cl_loopT ?_ ?_
   ·exact kE ⟨[], 0, [0], 1⟩
   exact ⟨(x48, IntKind.wrap .i64 (v36 + 1)), h, wk ⟨[], 0, [0], 1⟩⟩
  replace h := ite_f hb h
  refine b_exit ?_
  refine tk_exit ?_
  refine bl_exit ?_
  exact ⟨v35, (Option.some.inj h).symm, wk ⟨[], 0, [0], 1⟩⟩
 replace h := h _ hy
 refine b_seq ?_
 refine reg ⟨46, [(2, .sl 3 (List.map T_api_GeneralName.cells y25) (.fam 0 (List.length y25))), (3, .int .i64 0)]⟩ ⟨[], [List.length y25]⟩ ?_ ?_
 ·exact kE ⟨[], 0, [0], 1⟩
 refine b_ret ?_
 obtain rfl := Option.some.inj h
 exact rtn ⟨[], 0, [], 1⟩ (.inr rfl)
def go_prim_Integer_l1 (n : Nat) (a0 : (List UInt8)) : Nat → Int → Int → Option Int
 | 0, _, _ => none
 | k + 1, v23, v24 =>
  if (decide (v24 < (IntKind.wrap .i64 ((List.length a0 : Int) - 1)))) = true then ((bidx a0 (IntKind.wrap .i64 (v24 + 1))).bind fun x28 =>
  go_prim_Integer_l1 n a0 k (ior .i64 (IntKind.wrap .i64 (v23 * 256)) (IntKind.wrap .i64 x28)) (IntKind.wrap .i64 (v24 + 1))) else (some v23)
def go_prim_Integer (n : Nat) (a0 : (List UInt8)) : Option (Int × Int) :=
 (if (a0 == ([] : List UInt8)) = true then (some true) else (if (decide ((List.length a0 : Int) > 1)) = true then ((bidx a0 0).bind fun x1 =>
 if (x1 == 0) = true then ((bidx a0 1).bind fun x2 =>
 if (decide (x2 < 128)) = true then (some true) else ((bidx a0 0).bind fun x3 =>
 if (x3 == 255) = true then ((bidx a0 1).bind fun x4 =>
 some (decide (x4 ≥ 128))) else (some false))) else ((bidx a0 0).bind fun x5 =>
 if (x5 == 255) = true then ((bidx a0 1).bind fun x6 =>
 some (decide (x6 ≥ 128))) else (some false))) else (some false))).bind fun y8 =>
 if y8 = true then (some (0, 7)) else (if (decide ((List.length a0 : Int) > 8)) = true then (some (0, 1)) else ((bidx a0 0).bind fun x9 =>
 (go_prim_Integer_l1 n a0 n (IntKind.wrap .i64 (IntKind.wrap .i8 x9)) 0).bind fun y19 =>
 some (y19, 0)))
theorem go_prim_Integer_ok {n : Nat} {a0 : (List UInt8)} {r : (Int × Int)} (h : go_prim_Integer n a0 = some r) : ACalls Tryz.prog (gl0 mx) 203 [.str a0] ⟨[], []⟩ (Out (.tuple [.int .i64 r.1, .int .i64 r.2]) ⟨[], []⟩) := by
 delta go_prim_Integer at h
 refine fnc Tryz.func203 rfl ?_
 refine b_seq ?_
 refine reg ⟨56, [(0, .str a0)]⟩ ⟨[], []⟩ ?_ ?_
 ·exact kE ⟨[], 0, [], 0⟩
 refine b_seq ?_
 refine b_seq ?_
 obtain ⟨y8, hE, h⟩ := bindE h
 refine reg ⟨56, [(0, .str a0), (32, .bool y8)]⟩ ⟨[], []⟩ ?_ ?_
 ·replace h := hE
  refine kG 3 8 (a0 == ([] : List UInt8)) (fun hb => ?_) (fun hb => ?_)
  ·have h := ite_t hb h
   obtain rfl := Option.some.inj h
   exact kE ⟨[], 0, [], 0⟩
  have h := ite_f hb h
  refine kG 7 12 (decide ((List.length a0 : Int) > 1)) (fun hb => ?_) (fun hb => ?_)
  ·have h := ite_t hb h
   obtain ⟨x1, hx1, h⟩ := bindE h
   refine kP 8 (x_bidx hx1) ?_
   refine kG 11 16 (x1 == 0) (fun hb => ?_) (fun hb => ?_)
   ·have h := ite_t hb h
    obtain ⟨x2, hx2, h⟩ := bindE h
    refine kP 12 (x_bidx hx2) ?_
    refine kG 16 21 (decide (x2 < 128)) (fun hb => ?_) (fun hb => ?_)
    ·have h := ite_t hb h
     obtain rfl := Option.some.inj h
     exact kE ⟨[], 0, [], 0⟩
    have h := ite_f hb h
    obtain ⟨x3, hx3, h⟩ := bindE h
    refine kP 17 (x_bidx hx3) ?_
    refine kG 20 25 (x3 == 255) (fun hb => ?_) (fun hb => ?_)
    ·have h := ite_t hb h
     obtain ⟨x4, hx4, h⟩ := bindE h
     refine kP 21 (x_bidx hx4) ?_
     obtain rfl := Option.some.inj h
     exact kE ⟨[], 0, [], 0⟩
    have h := ite_f hb h
    obtain rfl := Option.some.inj h
    exact kE ⟨[], 0, [], 0⟩
   have h := ite_f hb h
   obtain ⟨x5, hx5, h⟩ := bindE h
   refine kP 17 (x_bidx hx5) ?_
   refine kG 20 25 (x5 == 255) (fun hb => ?_) (fun hb => ?_)
   ·have h := ite_t hb h
    obtain ⟨x6, hx6, h⟩ := bindE h
    refine kP 21 (x_bidx hx6) ?_
    obtain rfl := Option.some.inj h
    exact kE ⟨[], 0, [], 0⟩
   have h := ite_f hb h
   obtain rfl := Option.some.inj h
   exact kE ⟨[], 0, [], 0⟩
  have h := ite_f hb h
  obtain rfl := Option.some.inj h
  exact kE ⟨[], 0, [], 0⟩
 refine bif_ (y8) (fun hb => ?_) (fun hb => ?_)
 ·replace h := ite_t hb h
  refine b_seq ?_
  refine reg ⟨56, [(2, .int .i64 0), (3, .int .i64 7)]⟩ ⟨[], []⟩ ?_ ?_
  ·exact kE ⟨[], 0, [], 0⟩
  refine b_ret ?_
  obtain rfl := Option.some.inj h
  exact rtn ⟨[], 0, [], 0⟩ (.inr rfl)
 replace h := ite_f hb h
 refine b_skip ?_
 refine b_seq ?_
 refine b_seq ?_
 refine reg ⟨56, [(0, .str a0), (35, .bool (decide ((List.length a0 : Int) > 8)))]⟩ ⟨[], []⟩ ?_ ?_
 ·exact kE ⟨[], 0, [], 0⟩
 refine bif_ (decide ((List.length a0 : Int) > 8)) (fun hb => ?_) (fun hb => ?_)
 ·replace h := ite_t hb h
  refine b_seq ?_
  refine reg ⟨56, [(2, .int .i64 0), (3, .int .i64 1)]⟩ ⟨[], []⟩ ?_ ?_
  ·exact kE ⟨[], 0, [], 0⟩
  refine b_ret ?_
  obtain rfl := Option.some.inj h
  exact rtn ⟨[], 0, [], 0⟩ (.inr rfl)
 replace h := ite_f hb h
 refine b_skip ?_
 refine b_seq ?_
 obtain ⟨x9, hx9, h⟩ := bindE h
 refine reg ⟨56, [(0, .str a0), (4, .int .i64 (IntKind.wrap .i64 (IntKind.wrap .i8 x9)))]⟩ ⟨[], []⟩ ?_ ?_
 ·refine kP 1 (x_bidx hx9) ?_
  exact kE ⟨[], 0, [], 0⟩
 refine b_seq ?_
 refine b_seq ?_
 refine reg ⟨56, [(0, .str a0), (4, .int .i64 (IntKind.wrap .i64 (IntKind.wrap .i8 x9))), (42, .int .i64 (IntKind.wrap .i64 ((List.length a0 : Int) - 1))), (43, .int .i64 0)]⟩ ⟨[], []⟩ ?_ ?_
 ·exact kE ⟨[], 0, [], 0⟩
 obtain ⟨y19, hE, h⟩ := bindE h
 refine b_blockE (Y := Int) (fun y19 => ⟨56, [(4, .int .i64 y19)]⟩) (fun y19 => ⟨[], []⟩) (fun z => y19 = z) ?_ cl_cons (fun z hz => ?_)
 ·replace h := hE
  refine b_loop (X := (Int × Int)) (fun x => ⟨56, [(0, .str a0), (4, .int .i64 x.1), (42, .int .i64 (IntKind.wrap .i64 ((List.length a0 : Int) - 1))), (43, .int .i64 x.2)]⟩) (fun x => ⟨[], []⟩) (fun k x => go_prim_Integer_l1 n a0 k x.1 x.2 = some y19) (fun _ hx => by simp [go_prim_Integer_l1] at hx) n (IntKind.wrap .i64 (IntKind.wrap .i8 x9), 0) h (wk ⟨[], 0, [], 0⟩) (fun k x h => ?_)
  obtain ⟨v23, v24⟩ := x
  rw [go_prim_Integer_l1] at h
  refine b_seq ?_
  refine reg ⟨56, [(0, .str a0), (4, .int .i64 v23), (42, .int .i64 (IntKind.wrap .i64 ((List.length a0 : Int) - 1))), (43, .int .i64 v24), (44, .bool (decide (v24 < (IntKind.wrap .i64 ((List.length a0 : Int) - 1)))))]⟩ ⟨[], []⟩ ?_ ?_
  ·exact kE ⟨[], 0, [], 0⟩
  refine b_seq ?_
  refine bif_ (decide (v24 < (IntKind.wrap .i64 ((List.length a0 : Int) - 1)))) (fun hb => ?_) (fun hb => ?_)
  ·replace h := ite_t hb h
   refine b_skip ?_
   refine b_seq ?_
   refine b_block ?_
   refine b_seq ?_
   refine reg ⟨56, [(0, .str a0), (4, .int .i64 v23), (5, .int .i64 v24), (42, .int .i64 (IntKind.wrap .i64 ((List.length a0 : Int) - 1))), (43, .int .i64 v24)]⟩ ⟨[], []⟩ ?_ ?_
   ·exact kE ⟨[], 0, [], 0⟩
   obtain ⟨x28, hx28, h⟩ := bindE h
   refine regN ⟨56, [(0, .str a0), (4, .int .i64 (ior .i64 (IntKind.wrap .i64 (v23 * 256)) (IntKind.wrap .i64 x28))), (42, .int .i64 (IntKind.wrap .i64 ((List.length a0 : Int) - 1))), (43, .int .i64 v24)]⟩ ⟨[], []⟩ cl_cons ?_ ?_
   ·refine kP 5 (x_bidx hx28) ?_
    exact kE ⟨[], 0, [], 0⟩
   refine bk_norm ?_
   refine regN ⟨56, [(0, .str a0), (4, .int .i64 (ior .i64 (IntKind.wrap .i64 (v23 * 256)) (IntKind.wrap .i64 x28))), (42, .int .i64 (IntKind.wrap .i64 ((List.length a0 : Int) - 1))), (43, .int .i64 (IntKind.wrap .i64 (v24 + 1)))]⟩ ⟨[], []⟩ cl_loopT ?_ ?_
   ·exact kE ⟨[], 0, [], 0⟩
   exact ⟨(ior .i64 (IntKind.wrap .i64 (v23 * 256)) (IntKind.wrap .i64 x28), IntKind.wrap .i64 (v24 + 1)), h, wk ⟨[], 0, [], 0⟩⟩
  replace h := ite_f hb h
  refine b_exit ?_
  refine tk_exit ?_
  refine bl_exit ?_
  exact ⟨v23, (Option.some.inj h).symm, wk ⟨[], 0, [], 0⟩⟩
 subst hz
 refine b_seq ?_
 refine reg ⟨56, [(2, .int .i64 y19), (3, .int .i64 0)]⟩ ⟨[], []⟩ ?_ ?_
 ·exact kE ⟨[], 0, [], 0⟩
 refine b_ret ?_
 obtain rfl := Option.some.inj h
 exact rtn ⟨[], 0, [], 0⟩ (.inr rfl)
def go_wire_reader_number (n : Nat) (a1 : Int) (m0 : T_wire_reader) : Option (Int × T_wire_reader) :=
 (go_wire_reader_next n m0).bind fun r1 =>
 (go_prim_Integer n r1.1.f_Content).bind fun r2 =>
 (go_wire_reader_check n r2.2 r1.2).bind fun r3 =>
 (if r3.f_failed = true then (some true) else (some (r1.1.f_Tag != a1))).bind fun y5 =>
 some (r2.1, (T_wire_reader.mk r3.f_l y5))
theorem go_wire_reader_number_ok {n : Nat} {a1 : Int} {m0 : T_wire_reader} {r : (Int × T_wire_reader)} (h : go_wire_reader_number n a1 m0 = some r) : ACalls Tryz.prog (gl0 mx) 147 [.ptr 0 0, .int .i64 a1] ⟨[[.sl 3 (List.map T_api_Element.cells m0.f_l) .none, .bool m0.f_failed]], []⟩ (Out (.int .i64 r.1) ⟨[[.sl 3 (List.map T_api_Element.cells r.2.f_l) .none, .bool r.2.f_failed]], []⟩) := by
 delta go_wire_reader_number at h
 refine fnc Tryz.func147 rfl ?_
 refine b_seq ?_
 refine reg ⟨33, [(0, .ptr 0 0), (1, .int .i64 a1)]⟩ ⟨[[.sl 3 (List.map T_api_Element.cells m0.f_l) .none, .bool m0.f_failed]], []⟩ ?_ ?_
 ·exact kE ⟨[0], 1, [], 0⟩
 refine b_seq ?_
 obtain ⟨r1, hr1, h⟩ := bindE h
 refine reg ⟨33, [(0, .ptr 0 0), (1, .int .i64 a1), (5, .ptr 1 0)]⟩ ⟨[[.sl 3 (List.map T_api_Element.cells r1.2.f_l) .none, .bool r1.2.f_failed], [.int .i64 r1.1.f_Tag, .str r1.1.f_Content, .str r1.1.f_Raw]], []⟩ ?_ ?_
 ·refine kC 1 ⟨[0], 1, [], 0⟩ (go_wire_reader_next_ok hr1) ?_
  exact kE ⟨[0, 1], 2, [], 0⟩
 refine b_seq ?_
 obtain ⟨r2, hr2, h⟩ := bindE h
 refine reg ⟨33, [(0, .ptr 0 0), (1, .int .i64 a1), (5, .ptr 1 0), (6, .int .i64 r2.1), (7, .int .i64 r2.2)]⟩ ⟨[[.sl 3 (List.map T_api_Element.cells r1.2.f_l) .none, .bool r1.2.f_failed], [.int .i64 r1.1.f_Tag, .str r1.1.f_Content, .str r1.1.f_Raw]], []⟩ ?_ ?_
 ·refine kC 2 ⟨[], 2, [], 0⟩ (go_prim_Integer_ok hr2) ?_
  exact kE ⟨[0, 1], 2, [], 0⟩
 refine b_seq ?_
 obtain ⟨r3, hr3, h⟩ := bindE h
 refine reg ⟨33, [(0, .ptr 0 0), (1, .int .i64 a1), (5, .ptr 1 0), (6, .int .i64 r2.1)]⟩ ⟨[[.sl 3 (List.map T_api_Element.cells r3.f_l) .none, .bool r3.f_failed], [.int .i64 r1.1.f_Tag, .str r1.1.f_Content, .str r1.1.f_Raw]], []⟩ ?_ ?_
 ·refine kC 2 ⟨[0], 2, [], 0⟩ (go_wire_reader_check_ok hr3) ?_
  exact kE ⟨[0, 1], 2, [], 0⟩
 refine b_seq ?_
 obtain ⟨y5, hE, h⟩ := bindE h
 refine reg ⟨33, [(6, .int .i64 r2.1)]⟩ ⟨[[.sl 3 (List.map T_api_Element.cells r3.f_l) .none, .bool y5]], []⟩ ?_ ?_
 ·replace h := hE
  refine kG 6 24 (r3.f_failed) (fun hb => ?_) (fun hb => ?_)
  ·have h := ite_t hb h
   obtain rfl := Option.some.inj h
   exact kE ⟨[0], 2, [], 0⟩
  have h := ite_f hb h
  obtain rfl := Option.some.inj h
  exact kE ⟨[0], 2, [], 0⟩
 refine b_seq ?_
 refine reg ⟨33, [(4, .int .i64 r2.1)]⟩ ⟨[[.sl 3 (List.map T_api_Element.cells r3.f_l) .none, .bool y5]], []⟩ ?_ ?_
 ·exact kE ⟨[0], 1, [], 0⟩
 refine b_ret ?_
 obtain rfl := Option.some.inj h
 exact rtn ⟨[0], 1, [], 0⟩ (.inr rfl)
def go_wire_reader_anchors_l1 (n : Nat) (r1 : T_wire_reader) : Nat → Option Unit
 | 0 => none
 | k + 1 =>
  if (decide ((List.length r1.f_l : Int) > 0)) = true then (none) else (some ())
def go_wire_reader_anchors (n : Nat) (a1 : (List UInt8)) (m0 : T_wire_reader) : Option ((List T_api_Anchor) × T_wire_reader) :=
 (go_wire_contents n a1).bind fun r1 =>
 (go_wire_reader_anchors_l1 n r1 n ).bind fun y8 =>
 (if m0.f_failed = true then (some true) else (some r1.f_failed)).bind fun y17 =>
 some (([] : (List T_api_Anchor)), (T_wire_reader.mk m0.f_l y17))
theorem go_wire_reader_anchors_ok {n : Nat} {a1 : (List UInt8)} {m0 : T_wire_reader} {r : ((List T_api_Anchor) × T_wire_reader)} (h : go_wire_reader_anchors n a1 m0 = some r) : ACalls Tryz.prog (gl0 mx) 107 [.ptr 0 0, .str a1] ⟨[[.sl 3 (List.map T_api_Element.cells m0.f_l) .none, .bool m0.f_failed]], []⟩ (Out (.sl 4 (List.map T_api_Anchor.cells r.1) .none) ⟨[[.sl 3 (List.map T_api_Element.cells r.2.f_l) .none, .bool r.2.f_failed]], []⟩) := by
 delta go_wire_reader_anchors at h
 refine fnc Tryz.func107 rfl ?_
 refine b_seq ?_
 refine reg ⟨83, [(0, .ptr 0 0), (1, .str a1)]⟩ ⟨[[.sl 3 (List.map T_api_Element.cells m0.f_l) .none, .bool m0.f_failed]], []⟩ ?_ ?_
 ·exact kE ⟨[0], 1, [], 0⟩
 refine b_seq ?_
 refine reg ⟨83, [(0, .ptr 0 0), (1, .str a1), (5, .nilsl)]⟩ ⟨[[.sl 3 (List.map T_api_Element.cells m0.f_l) .none, .bool m0.f_failed]], []⟩ ?_ ?_
 ·exact kE ⟨[0], 1, [], 0⟩
 refine b_seq ?_
 obtain ⟨r1, hr1, h⟩ := bindE h
 refine reg ⟨83, [(0, .ptr 0 0), (5, .nilsl), (6, .ptr 1 0)]⟩ ⟨[[.sl 3 (List.map T_api_Element.cells m0.f_l) .none, .bool m0.f_failed], [.sl 3 (List.map T_api_Element.cells r1.f_l) .none, .bool r1.f_failed]], []⟩ ?_ ?_
 ·refine kC 1 ⟨[], 1, [], 0⟩ (go_wire_contents_ok hr1) ?_
  exact kE ⟨[0, 1], 2, [], 0⟩
 refine b_seq ?_
 obtain ⟨y8, hE, h⟩ := bindE h
 refine b_blockE (Y := Unit) (fun _ => ⟨83, [(0, .ptr 0 0), (5, .nilsl), (6, .ptr 1 0)]⟩) (fun _ => ⟨[[.sl 3 (List.map T_api_Element.cells m0.f_l) .none, .bool m0.f_failed], [.sl 3 (List.map T_api_Element.cells r1.f_l) .none, .bool r1.f_failed]], []⟩) (fun z => y8 = z) ?_ cl_cons (fun z hz => ?_)
 ·replace h := hE
  refine b_loop (X := Unit) (fun _ => ⟨83, [(0, .ptr 0 0), (5, .nilsl), (6, .ptr 1 0)]⟩) (fun _ => ⟨[[.sl 3 (List.map T_api_Element.cells m0.f_l) .none, .bool m0.f_failed], [.sl 3 (List.map T_api_Element.cells r1.f_l) .none, .bool r1.f_failed]], []⟩) (fun k _ => go_wire_reader_anchors_l1 n r1 k  = some y8) (fun _ hx => by simp [go_wire_reader_anchors_l1] at hx) n () h (wk ⟨[0, 1], 2, [], 0⟩) (fun k x h => ?_)
  rw [go_wire_reader_anchors_l1] at h
  refine b_seq ?_
  refine b_seq ?_
  refine reg ⟨83, [(0, .ptr 0 0), (5, .nilsl), (6, .ptr 1 0), (18, .bool (decide ((List.length r1.f_l : Int) > 0)))]⟩ ⟨[[.sl 3 (List.map T_api_Element.cells m0.f_l) .none, .bool m0.f_failed], [.sl 3 (List.map T_api_Element.cells r1.f_l) .none, .bool r1.f_failed]], []⟩ ?_ ?_
  ·refine kP 4 (x_len (c := T_api_Element.cells) (l := r1.f_l) (e := 103) (sz := 3) (sz' := 3) (b := 40) (tok := .none)) ?_
   exact kE ⟨[0, 1], 2, [], 0⟩
  refine bif_ (decide ((List.length r1.f_l : Int) > 0)) (fun hb => ?_) (fun hb => ?_)
  ·replace h := ite_t hb h
   cases h
  replace h := ite_f hb h
  refine b_exit ?_
  refine tk_exit ?_
  refine bl_exit ?_
  exact ⟨(), (Option.some.inj h).symm, wk ⟨[0, 1], 2, [], 0⟩⟩
 subst hz
 refine b_seq ?_
 obtain ⟨y17, hE, h⟩ := bindE h
 refine reg ⟨83, [(5, .nilsl)]⟩ ⟨[[.sl 3 (List.map T_api_Element.cells m0.f_l) .none, .bool y17]], []⟩ ?_ ?_
 ·replace h := hE
  refine kG 6 74 (m0.f_failed) (fun hb => ?_) (fun hb => ?_)
  ·have h := ite_t hb h
   obtain rfl := Option.some.inj h
   exact kE ⟨[0], 2, [], 0⟩
  have h := ite_f hb h
  obtain rfl := Option.some.inj h
  exact kE ⟨[0], 2, [], 0⟩
 refine b_seq ?_
 refine reg ⟨83, [(4, .nilsl)]⟩ ⟨[[.sl 3 (List.map T_api_Element.cells m0.f_l) .none, .bool y17]], []⟩ ?_ ?_
 ·exact kE ⟨[0], 1, [], 0⟩
 refine b_ret ?_
 obtain rfl := Option.some.inj h
 exact rtn ⟨[0], 1, [], 0⟩ (.inr rfl)
def go_wire_reader_query (n : Nat) (m0 : T_wire_reader) : Option (T_api_Query × T_wire_reader) :=
 (go_wire_reader_next n m0).bind fun r1 =>
 (go_date_Decode n r1.1.f_Tag r1.1.f_Content).bind fun r2 =>
 (go_wire_reader_check n r2.2 r1.2).bind fun r3 =>
 (go_wire_reader_optional n 128 r3).bind fun r4 =>
 if r4.2.1 = true then (none) else ((go_wire_reader_optional n 129 (T_wire_reader.mk r4.2.2.f_l r4.2.2.f_failed)).bind fun r5 =>
 (if r5.2.1 = true then ((go_prim_Flags n r5.1.f_Content).bind fun r13 =>
 (go_wire_reader_check n r13.2 r5.2.2).bind fun r14 =>
 some (r14.f_l, r14.f_failed, r13.1)) else (some (r5.2.2.f_l, r5.2.2.f_failed, 0))).bind fun y11 =>
 (go_wire_reader_optional n 162 (T_wire_reader.mk y11.1 y11.2.1)).bind fun r15 =>
 (if r15.2.1 = true then ((go_wire_reader_oids n r15.1.f_Content r15.2.2).bind fun r22 =>
 some (r22.2.f_l, r22.2.f_failed, r22.1)) else (some (r15.2.2.f_l, r15.2.2.f_failed, ([] : List (List UInt8))))).bind fun y20 =>
 (go_wire_reader_flag n 131 (T_wire_reader.mk y20.1 y20.2.1)).bind fun r23 =>
 (go_wire_reader_flag n 132 r23.2).bind fun r24 =>
 (go_wire_reader_flag n 133 r24.2).bind fun r25 =>
 (go_wire_reader_optional n 166 r25.2).bind fun r26 =>
 (if r26.2.1 = true then ((go_gname_DecodeList n r26.1.f_Content).bind fun r34 =>
 (go_wire_reader_check n r34.2 r26.2.2).bind fun r35 =>
 some (r35.f_l, r35.f_failed, r34.1)) else (some (r26.2.2.f_l, r26.2.2.f_failed, ([] : List T_api_GeneralName)))).bind fun y32 =>
 (go_wire_reader_number n 2 (T_wire_reader.mk y32.1 y32.2.1)).bind fun r36 =>
 (go_wire_reader_flag n 135 r36.2).bind fun r37 =>
 (go_wire_reader_optional n 168 r37.2).bind fun r38 =>
 if r38.2.1 = true then ((go_wire_reader_anchors n r38.1.f_Content r38.2.2).bind fun r39 =>
 some ((T_api_Query.mk r2.1 ([] : List UInt8) y11.2.2 y20.2.2 r23.1 r24.1 r25.1 y32.2.2 r36.1 r37.1 r39.1), r39.2)) else (some ((T_api_Query.mk r2.1 ([] : List UInt8) y11.2.2 y20.2.2 r23.1 r24.1 r25.1 y32.2.2 r36.1 r37.1 ([] : (List T_api_Anchor))), r38.2.2)))
theorem go_wire_reader_query_ok {n : Nat} {m0 : T_wire_reader} {r : (T_api_Query × T_wire_reader)} (h : go_wire_reader_query n m0 = some r) : ACalls Tryz.prog (gl0 mx) 72 [.ptr 0 0] ⟨[[.sl 3 (List.map T_api_Element.cells m0.f_l) .none, .bool m0.f_failed]], []⟩ (Out (.agg [.int .i64 r.1.f_Time, .str r.1.f_Purpose, .int .i64 r.1.f_Usage, .sl 1 (List.map cS r.1.f_Policies) .none, .bool r.1.f_Explicit, .bool r.1.f_NoMapping, .bool r.1.f_NoAny, .sl 3 (List.map T_api_GeneralName.cells r.1.f_Names) .none, .int .i64 r.1.f_MaxLength, .bool r.1.f_Status, .sl 4 (List.map T_api_Anchor.cells r.1.f_Issuers) .none]) ⟨[[.sl 3 (List.map T_api_Element.cells r.2.f_l) .none, .bool r.2.f_failed]], []⟩) := by
 delta go_wire_reader_query at h
 refine fnc Tryz.func72 rfl ?_
 refine b_seq ?_
 refine reg ⟨116, [(0, .ptr 0 0), (2, .ptr 1 0)]⟩ ⟨[[.sl 3 (List.map T_api_Element.cells m0.f_l) .none, .bool m0.f_failed], [.int .i64 0, .str ([] : List UInt8), .int .i64 0, .nilsl, .bool false, .bool false, .bool false, .nilsl, .int .i64 0, .bool false, .nilsl]], []⟩ ?_ ?_
 ·exact kE ⟨[0, 1], 2, [], 0⟩
 refine b_seq ?_
 refine reg ⟨116, [(0, .ptr 0 0), (2, .ptr 1 0), (3, .ptr 2 0)]⟩ ⟨[[.sl 3 (List.map T_api_Element.cells m0.f_l) .none, .bool m0.f_failed], [.int .i64 0, .str ([] : List UInt8), .int .i64 0, .nilsl, .bool false, .bool false, .bool false, .nilsl, .int .i64 0, .bool false, .nilsl], [.int .i64 0, .str ([] : List UInt8), .int .i64 0, .nilsl, .bool false, .bool false, .bool false, .nilsl, .int .i64 0, .bool false, .nilsl]], []⟩ ?_ ?_
 ·exact kE ⟨[0, 1, 2], 3, [], 0⟩
 refine b_seq ?_
 refine reg ⟨116, [(0, .ptr 0 0), (2, .ptr 1 0), (3, .ptr 2 0)]⟩ ⟨[[.sl 3 (List.map T_api_Element.cells m0.f_l) .none, .bool m0.f_failed], [.int .i64 0, .str ([] : List UInt8), .int .i64 0, .nilsl, .bool false, .bool false, .bool false, .nilsl, .int .i64 0, .bool false, .nilsl], [.int .i64 0, .str ([] : List UInt8), .int .i64 0, .nilsl, .bool false, .bool false, .bool false, .nilsl, .int .i64 0, .bool false, .nilsl]], []⟩ ?_ ?_
 ·exact kE ⟨[0, 1, 2], 3, [], 0⟩
 refine b_seq ?_
 obtain ⟨r1, hr1, h⟩ := bindE h
 refine reg ⟨116, [(0, .ptr 0 0), (2, .ptr 1 0), (3, .ptr 2 0), (5, .ptr 3 0)]⟩ ⟨[[.sl 3 (List.map T_api_Element.cells r1.2.f_l) .none, .bool r1.2.f_failed], [.int .i64 0, .str ([] : List UInt8), .int .i64 0, .nilsl, .bool false, .bool false, .bool false, .nilsl, .int .i64 0, .bool false, .nilsl], [.int .i64 0, .str ([] : List UInt8), .int .i64 0, .nilsl, .bool false, .bool false, .bool false, .nilsl, .int .i64 0, .bool false, .nilsl], [.int .i64 r1.1.f_Tag, .str r1.1.f_Content, .str r1.1.f_Raw]], []⟩ ?_ ?_
 ·refine kC 1 ⟨[0], 3, [], 0⟩ (go_wire_reader_next_ok hr1) ?_
  exact kE ⟨[0, 1, 2, 3], 4, [], 0⟩
 refine b_seq ?_
 obtain ⟨r2, hr2, h⟩ := bindE h
 refine reg ⟨116, [(0, .ptr 0 0), (2, .ptr 1 0), (3, .ptr 2 0), (4, .int .i64 r2.2)]⟩ ⟨[[.sl 3 (List.map T_api_Element.cells r1.2.f_l) .none, .bool r1.2.f_failed], [.int .i64 0, .str ([] : List UInt8), .int .i64 0, .nilsl, .bool false, .bool false, .bool false, .nilsl, .int .i64 0, .bool false, .nilsl], [.int .i64 r2.1, .str ([] : List UInt8), .int .i64 0, .nilsl, .bool false, .bool false, .bool false, .nilsl, .int .i64 0, .bool false, .nilsl]], []⟩ ?_ ?_
 ·refine kC 4 ⟨[], 4, [], 0⟩ (go_date_Decode_ok hr2) ?_
  exact kE ⟨[0, 1, 2], 4, [], 0⟩
 refine b_seq ?_
 obtain ⟨r3, hr3, h⟩ := bindE h
 refine reg ⟨116, [(0, .ptr 0 0), (2, .ptr 1 0), (3, .ptr 2 0)]⟩ ⟨[[.sl 3 (List.map T_api_Element.cells r3.f_l) .none, .bool r3.f_failed], [.int .i64 0, .str ([] : List UInt8), .int .i64 0, .nilsl, .bool false, .bool false, .bool false, .nilsl, .int .i64 0, .bool false, .nilsl], [.int .i64 r2.1, .str ([] : List UInt8), .int .i64 0, .nilsl, .bool false, .bool false, .bool false, .nilsl, .int .i64 0, .bool false, .nilsl]], []⟩ ?_ ?_
 ·refine kC 2 ⟨[0], 3, [], 0⟩ (go_wire_reader_check_ok hr3) ?_
  exact kE ⟨[0, 1, 2], 3, [], 0⟩
 refine b_seq ?_
 refine b_seq ?_
 obtain ⟨r4, hr4, h⟩ := bindE h
 refine reg ⟨116, [(0, .ptr 0 0), (2, .ptr 1 0), (3, .ptr 2 0), (6, .ptr 3 0), (7, .bool r4.2.1)]⟩ ⟨[[.sl 3 (List.map T_api_Element.cells r4.2.2.f_l) .none, .bool r4.2.2.f_failed], [.int .i64 0, .str ([] : List UInt8), .int .i64 0, .nilsl, .bool false, .bool false, .bool false, .nilsl, .int .i64 0, .bool false, .nilsl], [.int .i64 r2.1, .str ([] : List UInt8), .int .i64 0, .nilsl, .bool false, .bool false, .bool false, .nilsl, .int .i64 0, .bool false, .nilsl], [.int .i64 r4.1.f_Tag, .str r4.1.f_Content, .str r4.1.f_Raw]], []⟩ ?_ ?_
 ·refine kC 1 ⟨[0], 3, [], 0⟩ (go_wire_reader_optional_ok hr4) ?_
  exact kE ⟨[0, 1, 2, 3], 4, [], 0⟩
 refine b_seq ?_
 refine reg ⟨116, [(0, .ptr 0 0), (2, .ptr 1 0), (3, .ptr 2 0), (6, .ptr 3 0), (35, .bool r4.2.1)]⟩ ⟨[[.sl 3 (List.map T_api_Element.cells r4.2.2.f_l) .none, .bool r4.2.2.f_failed], [.int .i64 0, .str ([] : List UInt8), .int .i64 0, .nilsl, .bool false, .bool false, .bool false, .nilsl, .int .i64 0, .bool false, .nilsl], [.int .i64 r2.1, .str ([] : List UInt8), .int .i64 0, .nilsl, .bool false, .bool false, .bool false, .nilsl, .int .i64 0, .bool false, .nilsl], [.int .i64 r4.1.f_Tag, .str r4.1.f_Content, .str r4.1.f_Raw]], []⟩ ?_ ?_
 ·exact kE ⟨[0, 1, 2, 3], 4, [], 0⟩
 refine bif_ (r4.2.1) (fun hb => ?_) (fun hb => ?_)
 ·replace h := ite_t hb h
  cases h
 replace h := ite_f hb h
 refine b_skip ?_
 refine b_seq ?_
 refine b_seq ?_
 obtain ⟨r5, hr5, h⟩ := bindE h
 refine reg ⟨116, [(0, .ptr 0 0), (2, .ptr 1 0), (3, .ptr 2 0), (8, .ptr 3 0), (9, .bool r5.2.1)]⟩ ⟨[[.sl 3 (List.map T_api_Element.cells r5.2.2.f_l) .none, .bool r5.2.2.f_failed], [.int .i64 0, .str ([] : List UInt8), .int .i64 0, .nilsl, .bool false, .bool false, .bool false, .nilsl, .int .i64 0, .bool false, .nilsl], [.int .i64 r2.1, .str ([] : List UInt8), .int .i64 0, .nilsl, .bool false, .bool false, .bool false, .nilsl, .int .i64 0, .bool false, .nilsl], [.int .i64 r5.1.f_Tag, .str r5.1.f_Content, .str r5.1.f_Raw]], []⟩ ?_ ?_
 ·refine kC 1 ⟨[0], 4, [], 0⟩ (go_wire_reader_optional_ok hr5) ?_
  exact kE ⟨[0, 1, 2, 4], 5, [], 0⟩
 refine b_seq ?_
 refine reg ⟨116, [(0, .ptr 0 0), (2, .ptr 1 0), (3, .ptr 2 0), (8, .ptr 3 0), (51, .bool r5.2.1)]⟩ ⟨[[.sl 3 (List.map T_api_Element.cells r5.2.2.f_l) .none, .bool r5.2.2.f_failed], [.int .i64 0, .str ([] : List UInt8), .int .i64 0, .nilsl, .bool false, .bool false, .bool false, .nilsl, .int .i64 0, .bool false, .nilsl], [.int .i64 r2.1, .str ([] : List UInt8), .int .i64 0, .nilsl, .bool false, .bool false, .bool false, .nilsl, .int .i64 0, .bool false, .nilsl], [.int .i64 r5.1.f_Tag, .str r5.1.f_Content, .str r5.1.f_Raw]], []⟩ ?_ ?_
 ·exact kE ⟨[0, 1, 2, 3], 4, [], 0⟩
 obtain ⟨y11, hE, h⟩ := bindE h
 refine b_cutE (Y := ((List T_api_Element) × Bool × Int)) (fun y11 => ⟨116, [(0, .ptr 0 0), (2, .ptr 1 0), (3, .ptr 2 0)]⟩) (fun y11 => ⟨[[.sl 3 (List.map T_api_Element.cells y11.1) .none, .bool y11.2.1], [.int .i64 0, .str ([] : List UInt8), .int .i64 0, .nilsl, .bool false, .bool false, .bool false, .nilsl, .int .i64 0, .bool false, .nilsl], [.int .i64 r2.1, .str ([] : List UInt8), .int .i64 y11.2.2, .nilsl, .bool false, .bool false, .bool false, .nilsl, .int .i64 0, .bool false, .nilsl]], []⟩) (fun z => y11 = z) ?_ cl_cons (fun z hz => ?_)
 ·replace h := hE
  refine bif_ (r5.2.1) (fun hb => ?_) (fun hb => ?_)
  ·replace h := ite_t hb h
   refine b_seq ?_
   obtain ⟨r13, hr13, h⟩ := bindE h
   refine reg ⟨116, [(0, .ptr 0 0), (2, .ptr 1 0), (3, .ptr 2 0), (4, .int .i64 r13.2)]⟩ ⟨[[.sl 3 (List.map T_api_Element.cells r5.2.2.f_l) .none, .bool r5.2.2.f_failed], [.int .i64 0, .str ([] : List UInt8), .int .i64 0, .nilsl, .bool false, .bool false, .bool false, .nilsl, .int .i64 0, .bool false, .nilsl], [.int .i64 r2.1, .str ([] : List UInt8), .int .i64 r13.1, .nilsl, .bool false, .bool false, .bool false, .nilsl, .int .i64 0, .bool false, .nilsl]], []⟩ ?_ ?_
   ·refine kC 2 ⟨[], 4, [], 0⟩ (go_prim_Flags_ok hr13) ?_
    exact kE ⟨[0, 1, 2], 4, [], 0⟩
   obtain ⟨r14, hr14, h⟩ := bindE h
   refine regN ⟨116, [(0, .ptr 0 0), (2, .ptr 1 0), (3, .ptr 2 0)]⟩ ⟨[[.sl 3 (List.map T_api_Element.cells r14.f_l) .none, .bool r14.f_failed], [.int .i64 0, .str ([] : List UInt8), .int .i64 0, .nilsl, .bool false, .bool false, .bool false, .nilsl, .int .i64 0, .bool false, .nilsl], [.int .i64 r2.1, .str ([] : List UInt8), .int .i64 r13.1, .nilsl, .bool false, .bool false, .bool false, .nilsl, .int .i64 0, .bool false, .nilsl]], []⟩ cl_loopT ?_ ?_
   ·refine kC 2 ⟨[0], 3, [], 0⟩ (go_wire_reader_check_ok hr14) ?_
    exact kE ⟨[0, 1, 2], 3, [], 0⟩
   exact ⟨(r14.f_l, r14.f_failed, r13.1), (Option.some.inj h).symm, wk ⟨[0, 1, 2], 3, [], 0⟩⟩
  replace h := ite_f hb h
  refine b_skip ?_
  exact ⟨(r5.2.2.f_l, r5.2.2.f_failed, 0), (Option.some.inj h).symm, wk ⟨[0, 1, 2], 4, [], 0⟩⟩
 subst hz
 refine b_seq ?_
 refine b_seq ?_
 obtain ⟨r15, hr15, h⟩ := bindE h
 refine reg ⟨116, [(0, .ptr 0 0), (2, .ptr 1 0), (3, .ptr 2 0), (10, .ptr 3 0), (11, .bool r15.2.1)]⟩ ⟨[[.sl 3 (List.map T_api_Element.cells r15.2.2.f_l) .none, .bool r15.2.2.f_failed], [.int .i64 0, .str ([] : List UInt8), .int .i64 0, .nilsl, .bool false, .bool false, .bool false, .nilsl, .int .i64 0, .bool false, .nilsl], [.int .i64 r2.1, .str ([] : List UInt8), .int .i64 y11.2.2, .nilsl, .bool false, .bool false, .bool false, .nilsl, .int .i64 0, .bool false, .nilsl], [.int .i64 r15.1.f_Tag, .str r15.1.f_Content, .str r15.1.f_Raw]], []⟩ ?_ ?_
 ·refine kC 1 ⟨[0], 3, [], 0⟩ (go_wire_reader_optional_ok hr15) ?_
  exact kE ⟨[0, 1, 2, 3], 4, [], 0⟩
 refine b_seq ?_
 refine reg ⟨116, [(0, .ptr 0 0), (2, .ptr 1 0), (3, .ptr 2 0), (10, .ptr 3 0), (67, .bool r15.2.1)]⟩ ⟨[[.sl 3 (List.map T_api_Element.cells r15.2.2.f_l) .none, .bool r15.2.2.f_failed], [.int .i64 0, .str ([] : List UInt8), .int .i64 0, .nilsl, .bool false, .bool false, .bool false, .nilsl, .int .i64 0, .bool false, .nilsl], [.int .i64 r2.1, .str ([] : List UInt8), .int .i64 y11.2.2, .nilsl, .bool false, .bool false, .bool false, .nilsl, .int .i64 0, .bool false, .nilsl], [.int .i64 r15.1.f_Tag, .str r15.1.f_Content, .str r15.1.f_Raw]], []⟩ ?_ ?_
 ·exact kE ⟨[0, 1, 2, 3], 4, [], 0⟩
 obtain ⟨y20, hE, h⟩ := bindE h
 refine b_cutE (Y := ((List T_api_Element) × Bool × (List (List UInt8)))) (fun y20 => ⟨116, [(0, .ptr 0 0), (2, .ptr 1 0), (3, .ptr 2 0)]⟩) (fun y20 => ⟨[[.sl 3 (List.map T_api_Element.cells y20.1) .none, .bool y20.2.1], [.int .i64 0, .str ([] : List UInt8), .int .i64 0, .nilsl, .bool false, .bool false, .bool false, .nilsl, .int .i64 0, .bool false, .nilsl], [.int .i64 r2.1, .str ([] : List UInt8), .int .i64 y11.2.2, .sl 1 (List.map cS y20.2.2) .none, .bool false, .bool false, .bool false, .nilsl, .int .i64 0, .bool false, .nilsl]], []⟩) (fun z => y20 = z) ?_ cl_cons (fun z hz => ?_)
 ·replace h := hE
  refine bif_ (r15.2.1) (fun hb => ?_) (fun hb => ?_)
  ·replace h := ite_t hb h
   obtain ⟨r22, hr22, h⟩ := bindE h
   refine regN ⟨116, [(0, .ptr 0 0), (2, .ptr 1 0), (3, .ptr 2 0)]⟩ ⟨[[.sl 3 (List.map T_api_Element.cells r22.2.f_l) .none, .bool r22.2.f_failed], [.int .i64 0, .str ([] : List UInt8), .int .i64 0, .nilsl, .bool false, .bool false, .bool false, .nilsl, .int .i64 0, .bool false, .nilsl], [.int .i64 r2.1, .str ([] : List UInt8), .int .i64 y11.2.2, .sl 1 (List.map cS r22.1) .none, .bool false, .bool false, .bool false, .nilsl, .int .i64 0, .bool false, .nilsl]], []⟩ cl_loopT ?_ ?_
   ·refine kC 3 ⟨[0], 4, [], 0⟩ (go_wire_reader_oids_ok hr22) ?_
    exact kE ⟨[0, 1, 2], 4, [], 0⟩
   exact ⟨(r22.2.f_l, r22.2.f_failed, r22.1), (Option.some.inj h).symm, wk ⟨[0, 1, 2], 3, [], 0⟩⟩
  replace h := ite_f hb h
  refine b_skip ?_
  exact ⟨(r15.2.2.f_l, r15.2.2.f_failed, ([] : List (List UInt8))), (Option.some.inj h).symm, wk ⟨[0, 1, 2], 4, [], 0⟩⟩
 subst hz
 refine b_seq ?_
 obtain ⟨r23, hr23, h⟩ := bindE h
 refine reg ⟨116, [(0, .ptr 0 0), (2, .ptr 1 0), (3, .ptr 2 0)]⟩ ⟨[[.sl 3 (List.map T_api_Element.cells r23.2.f_l) .none, .bool r23.2.f_failed], [.int .i64 0, .str ([] : List UInt8), .int .i64 0, .nilsl, .bool false, .bool false, .bool false, .nilsl, .int .i64 0, .bool false, .nilsl], [.int .i64 r2.1, .str ([] : List UInt8), .int .i64 y11.2.2, .sl 1 (List.map cS y20.2.2) .none, .bool r23.1, .bool false, .bool false, .nilsl, .int .i64 0, .bool false, .nilsl]], []⟩ ?_ ?_
 ·refine kC 1 ⟨[0], 3, [], 0⟩ (go_wire_reader_flag_ok hr23) ?_
  exact kE ⟨[0, 1, 2], 3, [], 0⟩
 refine b_seq ?_
 obtain ⟨r24, hr24, h⟩ := bindE h
 refine reg ⟨116, [(0, .ptr 0 0), (2, .ptr 1 0), (3, .ptr 2 0)]⟩ ⟨[[.sl 3 (List.map T_api_Element.cells r24.2.f_l) .none, .bool r24.2.f_failed], [.int .i64 0, .str ([] : List UInt8), .int .i64 0, .nilsl, .bool false, .bool false, .bool false, .nilsl, .int .i64 0, .bool false, .nilsl], [.int .i64 r2.1, .str ([] : List UInt8), .int .i64 y11.2.2, .sl 1 (List.map cS y20.2.2) .none, .bool r23.1, .bool r24.1, .bool false, .nilsl, .int .i64 0, .bool false, .nilsl]], []⟩ ?_ ?_
 ·refine kC 1 ⟨[0], 3, [], 0⟩ (go_wire_reader_flag_ok hr24) ?_
  exact kE ⟨[0, 1, 2], 3, [], 0⟩
 refine b_seq ?_
 obtain ⟨r25, hr25, h⟩ := bindE h
 refine reg ⟨116, [(0, .ptr 0 0), (2, .ptr 1 0), (3, .ptr 2 0)]⟩ ⟨[[.sl 3 (List.map T_api_Element.cells r25.2.f_l) .none, .bool r25.2.f_failed], [.int .i64 0, .str ([] : List UInt8), .int .i64 0, .nilsl, .bool false, .bool false, .bool false, .nilsl, .int .i64 0, .bool false, .nilsl], [.int .i64 r2.1, .str ([] : List UInt8), .int .i64 y11.2.2, .sl 1 (List.map cS y20.2.2) .none, .bool r23.1, .bool r24.1, .bool r25.1, .nilsl, .int .i64 0, .bool false, .nilsl]], []⟩ ?_ ?_
 ·refine kC 1 ⟨[0], 3, [], 0⟩ (go_wire_reader_flag_ok hr25) ?_
  exact kE ⟨[0, 1, 2], 3, [], 0⟩
 refine b_seq ?_
 refine b_seq ?_
 obtain ⟨r26, hr26, h⟩ := bindE h
 refine reg ⟨116, [(0, .ptr 0 0), (2, .ptr 1 0), (3, .ptr 2 0), (12, .ptr 3 0), (13, .bool r26.2.1)]⟩ ⟨[[.sl 3 (List.map T_api_Element.cells r26.2.2.f_l) .none, .bool r26.2.2.f_failed], [.int .i64 0, .str ([] : List UInt8), .int .i64 0, .nilsl, .bool false, .bool false, .bool false, .nilsl, .int .i64 0, .bool false, .nilsl], [.int .i64 r2.1, .str ([] : List UInt8), .int .i64 y11.2.2, .sl 1 (List.map cS y20.2.2) .none, .bool r23.1, .bool r24.1, .bool r25.1, .nilsl, .int .i64 0, .bool false, .nilsl], [.int .i64 r26.1.f_Tag, .str r26.1.f_Content, .str r26.1.f_Raw]], []⟩ ?_ ?_
 ·refine kC 1 ⟨[0], 3, [], 0⟩ (go_wire_reader_optional_ok hr26) ?_
  exact kE ⟨[0, 1, 2, 3], 4, [], 0⟩
 refine b_seq ?_
 refine reg ⟨116, [(0, .ptr 0 0), (2, .ptr 1 0), (3, .ptr 2 0), (12, .ptr 3 0), (87, .bool r26.2.1)]⟩ ⟨[[.sl 3 (List.map T_api_Element.cells r26.2.2.f_l) .none, .bool r26.2.2.f_failed], [.int .i64 0, .str ([] : List UInt8), .int .i64 0, .nilsl, .bool false, .bool false, .bool false, .nilsl, .int .i64 0, .bool false, .nilsl], [.int .i64 r2.1, .str ([] : List UInt8), .int .i64 y11.2.2, .sl 1 (List.map cS y20.2.2) .none, .bool r23.1, .bool r24.1, .bool r25.1, .nilsl, .int .i64 0, .bool false, .nilsl], [.int .i64 r26.1.f_Tag, .str r26.1.f_Content, .str r26.1.f_Raw]], []⟩ ?_ ?_
 ·exact kE ⟨[0, 1, 2, 3], 4, [], 0⟩
 obtain ⟨y32, hE, h⟩ := bindE h
 refine b_cutE (Y := ((List T_api_Element) × Bool × (List T_api_GeneralName))) (fun y32 => ⟨116, [(0, .ptr 0 0), (2, .ptr 1 0), (3, .ptr 2 0)]⟩) (fun y32 => ⟨[[.sl 3 (List.map T_api_Element.cells y32.1) .none, .bool y32.2.1], [.int .i64 0, .str ([] : List UInt8), .int .i64 0, .nilsl, .bool false, .bool false, .bool false, .nilsl, .int .i64 0, .bool false, .nilsl], [.int .i64 r2.1, .str ([] : List UInt8), .int .i64 y11.2.2, .sl 1 (List.map cS y20.2.2) .none, .bool r23.1, .bool r24.1, .bool r25.1, .sl 3 (List.map T_api_GeneralName.cells y32.2.2) .none, .int .i64 0, .bool false, .nilsl]], []⟩) (fun z => y32 = z) ?_ cl_cons (fun z hz => ?_)
 ·replace h := hE
  refine bif_ (r26.2.1) (fun hb => ?_) (fun hb => ?_)
  ·replace h := ite_t hb h
   refine b_seq ?_
   obtain ⟨r34, hr34, h⟩ := bindE h
   refine reg ⟨116, [(0, .ptr 0 0), (2, .ptr 1 0), (3, .ptr 2 0), (4, .int .i64 r34.2)]⟩ ⟨[[.sl 3 (List.map T_api_Element.cells r26.2.2.f_l) .none, .bool r26.2.2.f_failed], [.int .i64 0, .str ([] : List UInt8), .int .i64 0, .nilsl, .bool false, .bool false, .bool false, .nilsl, .int .i64 0, .bool false, .nilsl], [.int .i64 r2.1, .str ([] : List UInt8), .int .i64 y11.2.2, .sl 1 (List.map cS y20.2.2) .none, .bool r23.1, .bool r24.1, .bool r25.1, .sl 3 (List.map T_api_GeneralName.cells r34.1) .none, .int .i64 0, .bool false, .nilsl]], []⟩ ?_ ?_
   ·refine kC 2 ⟨[], 4, [], 0⟩ (go_gname_DecodeList_ok hr34) ?_
    exact kE ⟨[0, 1, 2], 4, [], 0⟩
   obtain ⟨r35, hr35, h⟩ := bindE h
   refine regN ⟨116, [(0, .ptr 0 0), (2, .ptr 1 0), (3, .ptr 2 0)]⟩ ⟨[[.sl 3 (List.map T_api_Element.cells r35.f_l) .none, .bool r35.f_failed], [.int .i64 0, .str ([] : List UInt8), .int .i64 0, .nilsl, .bool false, .bool false, .bool false, .nilsl, .int .i64 0, .bool false, .nilsl], [.int .i64 r2.1, .str ([] : List UInt8), .int .i64 y11.2.2, .sl 1 (List.map cS y20.2.2) .none, .bool r23.1, .bool r24.1, .bool r25.1, .sl 3 (List.map T_api_GeneralName.cells r34.1) .none, .int .i64 0, .bool false, .nilsl]], []⟩ cl_loopT ?_ ?_
   ·refine kC 2 ⟨[0], 3, [], 0⟩ (go_wire_reader_check_ok hr35) ?_
    exact kE ⟨[0, 1, 2], 3, [], 0⟩
   exact ⟨(r35.f_l, r35.f_failed, r34.1), (Option.some.inj h).symm, wk ⟨[0, 1, 2], 3, [], 0⟩⟩
  replace h := ite_f hb h
  refine b_skip ?_
  exact ⟨(r26.2.2.f_l, r26.2.2.f_failed, ([] : List T_api_GeneralName)), (Option.some.inj h).symm, wk ⟨[0, 1, 2], 4, [], 0⟩⟩
 subst hz
 refine b_seq ?_
 obtain ⟨r36, hr36, h⟩ := bindE h
 refine reg ⟨116, [(0, .ptr 0 0), (2, .ptr 1 0), (3, .ptr 2 0)]⟩ ⟨[[.sl 3 (List.map T_api_Element.cells r36.2.f_l) .none, .bool r36.2.f_failed], [.int .i64 0, .str ([] : List UInt8), .int .i64 0, .nilsl, .bool false, .bool false, .bool false, .nilsl, .int .i64 0, .bool false, .nilsl], [.int .i64 r2.1, .str ([] : List UInt8), .int .i64 y11.2.2, .sl 1 (List.map cS y20.2.2) .none, .bool r23.1, .bool r24.1, .bool r25.1, .sl 3 (List.map T_api_GeneralName.cells y32.2.2) .none, .int .i64 r36.1, .bool false, .nilsl]], []⟩ ?_ ?_
 ·refine kC 1 ⟨[0], 3, [], 0⟩ (go_wire_reader_number_ok hr36) ?_
  exact kE ⟨[0, 1, 2], 3, [], 0⟩
 refine b_seq ?_
 obtain ⟨r37, hr37, h⟩ := bindE h
 refine reg ⟨116, [(0, .ptr 0 0), (2, .ptr 1 0), (3, .ptr 2 0)]⟩ ⟨[[.sl 3 (List.map T_api_Element.cells r37.2.f_l) .none, .bool r37.2.f_failed], [.int .i64 0, .str ([] : List UInt8), .int .i64 0, .nilsl, .bool false, .bool false, .bool false, .nilsl, .int .i64 0, .bool false, .nilsl], [.int .i64 r2.1, .str ([] : List UInt8), .int .i64 y11.2.2, .sl 1 (List.map cS y20.2.2) .none, .bool r23.1, .bool r24.1, .bool r25.1, .sl 3 (List.map T_api_GeneralName.cells y32.2.2) .none, .int .i64 r36.1, .bool r37.1, .nilsl]], []⟩ ?_ ?_
 ·refine kC 1 ⟨[0], 3, [], 0⟩ (go_wire_reader_flag_ok hr37) ?_
  exact kE ⟨[0, 1, 2], 3, [], 0⟩
 refine b_seq ?_
 refine b_seq ?_
 obtain ⟨r38, hr38, h⟩ := bindE h
 refine reg ⟨116, [(0, .ptr 0 0), (2, .ptr 1 0), (3, .ptr 2 0), (14, .ptr 3 0), (15, .bool r38.2.1)]⟩ ⟨[[.sl 3 (List.map T_api_Element.cells r38.2.2.f_l) .none, .bool r38.2.2.f_failed], [.int .i64 0, .str ([] : List UInt8), .int .i64 0, .nilsl, .bool false, .bool false, .bool false, .nilsl, .int .i64 0, .bool false, .nilsl], [.int .i64 r2.1, .str ([] : List UInt8), .int .i64 y11.2.2, .sl 1 (List.map cS y20.2.2) .none, .bool r23.1, .bool r24.1, .bool r25.1, .sl 3 (List.map T_api_GeneralName.cells y32.2.2) .none, .int .i64 r36.1, .bool r37.1, .nilsl], [.int .i64 r38.1.f_Tag, .str r38.1.f_Content, .str r38.1.f_Raw]], []⟩ ?_ ?_
 ·refine kC 1 ⟨[0], 3, [], 0⟩ (go_wire_reader_optional_ok hr38) ?_
  exact kE ⟨[0, 1, 2, 3], 4, [], 0⟩
 refine b_seq ?_
 refine reg ⟨116, [(0, .ptr 0 0), (2, .ptr 1 0), (3, .ptr 2 0), (14, .ptr 3 0), (109, .bool r38.2.1)]⟩ ⟨[[.sl 3 (List.map T_api_Element.cells r38.2.2.f_l) .none, .bool r38.2.2.f_failed], [.int .i64 0, .str ([] : List UInt8), .int .i64 0, .nilsl, .bool false, .bool false, .bool false, .nilsl, .int .i64 0, .bool false, .nilsl], [.int .i64 r2.1, .str ([] : List UInt8), .int .i64 y11.2.2, .sl 1 (List.map cS y20.2.2) .none, .bool r23.1, .bool r24.1, .bool r25.1, .sl 3 (List.map T_api_GeneralName.cells y32.2.2) .none, .int .i64 r36.1, .bool r37.1, .nilsl], [.int .i64 r38.1.f_Tag, .str r38.1.f_Content, .str r38.1.f_Raw]], []⟩ ?_ ?_
 ·exact kE ⟨[0, 1, 2, 3], 4, [], 0⟩
 refine bif_ (r38.2.1) (fun hb => ?_) (fun hb => ?_)
 ·replace h := ite_t hb h
  obtain ⟨r39, hr39, h⟩ := bindE h
  refine reg ⟨116, [(2, .ptr 1 0), (3, .ptr 2 0)]⟩ ⟨[[.sl 3 (List.map T_api_Element.cells r39.2.f_l) .none, .bool r39.2.f_failed], [.int .i64 0, .str ([] : List UInt8), .int .i64 0, .nilsl, .bool false, .bool false, .bool false, .nilsl, .int .i64 0, .bool false, .nilsl], [.int .i64 r2.1, .str ([] : List UInt8), .int .i64 y11.2.2, .sl 1 (List.map cS y20.2.2) .none, .bool r23.1, .bool r24.1, .bool r25.1, .sl 3 (List.map T_api_GeneralName.cells y32.2.2) .none, .int .i64 r36.1, .bool r37.1, .sl 4 (List.map T_api_Anchor.cells r39.1) .none]], []⟩ ?_ ?_
  ·refine kC 3 ⟨[0], 4, [], 0⟩ (go_wire_reader_anchors_ok hr39) ?_
   exact kE ⟨[0, 1, 2], 4, [], 0⟩
  refine b_seq ?_
  refine reg ⟨116, [(2, .ptr 1 0)]⟩ ⟨[[.sl 3 (List.map T_api_Element.cells r39.2.f_l) .none, .bool r39.2.f_failed], [.int .i64 r2.1, .str ([] : List UInt8), .int .i64 y11.2.2, .sl 1 (List.map cS y20.2.2) .none, .bool r23.1, .bool r24.1, .bool r25.1, .sl 3 (List.map T_api_GeneralName.cells y32.2.2) .none, .int .i64 r36.1, .bool r37.1, .sl 4 (List.map T_api_Anchor.cells r39.1) .none]], []⟩ ?_ ?_
  ·exact kE ⟨[0, 1], 3, [], 0⟩
  refine b_ret ?_
  obtain rfl := Option.some.inj h
  exact rtn ⟨[0], 2, [], 0⟩ (.inr rfl)
 replace h := ite_f hb h
 refine b_skip ?_
 refine b_seq ?_
 refine reg ⟨116, [(2, .ptr 1 0)]⟩ ⟨[[.sl 3 (List.map T_api_Element.cells r38.2.2.f_l) .none, .bool r38.2.2.f_failed], [.int .i64 r2.1, .str ([] : List UInt8), .int .i64 y11.2.2, .sl 1 (List.map cS y20.2.2) .none, .bool r23.1, .bool r24.1, .bool r25.1, .sl 3 (List.map T_api_GeneralName.cells y32.2.2) .none, .int .i64 r36.1, .bool r37.1, .nilsl]], []⟩ ?_ ?_
 ·exact kE ⟨[0, 1], 4, [], 0⟩
 refine b_ret ?_
 obtain rfl := Option.some.inj h
 exact rtn ⟨[0], 2, [], 0⟩ (.inr rfl)
def go_wire_decode_api_Query (n : Nat) (a0 : (List UInt8)) : Option (T_api_Query × Int) :=
 (go_tlv_Check n a0).bind fun r1 =>
 if (r1 != 0) = true then (some ((T_api_Query.mk 0 ([] : List UInt8) 0 ([] : (List (List UInt8))) false false false ([] : (List T_api_GeneralName)) 0 false ([] : (List T_api_Anchor))), r1)) else ((go_tlv_One n a0).bind fun r2 =>
 if (r2.2 != 0) = true then (some ((T_api_Query.mk 0 ([] : List UInt8) 0 ([] : (List (List UInt8))) false false false ([] : (List T_api_GeneralName)) 0 false ([] : (List T_api_Anchor))), r2.2)) else ((go_wire_sequence n r2.1).bind fun r3 =>
 (go_wire_reader_query n r3).bind fun r4 =>
 if r4.2.f_failed = true then (some ((T_api_Query.mk 0 ([] : List UInt8) 0 ([] : (List (List UInt8))) false false false ([] : (List T_api_GeneralName)) 0 false ([] : (List T_api_Anchor))), 7)) else ((go_wire_EncodeQuery n r4.1).bind fun r5 =>
 (if (r5.2 != 0) = true then (some true) else (some (!(r5.1 == a0)))).bind fun y7 =>
 if y7 = true then (some ((T_api_Query.mk 0 ([] : List UInt8) 0 ([] : (List (List UInt8))) false false false ([] : (List T_api_GeneralName)) 0 false ([] : (List T_api_Anchor))), 7)) else (some (r4.1, 0)))))
theorem go_wire_decode_api_Query_ok {n : Nat} {a0 : (List UInt8)} {r : (T_api_Query × Int)} (h : go_wire_decode_api_Query n a0 = some r) : ACalls Tryz.prog (gl0 mx) 71 [.str a0, .func (.func 72) [] [], .func (.func 14) [] []] ⟨[], []⟩ (Out (.tuple [.agg [.int .i64 r.1.f_Time, .str r.1.f_Purpose, .int .i64 r.1.f_Usage, .sl 1 (List.map cS r.1.f_Policies) .none, .bool r.1.f_Explicit, .bool r.1.f_NoMapping, .bool r.1.f_NoAny, .sl 3 (List.map T_api_GeneralName.cells r.1.f_Names) .none, .int .i64 r.1.f_MaxLength, .bool r.1.f_Status, .sl 4 (List.map T_api_Anchor.cells r.1.f_Issuers) .none], .int .i64 r.2]) ⟨[], []⟩) := by
 delta go_wire_decode_api_Query at h
 refine fnc Tryz.func71 rfl ?_
 refine b_seq ?_
 refine reg ⟨56, [(0, .str a0), (1, .func (.func 72) [] []), (2, .func (.func 14) [] []), (6, .ptr 0 0)]⟩ ⟨[[.int .i64 0, .str ([] : List UInt8), .int .i64 0, .nilsl, .bool false, .bool false, .bool false, .nilsl, .int .i64 0, .bool false, .nilsl]], []⟩ ?_ ?_
 ·exact kE ⟨[0], 1, [], 0⟩
 refine b_seq ?_
 refine reg ⟨56, [(0, .str a0), (1, .func (.func 72) [] []), (2, .func (.func 14) [] []), (6, .ptr 0 0), (8, .ptr 1 0)]⟩ ⟨[[.int .i64 0, .str ([] : List UInt8), .int .i64 0, .nilsl, .bool false, .bool false, .bool false, .nilsl, .int .i64 0, .bool false, .nilsl], [.int .i64 0, .str ([] : List UInt8), .int .i64 0, .nilsl, .bool false, .bool false, .bool false, .nilsl, .int .i64 0, .bool false, .nilsl]], []⟩ ?_ ?_
 ·exact kE ⟨[0, 1], 2, [], 0⟩
 refine b_seq ?_
 refine b_seq ?_
 obtain ⟨r1, hr1, h⟩ := bindE h
 refine reg ⟨56, [(0, .str a0), (1, .func (.func 72) [] []), (2, .func (.func 14) [] []), (6, .ptr 0 0), (8, .ptr 1 0), (9, .int .i64 r1)]⟩ ⟨[[.int .i64 0, .str ([] : List UInt8), .int .i64 0, .nilsl, .bool false, .bool false, .bool false, .nilsl, .int .i64 0, .bool false, .nilsl], [.int .i64 0, .str ([] : List UInt8), .int .i64 0, .nilsl, .bool false, .bool false, .bool false, .nilsl, .int .i64 0, .bool false, .nilsl]], []⟩ ?_ ?_
 ·refine kC 1 ⟨[], 2, [], 0⟩ (go_tlv_Check_ok hr1) ?_
  exact kE ⟨[0, 1], 2, [], 0⟩
 refine b_seq ?_
 refine reg ⟨56, [(0, .str a0), (1, .func (.func 72) [] []), (2, .func (.func 14) [] []), (6, .ptr 0 0), (8, .ptr 1 0), (9, .int .i64 r1), (19, .bool (r1 != 0))]⟩ ⟨[[.int .i64 0, .str ([] : List UInt8), .int .i64 0, .nilsl, .bool false, .bool false, .bool false, .nilsl, .int .i64 0, .bool false, .nilsl], [.int .i64 0, .str ([] : List UInt8), .int .i64 0, .nilsl, .bool false, .bool false, .bool false, .nilsl, .int .i64 0, .bool false, .nilsl]], []⟩ ?_ ?_
 ·exact kE ⟨[0, 1], 2, [], 0⟩
 refine bif_ (r1 != 0) (fun hb => ?_) (fun hb => ?_)
 ·replace h := ite_t hb h
  refine b_seq ?_
  refine reg ⟨56, [(6, .ptr 0 0), (7, .int .i64 r1)]⟩ ⟨[[.int .i64 0, .str ([] : List UInt8), .int .i64 0, .nilsl, .bool false, .bool false, .bool false, .nilsl, .int .i64 0, .bool false, .nilsl]], []⟩ ?_ ?_
  ·exact kE ⟨[0], 2, [], 0⟩
  refine b_ret ?_
  obtain rfl := Option.some.inj h
  exact rtn ⟨[], 1, [], 0⟩ (.inr rfl)
 replace h := ite_f hb h
 refine b_skip ?_
 refine b_seq ?_
 obtain ⟨r2, hr2, h⟩ := bindE h
 refine reg ⟨56, [(0, .str a0), (1, .func (.func 72) [] []), (2, .func (.func 14) [] []), (6, .ptr 0 0), (8, .ptr 1 0), (10, .ptr 2 0), (11, .int .i64 r2.2)]⟩ ⟨[[.int .i64 0, .str ([] : List UInt8), .int .i64 0, .nilsl, .bool false, .bool false, .bool false, .nilsl, .int .i64 0, .bool false, .nilsl], [.int .i64 0, .str ([] : List UInt8), .int .i64 0, .nilsl, .bool false, .bool false, .bool false, .nilsl, .int .i64 0, .bool false, .nilsl], [.int .i64 r2.1.f_Tag, .str r2.1.f_Content, .str r2.1.f_Raw]], []⟩ ?_ ?_
 ·refine kC 1 ⟨[], 2, [], 0⟩ (go_tlv_One_ok hr2) ?_
  exact kE ⟨[0, 1, 2], 3, [], 0⟩
 refine b_seq ?_
 refine b_seq ?_
 refine reg ⟨56, [(0, .str a0), (1, .func (.func 72) [] []), (2, .func (.func 14) [] []), (6, .ptr 0 0), (8, .ptr 1 0), (10, .ptr 2 0), (11, .int .i64 r2.2), (28, .bool (r2.2 != 0))]⟩ ⟨[[.int .i64 0, .str ([] : List UInt8), .int .i64 0, .nilsl, .bool false, .bool false, .bool false, .nilsl, .int .i64 0, .bool false, .nilsl], [.int .i64 0, .str ([] : List UInt8), .int .i64 0, .nilsl, .bool false, .bool false, .bool false, .nilsl, .int .i64 0, .bool false, .nilsl], [.int .i64 r2.1.f_Tag, .str r2.1.f_Content, .str r2.1.f_Raw]], []⟩ ?_ ?_
 ·exact kE ⟨[0, 1, 2], 3, [], 0⟩
 refine bif_ (r2.2 != 0) (fun hb => ?_) (fun hb => ?_)
 ·replace h := ite_t hb h
  refine b_seq ?_
  refine reg ⟨56, [(6, .ptr 0 0), (7, .int .i64 r2.2)]⟩ ⟨[[.int .i64 0, .str ([] : List UInt8), .int .i64 0, .nilsl, .bool false, .bool false, .bool false, .nilsl, .int .i64 0, .bool false, .nilsl]], []⟩ ?_ ?_
  ·exact kE ⟨[0], 3, [], 0⟩
  refine b_ret ?_
  obtain rfl := Option.some.inj h
  exact rtn ⟨[], 1, [], 0⟩ (.inr rfl)
 replace h := ite_f hb h
 refine b_skip ?_
 refine b_seq ?_
 obtain ⟨r3, hr3, h⟩ := bindE h
 refine reg ⟨56, [(0, .str a0), (1, .func (.func 72) [] []), (2, .func (.func 14) [] []), (6, .ptr 0 0), (8, .ptr 1 0), (12, .ptr 2 0)]⟩ ⟨[[.int .i64 0, .str ([] : List UInt8), .int .i64 0, .nilsl, .bool false, .bool false, .bool false, .nilsl, .int .i64 0, .bool false, .nilsl], [.int .i64 0, .str ([] : List UInt8), .int .i64 0, .nilsl, .bool false, .bool false, .bool false, .nilsl, .int .i64 0, .bool false, .nilsl], [.sl 3 (List.map T_api_Element.cells r3.f_l) .none, .bool r3.f_failed]], []⟩ ?_ ?_
 ·refine kC 1 ⟨[], 3, [], 0⟩ (go_wire_sequence_ok hr3) ?_
  exact kE ⟨[0, 1, 3], 4, [], 0⟩
 refine b_seq ?_
 obtain ⟨r4, hr4, h⟩ := bindE h
 refine reg ⟨56, [(0, .str a0), (2, .func (.func 14) [] []), (6, .ptr 0 0), (8, .ptr 1 0), (12, .ptr 2 0), (13, .ptr 3 0)]⟩ ⟨[[.int .i64 0, .str ([] : List UInt8), .int .i64 0, .nilsl, .bool false, .bool false, .bool false, .nilsl, .int .i64 0, .bool false, .nilsl], [.int .i64 0, .str ([] : List UInt8), .int .i64 0, .nilsl, .bool false, .bool false, .bool false, .nilsl, .int .i64 0, .bool false, .nilsl], [.sl 3 (List.map T_api_Element.cells r4.2.f_l) .none, .bool r4.2.f_failed], [.int .i64 r4.1.f_Time, .str r4.1.f_Purpose, .int .i64 r4.1.f_Usage, .sl 1 (List.map cS r4.1.f_Policies) .none, .bool r4.1.f_Explicit, .bool r4.1.f_NoMapping, .bool r4.1.f_NoAny, .sl 3 (List.map T_api_GeneralName.cells r4.1.f_Names) .none, .int .i64 r4.1.f_MaxLength, .bool r4.1.f_Status, .sl 4 (List.map T_api_Anchor.cells r4.1.f_Issuers) .none]], []⟩ ?_ ?_
 ·refine kC 2 ⟨[2], 3, [], 0⟩ (go_wire_reader_query_ok hr4) ?_
  exact kE ⟨[0, 1, 2, 3], 4, [], 0⟩
 refine b_seq ?_
 refine b_seq ?_
 refine reg ⟨56, [(0, .str a0), (2, .func (.func 14) [] []), (6, .ptr 0 0), (8, .ptr 1 0), (13, .ptr 2 0), (39, .bool r4.2.f_failed)]⟩ ⟨[[.int .i64 0, .str ([] : List UInt8), .int .i64 0, .nilsl, .bool false, .bool false, .bool false, .nilsl, .int .i64 0, .bool false, .nilsl], [.int .i64 0, .str ([] : List UInt8), .int .i64 0, .nilsl, .bool false, .bool false, .bool false, .nilsl, .int .i64 0, .bool false, .nilsl], [.int .i64 r4.1.f_Time, .str r4.1.f_Purpose, .int .i64 r4.1.f_Usage, .sl 1 (List.map cS r4.1.f_Policies) .none, .bool r4.1.f_Explicit, .bool r4.1.f_NoMapping, .bool r4.1.f_NoAny, .sl 3 (List.map T_api_GeneralName.cells r4.1.f_Names) .none, .int .i64 r4.1.f_MaxLength, .bool r4.1.f_Status, .sl 4 (List.map T_api_Anchor.cells r4.1.f_Issuers) .none]], []⟩ ?_ ?_
 ·exact kE ⟨[0, 1, 3], 4, [], 0⟩
 refine bif_ (r4.2.f_failed) (fun hb => ?_) (fun hb => ?_)
 ·replace h := ite_t hb h
  refine b_seq ?_
  refine reg ⟨56, [(6, .ptr 0 0), (7, .int .i64 7)]⟩ ⟨[[.int .i64 0, .str ([] : List UInt8), .int .i64 0, .nilsl, .bool false, .bool false, .bool false, .nilsl, .int .i64 0, .bool false, .nilsl]], []⟩ ?_ ?_
  ·exact kE ⟨[0], 3, [], 0⟩
  refine b_ret ?_
  obtain rfl := Option.some.inj h
  exact rtn ⟨[], 1, [], 0⟩ (.inr rfl)
 replace h := ite_f hb h
 refine b_skip ?_
 refine b_seq ?_
 refine b_seq ?_
 obtain ⟨r5, hr5, h⟩ := bindE h
 refine reg ⟨56, [(0, .str a0), (6, .ptr 0 0), (8, .ptr 1 0), (13, .ptr 2 0), (14, .str r5.1), (15, .int .i64 r5.2)]⟩ ⟨[[.int .i64 0, .str ([] : List UInt8), .int .i64 0, .nilsl, .bool false, .bool false, .bool false, .nilsl, .int .i64 0, .bool false, .nilsl], [.int .i64 0, .str ([] : List UInt8), .int .i64 0, .nilsl, .bool false, .bool false, .bool false, .nilsl, .int .i64 0, .bool false, .nilsl], [.int .i64 r4.1.f_Time, .str r4.1.f_Purpose, .int .i64 r4.1.f_Usage, .sl 1 (List.map cS r4.1.f_Policies) .none, .bool r4.1.f_Explicit, .bool r4.1.f_NoMapping, .bool r4.1.f_NoAny, .sl 3 (List.map T_api_GeneralName.cells r4.1.f_Names) .none, .int .i64 r4.1.f_MaxLength, .bool r4.1.f_Status, .sl 4 (List.map T_api_Anchor.cells r4.1.f_Issuers) .none]], []⟩ ?_ ?_
 ·refine kC 2 ⟨[], 3, [], 0⟩ (go_wire_EncodeQuery_ok hr5) ?_
  exact kE ⟨[0, 1, 2], 3, [], 0⟩
 refine b_seq ?_
 obtain ⟨y7, hE, h⟩ := bindE h
 refine reg ⟨56, [(6, .ptr 0 0), (8, .ptr 1 0), (13, .ptr 2 0), (53, .bool y7)]⟩ ⟨[[.int .i64 0, .str ([] : List UInt8), .int .i64 0, .nilsl, .bool false, .bool false, .bool false, .nilsl, .int .i64 0, .bool false, .nilsl], [.int .i64 0, .str ([] : List UInt8), .int .i64 0, .nilsl, .bool false, .bool false, .bool false, .nilsl, .int .i64 0, .bool false, .nilsl], [.int .i64 r4.1.f_Time, .str r4.1.f_Purpose, .int .i64 r4.1.f_Usage, .sl 1 (List.map cS r4.1.f_Policies) .none, .bool r4.1.f_Explicit, .bool r4.1.f_NoMapping, .bool r4.1.f_NoAny, .sl 3 (List.map T_api_GeneralName.cells r4.1.f_Names) .none, .int .i64 r4.1.f_MaxLength, .bool r4.1.f_Status, .sl 4 (List.map T_api_Anchor.cells r4.1.f_Issuers) .none]], []⟩ ?_ ?_
 ·replace h := hE
  refine kG 3 49 (r5.2 != 0) (fun hb => ?_) (fun hb => ?_)
  ·have h := ite_t hb h
   obtain rfl := Option.some.inj h
   exact kE ⟨[0, 1, 2], 3, [], 0⟩
  have h := ite_f hb h
  obtain rfl := Option.some.inj h
  exact kE ⟨[0, 1, 2], 3, [], 0⟩
 refine bif_ (y7) (fun hb => ?_) (fun hb => ?_)
 ·replace h := ite_t hb h
  refine b_seq ?_
  refine reg ⟨56, [(6, .ptr 0 0), (7, .int .i64 7)]⟩ ⟨[[.int .i64 0, .str ([] : List UInt8), .int .i64 0, .nilsl, .bool false, .bool false, .bool false, .nilsl, .int .i64 0, .bool false, .nilsl]], []⟩ ?_ ?_
  ·exact kE ⟨[0], 3, [], 0⟩
  refine b_ret ?_
  obtain rfl := Option.some.inj h
  exact rtn ⟨[], 1, [], 0⟩ (.inr rfl)
 replace h := ite_f hb h
 refine b_skip ?_
 refine b_seq ?_
 refine reg ⟨56, [(6, .ptr 0 0), (7, .int .i64 0)]⟩ ⟨[[.int .i64 r4.1.f_Time, .str r4.1.f_Purpose, .int .i64 r4.1.f_Usage, .sl 1 (List.map cS r4.1.f_Policies) .none, .bool r4.1.f_Explicit, .bool r4.1.f_NoMapping, .bool r4.1.f_NoAny, .sl 3 (List.map T_api_GeneralName.cells r4.1.f_Names) .none, .int .i64 r4.1.f_MaxLength, .bool r4.1.f_Status, .sl 4 (List.map T_api_Anchor.cells r4.1.f_Issuers) .none]], []⟩ ?_ ?_
 ·exact kE ⟨[0], 3, [], 0⟩
 refine b_ret ?_
 obtain rfl := Option.some.inj h
 exact rtn ⟨[], 1, [], 0⟩ (.inr rfl)
def go_wire_DecodeQuery (n : Nat) (a0 : (List UInt8)) : Option (T_api_Query × Int) :=
 (go_wire_decode_api_Query n a0).bind fun r1 =>
 some (r1.1, r1.2)
theorem go_wire_DecodeQuery_ok {n : Nat} {a0 : (List UInt8)} {r : (T_api_Query × Int)} (h : go_wire_DecodeQuery n a0 = some r) : ACalls Tryz.prog (gl0 mx) 18 [.str a0] ⟨[], []⟩ (Out (.tuple [.agg [.int .i64 r.1.f_Time, .str r.1.f_Purpose, .int .i64 r.1.f_Usage, .sl 1 (List.map cS r.1.f_Policies) .none, .bool r.1.f_Explicit, .bool r.1.f_NoMapping, .bool r.1.f_NoAny, .sl 3 (List.map T_api_GeneralName.cells r.1.f_Names) .none, .int .i64 r.1.f_MaxLength, .bool r.1.f_Status, .sl 4 (List.map T_api_Anchor.cells r.1.f_Issuers) .none], .int .i64 r.2]) ⟨[], []⟩) := by
 delta go_wire_DecodeQuery at h
 refine fnc Tryz.func18 rfl ?_
 refine b_seq ?_
 refine reg ⟨8, [(0, .str a0), (2, .ptr 0 0)]⟩ ⟨[[.int .i64 0, .str ([] : List UInt8), .int .i64 0, .nilsl, .bool false, .bool false, .bool false, .nilsl, .int .i64 0, .bool false, .nilsl]], []⟩ ?_ ?_
 ·exact kE ⟨[0], 1, [], 0⟩
 refine b_seq ?_
 obtain ⟨r1, hr1, h⟩ := bindE h
 refine reg ⟨8, [(2, .ptr 0 0), (3, .int .i64 r1.2)]⟩ ⟨[[.int .i64 r1.1.f_Time, .str r1.1.f_Purpose, .int .i64 r1.1.f_Usage, .sl 1 (List.map cS r1.1.f_Policies) .none, .bool r1.1.f_Explicit, .bool r1.1.f_NoMapping, .bool r1.1.f_NoAny, .sl 3 (List.map T_api_GeneralName.cells r1.1.f_Names) .none, .int .i64 r1.1.f_MaxLength, .bool r1.1.f_Status, .sl 4 (List.map T_api_Anchor.cells r1.1.f_Issuers) .none]], []⟩ ?_ ?_
 ·refine kC 1 ⟨[], 1, [], 0⟩ (go_wire_decode_api_Query_ok hr1) ?_
  exact kE ⟨[0], 1, [], 0⟩
 refine b_ret ?_
 obtain rfl := Option.some.inj h
 exact rtn ⟨[], 1, [], 0⟩ (.inr rfl)
def go_wire_EncodeAnchors_l1 (n : Nat) (a0 : (List T_api_Anchor)) : Nat → Int → Option (Ctl ((List UInt8) × Int) Unit)
 | 0, _ => none
 | k + 1, v29 =>
  if (decide (v29 < (List.length a0 : Int))) = true then ((lidx a0 v29).bind fun x39 =>
  (go_dname_Check n (T_api_Name.mk x39.f_Name.f_RDNs)).bind fun r40 =>
  if (r40 != 0) = true then (some (.ret (([] : List UInt8), r40))) else (if ((List.length x39.f_Name.f_RDNs : Int) == 0) = true then (some (.ret (([] : List UInt8), 14))) else ((go_keyinfo_Encode n (T_api_Key.mk x39.f_Key.f_Height x39.f_Key.f_ID x39.f_Key.f_Root)).bind fun r41 =>
  if (r41.2 != 0) = true then (some (.ret (([] : List UInt8), r41.2))) else (go_wire_EncodeAnchors_l1 n a0 k (IntKind.wrap .i64 (v29 + 1)))))) else (some (.nxt ()))
def go_wire_EncodeAnchors_l2 (n : Nat) (a0 : (List T_api_Anchor)) : Nat → Int → (List UInt8) → Int → Option ((List UInt8) × Int)
 | 0, _, _, _ => none
 | k + 1, v65, v66, v67 =>
  if (decide (v65 < (List.length a0 : Int))) = true then ((lidx a0 v65).bind fun x74 =>
  (go_wire_buffer_anchor n (T_api_Anchor.mk (T_api_Name.mk x74.f_Name.f_RDNs) (T_api_Key.mk x74.f_Key.f_Height x74.f_Key.f_ID x74.f_Key.f_Root)) (T_wire_buffer.mk v66 v67)).bind fun r75 =>
  go_wire_EncodeAnchors_l2 n a0 k (IntKind.wrap .i64 (v65 + 1)) r75.f_b r75.f_e) else (some (v66, v67))
def go_wire_EncodeAnchors (n : Nat) (a0 : (List T_api_Anchor)) : Option ((List UInt8) × Int) :=
 if (decide ((List.length a0 : Int) > 64)) = true then (some (([] : List UInt8), 2)) else (ctlB (go_wire_EncodeAnchors_l1 n a0 n 0) (fun r => some r) (fun y20 =>
 (go_wire_EncodeAnchors_l2 n a0 n 0 ([] : List UInt8) 0).bind fun y59 =>
 (go_wire_buffer_whole n (T_wire_buffer.mk y59.1 y59.2)).bind fun r76 =>
 some (r76.1, r76.2.1)))
theorem go_wire_EncodeAnchors_ok {n : Nat} {a0 : (List T_api_Anchor)} {r : ((List UInt8) × Int)} (h : go_wire_EncodeAnchors n a0 = some r) : ACalls Tryz.prog (gl0 mx) 35 [.sl 4 (List.map T_api_Anchor.cells a0) .none] ⟨[], []⟩ (Out (.tuple [.str r.1, .int .i64 r.2]) ⟨[], []⟩) := by
 delta go_wire_EncodeAnchors at h
 refine fnc Tryz.func35 rfl ?_
 refine b_seq ?_
 refine reg ⟨54, [(0, .sl 4 (List.map T_api_Anchor.cells a0) .none)]⟩ ⟨[], []⟩ ?_ ?_
 ·exact kE ⟨[], 0, [], 0⟩
 refine b_seq ?_
 refine b_seq ?_
 refine reg ⟨54, [(0, .sl 4 (List.map T_api_Anchor.cells a0) .none), (14, .bool (decide ((List.length a0 : Int) > 64)))]⟩ ⟨[], []⟩ ?_ ?_
 ·refine kP 1 (x_len (c := T_api_Anchor.cells) (l := a0) (e := 68) (sz := 4) (sz' := 4) (b := 64) (tok := .none)) ?_
  exact kE ⟨[], 0, [], 0⟩
 refine bif_ (decide ((List.length a0 : Int) > 64)) (fun hb => ?_) (fun hb => ?_)
 ·replace h := ite_t hb h
  refine b_seq ?_
  refine reg ⟨54, [(2, .str ([] : List UInt8)), (3, .int .i64 2)]⟩ ⟨[], []⟩ ?_ ?_
  ·exact kE ⟨[], 0, [], 0⟩
  refine b_ret ?_
  obtain rfl := Option.some.inj h
  exact rtn ⟨[], 0, [], 0⟩ (.inr rfl)
 replace h := ite_f hb h
 refine b_skip ?_
 refine b_seq ?_
 refine b_seq ?_
 refine reg ⟨54, [(0, .sl 4 (List.map T_api_Anchor.cells a0) .none), (15, .sl 4 (List.map T_api_Anchor.cells a0) .none), (16, .int .i64 (List.length a0 : Int)), (17, .int .i64 0)]⟩ ⟨[], []⟩ ?_ ?_
 ·refine kP 1 (x_len (c := T_api_Anchor.cells) (l := a0) (e := 68) (sz := 4) (sz' := 4) (b := 64) (tok := .none)) ?_
  exact kE ⟨[], 0, [], 0⟩
 obtain ⟨o21, hE, hr22, h⟩ := ctlE h
 refine b_blockE (Y := Unit) (fun _ => ⟨54, [(0, .sl 4 (List.map T_api_Anchor.cells a0) .none)]⟩) (fun _ => ⟨[], []⟩) (fun z => o21 = .nxt z) ?_ cl_cons (fun y20 hy => ?_)
 ·replace h := hE
  refine b_loop (X := Int) (fun x => ⟨54, [(0, .sl 4 (List.map T_api_Anchor.cells a0) .none), (15, .sl 4 (List.map T_api_Anchor.cells a0) .none), (16, .int .i64 (List.length a0 : Int)), (17, .int .i64 x)]⟩) (fun x => ⟨[], []⟩) (fun k x => go_wire_EncodeAnchors_l1 n a0 k x = some o21) (fun _ hx => by simp [go_wire_EncodeAnchors_l1] at hx) n 0 h (wk ⟨[], 0, [], 0⟩) (fun k x h => ?_)
  revert h; revert x; intro v29 h
  rw [go_wire_EncodeAnchors_l1] at h
  refine b_seq ?_
  refine reg ⟨54, [(0, .sl 4 (List.map T_api_Anchor.cells a0) .none), (15, .sl 4 (List.map T_api_Anchor.cells a0) .none), (16, .int .i64 (List.length a0 : Int)), (17, .int .i64 v29), (18, .bool (decide (v29 < (List.length a0 : Int))))]⟩ ⟨[], []⟩ ?_ ?_
  ·exact kE ⟨[], 0, [], 0⟩
  refine b_seq ?_
  refine bif_ (decide (v29 < (List.length a0 : Int))) (fun hb => ?_) (fun hb => ?_)
  ·replace h := ite_t hb h
   refine b_skip ?_
   refine b_seq ?_
   refine b_block ?_
   refine b_seq ?_
   obtain ⟨x39, hx39, h⟩ := bindE h
   refine reg ⟨54, [(0, .sl 4 (List.map T_api_Anchor.cells a0) .none), (5, .ptr 0 0), (15, .sl 4 (List.map T_api_Anchor.cells a0) .none), (16, .int .i64 (List.length a0 : Int)), (17, .int .i64 v29)]⟩ ⟨[[.sl 1 (List.map (cL 3 T_api_Attribute.cells) x39.f_Name.f_RDNs) .none, .int .i64 x39.f_Key.f_Height, .str x39.f_Key.f_ID, .str x39.f_Key.f_Root]], []⟩ ?_ ?_
   ·refine kP 0 (x_lidx (c := T_api_Anchor.cells) (e := 68) (sz := 4) (b := 64) (tok := .none) hx39) ?_
    exact kE ⟨[0], 1, [], 0⟩
   refine b_seq ?_
   refine b_seq ?_
   obtain ⟨r40, hr40, h⟩ := bindE h
   refine reg ⟨54, [(0, .sl 4 (List.map T_api_Anchor.cells a0) .none), (5, .ptr 0 0), (6, .int .i64 r40), (15, .sl 4 (List.map T_api_Anchor.cells a0) .none), (16, .int .i64 (List.length a0 : Int)), (17, .int .i64 v29)]⟩ ⟨[[.sl 1 (List.map (cL 3 T_api_Attribute.cells) x39.f_Name.f_RDNs) .none, .int .i64 x39.f_Key.f_Height, .str x39.f_Key.f_ID, .str x39.f_Key.f_Root]], []⟩ ?_ ?_
   ·refine kC 2 ⟨[], 1, [], 0⟩ (go_dname_Check_ok hr40) ?_
    exact kE ⟨[0], 1, [], 0⟩
   refine b_seq ?_
   refine reg ⟨54, [(0, .sl 4 (List.map T_api_Anchor.cells a0) .none), (5, .ptr 0 0), (6, .int .i64 r40), (15, .sl 4 (List.map T_api_Anchor.cells a0) .none), (16, .int .i64 (List.length a0 : Int)), (17, .int .i64 v29), (25, .bool (r40 != 0))]⟩ ⟨[[.sl 1 (List.map (cL 3 T_api_Attribute.cells) x39.f_Name.f_RDNs) .none, .int .i64 x39.f_Key.f_Height, .str x39.f_Key.f_ID, .str x39.f_Key.f_Root]], []⟩ ?_ ?_
   ·exact kE ⟨[0], 1, [], 0⟩
   refine bif_ (r40 != 0) (fun hb => ?_) (fun hb => ?_)
   ·replace h := ite_t hb h
    refine b_seq ?_
    refine reg ⟨54, [(2, .str ([] : List UInt8)), (3, .int .i64 r40)]⟩ ⟨[], []⟩ ?_ ?_
    ·exact kE ⟨[], 1, [], 0⟩
    refine b_ret ?_
    refine bk_ret ?_
    refine tk_ret ?_
    replace h := hr22 _ (Option.some.inj h).symm
    refine bl_ret ?_
    obtain rfl := Option.some.inj h
    exact rtn ⟨[], 0, [], 0⟩ (.inr rfl)
   replace h := ite_f hb h
   refine b_skip ?_
   refine b_seq ?_
   refine b_seq ?_
   refine reg ⟨54, [(0, .sl 4 (List.map T_api_Anchor.cells a0) .none), (5, .ptr 0 0), (15, .sl 4 (List.map T_api_Anchor.cells a0) .none), (16, .int .i64 (List.length a0 : Int)), (17, .int .i64 v29), (31, .bool ((List.length x39.f_Name.f_RDNs : Int) == 0))]⟩ ⟨[[.sl 1 (List.map (cL 3 T_api_Attribute.cells) x39.f_Name.f_RDNs) .none, .int .i64 x39.f_Key.f_Height, .str x39.f_Key.f_ID, .str x39.f_Key.f_Root]], []⟩ ?_ ?_
   ·refine kP 3 (x_len (c := (cL 3 T_api_Attribute.cells)) (l := x39.f_Name.f_RDNs) (e := 141) (sz := 1) (sz' := 1) (b := 24) (tok := .none)) ?_
    exact kE ⟨[0], 1, [], 0⟩
   refine bif_ ((List.length x39.f_Name.f_RDNs : Int) == 0) (fun hb => ?_) (fun hb => ?_)
   ·replace h := ite_t hb h
    refine b_seq ?_
    refine reg ⟨54, [(2, .str ([] : List UInt8)), (3, .int .i64 14)]⟩ ⟨[], []⟩ ?_ ?_
    ·exact kE ⟨[], 1, [], 0⟩
    refine b_ret ?_
    refine bk_ret ?_
    refine tk_ret ?_
    replace h := hr22 _ (Option.some.inj h).symm
    refine bl_ret ?_
    obtain rfl := Option.some.inj h
    exact rtn ⟨[], 0, [], 0⟩ (.inr rfl)
   replace h := ite_f hb h
   refine b_skip ?_
   refine b_seq ?_
   obtain ⟨r41, hr41, h⟩ := bindE h
   refine reg ⟨54, [(0, .sl 4 (List.map T_api_Anchor.cells a0) .none), (8, .int .i64 r41.2), (15, .sl 4 (List.map T_api_Anchor.cells a0) .none), (16, .int .i64 (List.length a0 : Int)), (17, .int .i64 v29)]⟩ ⟨[], []⟩ ?_ ?_
   ·refine kC 2 ⟨[], 1, [], 0⟩ (go_keyinfo_Encode_ok hr41) ?_
    exact kE ⟨[], 1, [], 0⟩
   refine b_seq ?_
   refine reg ⟨54, [(0, .sl 4 (List.map T_api_Anchor.cells a0) .none), (8, .int .i64 r41.2), (15, .sl 4 (List.map T_api_Anchor.cells a0) .none), (16, .int .i64 (List.length a0 : Int)), (17, .int .i64 v29), (39, .bool (r41.2 != 0))]⟩ ⟨[], []⟩ ?_ ?_
   ·exact kE ⟨[], 0, [], 0⟩
   refine bif_ (r41.2 != 0) (fun hb => ?_) (fun hb => ?_)
   ·replace h := ite_t hb h
    refine b_seq ?_
    refine reg ⟨54, [(2, .str ([] : List UInt8)), (3, .int .i64 r41.2)]⟩ ⟨[], []⟩ ?_ ?_
    ·exact kE ⟨[], 0, [], 0⟩
    refine b_ret ?_
    refine bk_ret ?_
    refine tk_ret ?_
    replace h := hr22 _ (Option.some.inj h).symm
    refine bl_ret ?_
    obtain rfl := Option.some.inj h
    exact rtn ⟨[], 0, [], 0⟩ (.inr rfl)
   replace h := ite_f hb h
   refine b_skip ?_
   refine bk_norm ?_
   refine regN ⟨54, [(0, .sl 4 (List.map T_api_Anchor.cells a0) .none), (15, .sl 4 (List.map T_api_Anchor.cells a0) .none), (16, .int .i64 (List.length a0 : Int)), (17, .int .i64 (IntKind.wrap .i64 (v29 + 1)))]⟩ ⟨[], []⟩ cl_loopT ?_ ?_
   ·exact kE ⟨[], 0, [], 0⟩
   exact ⟨IntKind.wrap .i64 (v29 + 1), h, wk ⟨[], 0, [], 0⟩⟩
  replace h := ite_f hb h
  refine b_exit ?_
  refine tk_exit ?_
  refine bl_exit ?_
  exact ⟨(), (Option.some.inj h).symm, wk ⟨[], 0, [], 0⟩⟩
 replace h := h _ hy
 refine b_seq ?_
 refine reg ⟨54, [(0, .sl 4 (List.map T_api_Anchor.cells a0) .none), (9, .ptr 0 0)]⟩ ⟨[[.str ([] : List UInt8), .int .i64 0]], []⟩ ?_ ?_
 ·exact kE ⟨[0], 1, [], 0⟩
 refine b_seq ?_
 refine b_seq ?_
 refine reg ⟨54, [(9, .ptr 0 0), (42, .sl 4 (List.map T_api_Anchor.cells a0) .none), (43, .int .i64 (List.length a0 : Int)), (44, .int .i64 0)]⟩ ⟨[[.str ([] : List UInt8), .int .i64 0]], []⟩ ?_ ?_
 ·refine kP 1 (x_len (c := T_api_Anchor.cells) (l := a0) (e := 68) (sz := 4) (sz' := 4) (b := 64) (tok := .none)) ?_
  exact kE ⟨[0], 1, [], 0⟩
 obtain ⟨y59, hE, h⟩ := bindE h
 refine b_blockE (Y := ((List UInt8) × Int)) (fun y59 => ⟨54, [(9, .ptr 0 0)]⟩) (fun y59 => ⟨[[.str y59.1, .int .i64 y59.2]], []⟩) (fun z => y59 = z) ?_ cl_cons (fun z hz => ?_)
 ·replace h := hE
  refine b_loop (X := (Int × (List UInt8) × Int)) (fun x => ⟨54, [(9, .ptr 0 0), (42, .sl 4 (List.map T_api_Anchor.cells a0) .none), (43, .int .i64 (List.length a0 : Int)), (44, .int .i64 x.1)]⟩) (fun x => ⟨[[.str x.2.1, .int .i64 x.2.2]], []⟩) (fun k x => go_wire_EncodeAnchors_l2 n a0 k x.1 x.2.1 x.2.2 = some y59) (fun _ hx => by simp [go_wire_EncodeAnchors_l2] at hx) n (0, ([] : List UInt8), 0) h (wk ⟨[0], 1, [], 0⟩) (fun k x h => ?_)
  obtain ⟨v65, v66, v67⟩ := x
  rw [go_wire_EncodeAnchors_l2] at h
  refine b_seq ?_
  refine reg ⟨54, [(9, .ptr 0 0), (42, .sl 4 (List.map T_api_Anchor.cells a0) .none), (43, .int .i64 (List.length a0 : Int)), (44, .int .i64 v65), (45, .bool (decide (v65 < (List.length a0 : Int))))]⟩ ⟨[[.str v66, .int .i64 v67]], []⟩ ?_ ?_
  ·exact kE ⟨[0], 1, [], 0⟩
  refine b_seq ?_
  refine bif_ (decide (v65 < (List.length a0 : Int))) (fun hb => ?_) (fun hb => ?_)
  ·replace h := ite_t hb h
   refine b_skip ?_
   refine b_seq ?_
   refine b_block ?_
   refine b_seq ?_
   obtain ⟨x74, hx74, h⟩ := bindE h
   refine reg ⟨54, [(9, .ptr 0 0), (11, .ptr 1 0), (42, .sl 4 (List.map T_api_Anchor.cells a0) .none), (43, .int .i64 (List.length a0 : Int)), (44, .int .i64 v65)]⟩ ⟨[[.str v66, .int .i64 v67], [.sl 1 (List.map (cL 3 T_api_Attribute.cells) x74.f_Name.f_RDNs) .none, .int .i64 x74.f_Key.f_Height, .str x74.f_Key.f_ID, .str x74.f_Key.f_Root]], []⟩ ?_ ?_
   ·refine kP 0 (x_lidx (c := T_api_Anchor.cells) (e := 68) (sz := 4) (b := 64) (tok := .none) hx74) ?_
    exact kE ⟨[0, 1], 2, [], 0⟩
   obtain ⟨r75, hr75, h⟩ := bindE h
   refine regN ⟨54, [(9, .ptr 0 0), (42, .sl 4 (List.map T_api_Anchor.cells a0) .none), (43, .int .i64 (List.length a0 : Int)), (44, .int .i64 v65)]⟩ ⟨[[.str r75.f_b, .int .i64 r75.f_e]], []⟩ cl_cons ?_ ?_
   ·refine kC 1 ⟨[0], 2, [], 0⟩ (go_wire_buffer_anchor_ok hr75) ?_
    exact kE ⟨[0], 2, [], 0⟩
   refine bk_norm ?_
   refine regN ⟨54, [(9, .ptr 0 0), (42, .sl 4 (List.map T_api_Anchor.cells a0) .none), (43, .int .i64 (List.length a0 : Int)), (44, .int .i64 (IntKind.wrap .i64 (v65 + 1)))]⟩ ⟨[[.str r75.f_b, .int .i64 r75.f_e]], []⟩ cl_loopT ?_ ?_
   ·exact kE ⟨[0], 1, [], 0⟩
   exact ⟨(IntKind.wrap .i64 (v65 + 1), r75.f_b, r75.f_e), h, wk ⟨[0], 1, [], 0⟩⟩
  replace h := ite_f hb h
  refine b_exit ?_
  refine tk_exit ?_
  refine bl_exit ?_
  exact ⟨(v66, v67), (Option.some.inj h).symm, wk ⟨[0], 1, [], 0⟩⟩
 subst hz
 refine b_seq ?_
 obtain ⟨r76, hr76, h⟩ := bindE h
 refine reg ⟨54, [(2, .str r76.1), (3, .int .i64 r76.2.1)]⟩ ⟨[], []⟩ ?_ ?_
 ·refine kC 0 ⟨[0], 1, [], 0⟩ (go_wire_buffer_whole_ok hr76) ?_
  exact kE ⟨[], 1, [], 0⟩
 refine b_ret ?_
 obtain rfl := Option.some.inj h
 exact rtn ⟨[], 0, [], 0⟩ (.inr rfl)
def go_wire_EncodeFound_1 (n : Nat) (a0 : Int) : Option Bool :=
 (if (decide (a0 ≥ 0)) = true then (some (decide (a0 < 64))) else (some false)).bind fun y2 =>
 some y2
theorem go_wire_EncodeFound_1_ok {n : Nat} {a0 : Int} {r : Bool} (h : go_wire_EncodeFound_1 n a0 = some r) : ACalls Tryz.prog (gl0 mx) 87 [.int .i64 a0] ⟨[], []⟩ (Out (.bool r) ⟨[], []⟩) := by
 delta go_wire_EncodeFound_1 at h
 refine fnc Tryz.func87 rfl ?_
 refine b_seq ?_
 refine reg ⟨9, [(0, .int .i64 a0)]⟩ ⟨[], []⟩ ?_ ?_
 ·exact kE ⟨[], 0, [], 0⟩
 refine b_seq ?_
 obtain ⟨y2, hE, h⟩ := bindE h
 refine reg ⟨9, [(2, .bool y2)]⟩ ⟨[], []⟩ ?_ ?_
 ·replace h := hE
  refine kG 3 5 (decide (a0 ≥ 0)) (fun hb => ?_) (fun hb => ?_)
  ·have h := ite_t hb h
   obtain rfl := Option.some.inj h
   exact kE ⟨[], 0, [], 0⟩
  have h := ite_f hb h
  obtain rfl := Option.some.inj h
  exact kE ⟨[], 0, [], 0⟩
 refine b_ret ?_
 obtain rfl := Option.some.inj h
 exact rtn ⟨[], 0, [], 0⟩ (.inr rfl)
def go_wire_numbers (n : Nat) (m0 : T_wire_buffer) : Option T_wire_buffer :=
 some m0
theorem go_wire_numbers_ok {n : Nat} {m0 : T_wire_buffer} {r : T_wire_buffer} (h : go_wire_numbers n m0 = some r) : ACalls Tryz.prog (gl0 mx) 90 [.ptr 0 0] ⟨[[.str m0.f_b, .int .i64 m0.f_e]], []⟩ (Out (.func (.func 52) [.ptr 0 0] []) ⟨[[.str r.f_b, .int .i64 r.f_e]], []⟩) := by
 delta go_wire_numbers at h
 refine fnc Tryz.func90 rfl ?_
 refine b_seq ?_
 refine reg ⟨5, [(0, .ptr 0 0)]⟩ ⟨[[.str m0.f_b, .int .i64 m0.f_e]], []⟩ ?_ ?_
 ·exact kE ⟨[0], 1, [], 0⟩
 refine b_seq ?_
 refine reg ⟨5, [(2, .func (.func 52) [.ptr 0 0] [])]⟩ ⟨[[.str m0.f_b, .int .i64 m0.f_e]], []⟩ ?_ ?_
 ·exact kE ⟨[0], 1, [], 0⟩
 refine b_ret ?_
 obtain rfl := Option.some.inj h
 exact rtn ⟨[0], 1, [], 0⟩ (.inr rfl)
def go_wire_list_int_l1 (n : Nat) (a2 : (List Int)) : Nat → Int → (List UInt8) → Int → Option ((List UInt8) × Int)
 | 0, _, _, _ => none
 | k + 1, v25, v26, v27 =>
  if (decide (v25 < (List.length a2 : Int))) = true then ((lidx a2 v25).bind fun x34 =>
  (go_wire_buffer_number n x34 (T_wire_buffer.mk v26 v27)).bind fun r35 =>
  go_wire_list_int_l1 n a2 k (IntKind.wrap .i64 (v25 + 1)) r35.f_b r35.f_e) else (some (v26, v27))
def go_wire_list_int (n : Nat) (a1 : Int) (a2 : (List Int)) (m0 : T_wire_buffer) : Option T_wire_buffer :=
 (go_wire_numbers n (T_wire_buffer.mk ([] : List UInt8) 0)).bind fun r1 =>
 (go_wire_list_int_l1 n a2 n 0 r1.f_b r1.f_e).bind fun y19 =>
 (go_wire_buffer_add n ([] : List UInt8) y19.2 m0).bind fun r36 =>
 (go_wire_buffer_element n a1 y19.1 r36).bind fun r37 =>
 some r37
theorem go_wire_list_int_ok {n : Nat} {a1 : Int} {a2 : (List Int)} {m0 : T_wire_buffer} {r : T_wire_buffer} (h : go_wire_list_int n a1 a2 m0 = some r) : ACalls Tryz.prog (gl0 mx) 89 [.ptr 0 0, .int .i64 a1, .sl 1 (List.map (cI .i64) a2) .none, .func (.func 90) [] []] ⟨[[.str m0.f_b, .int .i64 m0.f_e]], []⟩ (Out (.tuple []) ⟨[[.str r.f_b, .int .i64 r.f_e]], []⟩) := by
 delta go_wire_list_int at h
 refine fnc Tryz.func89 rfl ?_
 refine b_seq ?_
 refine reg ⟨33, [(0, .ptr 0 0), (1, .int .i64 a1), (2, .sl 1 (List.map (cI .i64) a2) .none), (3, .func (.func 90) [] []), (8, .ptr 1 0)]⟩ ⟨[[.str m0.f_b, .int .i64 m0.f_e], [.str ([] : List UInt8), .int .i64 0]], []⟩ ?_ ?_
 ·exact kE ⟨[0, 1], 2, [], 0⟩
 refine b_seq ?_
 obtain ⟨r1, hr1, h⟩ := bindE h
 refine reg ⟨33, [(0, .ptr 0 0), (1, .int .i64 a1), (2, .sl 1 (List.map (cI .i64) a2) .none), (8, .ptr 1 0), (9, .func (.func 52) [.ptr 1 0] [])]⟩ ⟨[[.str m0.f_b, .int .i64 m0.f_e], [.str r1.f_b, .int .i64 r1.f_e]], []⟩ ?_ ?_
 ·refine kC 1 ⟨[1], 2, [], 0⟩ (go_wire_numbers_ok hr1) ?_
  exact kE ⟨[0, 1], 2, [], 0⟩
 refine b_seq ?_
 refine b_seq ?_
 refine reg ⟨33, [(0, .ptr 0 0), (1, .int .i64 a1), (8, .ptr 1 0), (9, .func (.func 52) [.ptr 1 0] []), (14, .sl 1 (List.map (cI .i64) a2) .none), (15, .int .i64 (List.length a2 : Int)), (16, .int .i64 0)]⟩ ⟨[[.str m0.f_b, .int .i64 m0.f_e], [.str r1.f_b, .int .i64 r1.f_e]], []⟩ ?_ ?_
 ·refine kP 1 (x_len (c := (cI .i64)) (l := a2) (e := 3) (sz := 1) (sz' := 1) (b := 8) (tok := .none)) ?_
  exact kE ⟨[0, 1], 2, [], 0⟩
 obtain ⟨y19, hE, h⟩ := bindE h
 refine b_blockE (Y := ((List UInt8) × Int)) (fun y19 => ⟨33, [(0, .ptr 0 0), (1, .int .i64 a1), (8, .ptr 1 0)]⟩) (fun y19 => ⟨[[.str m0.f_b, .int .i64 m0.f_e], [.str y19.1, .int .i64 y19.2]], []⟩) (fun z => y19 = z) ?_ cl_cons (fun z hz => ?_)
 ·replace h := hE
  refine b_loop (X := (Int × (List UInt8) × Int)) (fun x => ⟨33, [(0, .ptr 0 0), (1, .int .i64 a1), (8, .ptr 1 0), (9, .func (.func 52) [.ptr 1 0] []), (14, .sl 1 (List.map (cI .i64) a2) .none), (15, .int .i64 (List.length a2 : Int)), (16, .int .i64 x.1)]⟩) (fun x => ⟨[[.str m0.f_b, .int .i64 m0.f_e], [.str x.2.1, .int .i64 x.2.2]], []⟩) (fun k x => go_wire_list_int_l1 n a2 k x.1 x.2.1 x.2.2 = some y19) (fun _ hx => by simp [go_wire_list_int_l1] at hx) n (0, r1.f_b, r1.f_e) h (wk ⟨[0, 1], 2, [], 0⟩) (fun k x h => ?_)
  obtain ⟨v25, v26, v27⟩ := x
  rw [go_wire_list_int_l1] at h
  refine b_seq ?_
  refine reg ⟨33, [(0, .ptr 0 0), (1, .int .i64 a1), (8, .ptr 1 0), (9, .func (.func 52) [.ptr 1 0] []), (14, .sl 1 (List.map (cI .i64) a2) .none), (15, .int .i64 (List.length a2 : Int)), (16, .int .i64 v25), (17, .bool (decide (v25 < (List.length a2 : Int))))]⟩ ⟨[[.str m0.f_b, .int .i64 m0.f_e], [.str v26, .int .i64 v27]], []⟩ ?_ ?_
  ·exact kE ⟨[0, 1], 2, [], 0⟩
  refine b_seq ?_
  refine bif_ (decide (v25 < (List.length a2 : Int))) (fun hb => ?_) (fun hb => ?_)
  ·replace h := ite_t hb h
   refine b_skip ?_
   refine b_seq ?_
   refine b_block ?_
   refine b_seq ?_
   obtain ⟨x34, hx34, h⟩ := bindE h
   refine reg ⟨33, [(0, .ptr 0 0), (1, .int .i64 a1), (8, .ptr 1 0), (9, .func (.func 52) [.ptr 1 0] []), (11, .int .i64 x34), (14, .sl 1 (List.map (cI .i64) a2) .none), (15, .int .i64 (List.length a2 : Int)), (16, .int .i64 v25)]⟩ ⟨[[.str m0.f_b, .int .i64 m0.f_e], [.str v26, .int .i64 v27]], []⟩ ?_ ?_
   ·refine kP 0 (x_lidx (c := (cI .i64)) (e := 3) (sz := 1) (b := 8) (tok := .none) hx34) ?_
    exact kE ⟨[0, 1], 2, [], 0⟩
   obtain ⟨r35, hr35, h⟩ := bindE h
   refine regN ⟨33, [(0, .ptr 0 0), (1, .int .i64 a1), (8, .ptr 1 0), (9, .func (.func 52) [.ptr 1 0] []), (14, .sl 1 (List.map (cI .i64) a2) .none), (15, .int .i64 (List.length a2 : Int)), (16, .int .i64 v25)]⟩ ⟨[[.str m0.f_b, .int .i64 m0.f_e], [.str r35.f_b, .int .i64 r35.f_e]], []⟩ cl_cons ?_ ?_
   ·refine kC 2 ⟨[1], 2, [], 0⟩ (go_wire_buffer_number_ok hr35) ?_
    exact kE ⟨[0, 1], 2, [], 0⟩
   refine bk_norm ?_
   refine regN ⟨33, [(0, .ptr 0 0), (1, .int .i64 a1), (8, .ptr 1 0), (9, .func (.func 52) [.ptr 1 0] []), (14, .sl 1 (List.map (cI .i64) a2) .none), (15, .int .i64 (List.length a2 : Int)), (16, .int .i64 (IntKind.wrap .i64 (v25 + 1)))]⟩ ⟨[[.str m0.f_b, .int .i64 m0.f_e], [.str r35.f_b, .int .i64 r35.f_e]], []⟩ cl_loopT ?_ ?_
   ·exact kE ⟨[0, 1], 2, [], 0⟩
   exact ⟨(IntKind.wrap .i64 (v25 + 1), r35.f_b, r35.f_e), h, wk ⟨[0, 1], 2, [], 0⟩⟩
  replace h := ite_f hb h
  refine b_exit ?_
  refine tk_exit ?_
  refine bl_exit ?_
  exact ⟨(v26, v27), (Option.some.inj h).symm, wk ⟨[0, 1], 2, [], 0⟩⟩
 subst hz
 refine b_seq ?_
 obtain ⟨r36, hr36, h⟩ := bindE h
 refine reg ⟨33, [(0, .ptr 0 0), (1, .int .i64 a1), (8, .ptr 1 0)]⟩ ⟨[[.str r36.f_b, .int .i64 r36.f_e], [.str y19.1, .int .i64 y19.2]], []⟩ ?_ ?_
 ·refine kC 3 ⟨[0], 2, [], 0⟩ (go_wire_buffer_add_ok hr36) ?_
  exact kE ⟨[0, 1], 2, [], 0⟩
 obtain ⟨r37, hr37, h⟩ := bindE h
 refine regN ⟨33, []⟩ ⟨[[.str r37.f_b, .int .i64 r37.f_e]], []⟩ cl_body ?_ ?_
 ·refine kC 4 ⟨[0], 2, [], 0⟩ (go_wire_buffer_element_ok hr37) ?_
  exact kE ⟨[0], 2, [], 0⟩
 obtain rfl := Option.some.inj h
 exact rtn ⟨[0], 1, [], 0⟩ (.inl rfl)
def go_wire_EncodeFound_l1 (n : Nat) (a0 : T_api_Found) : Nat → Bool → Int → Option Bool
 | 0, _, _ => none
 | k + 1, v39, v40 =>
  if (decide (v40 < (List.length a0.f_Path : Int))) = true then ((lidx a0.f_Path v40).bind fun x53 =>
  (if v39 = true then ((go_wire_EncodeFound_1 n x53).bind fun r54 =>
  some r54) else (some false)).bind fun y56 =>
  go_wire_EncodeFound_l1 n a0 k y56 (IntKind.wrap .i64 (v40 + 1))) else (some v39)
def go_wire_EncodeFound_l2 (n : Nat) (a0 : T_api_Found) : Nat → Int → Option (Ctl ((List UInt8) × Int) Unit)
 | 0, _ => none
 | k + 1, v81 =>
  if (decide (v81 < (List.length a0.f_Result.f_Policies : Int))) = true then ((lidx a0.f_Result.f_Policies v81).bind fun x88 =>
  (go_oid_Valid n x88).bind fun r89 =>
  if (!r89) = true then (some (.ret (([] : List UInt8), 11))) else (go_wire_EncodeFound_l2 n a0 k (IntKind.wrap .i64 (v81 + 1)))) else (some (.nxt ()))
def go_wire_EncodeFound (n : Nat) (a0 : T_api_Found) : Option ((List UInt8) × Int) :=
 (go_wire_EncodeFound_1 n a0.f_Anchor).bind fun r1 =>
 (go_wire_EncodeFound_l1 n a0 n r1 0).bind fun y29 =>
 (if (!y29) = true then (some true) else (if (decide (a0.f_Result.f_Check < 0)) = true then (some true) else (if (decide (a0.f_Result.f_Check > 15)) = true then (some true) else (if (decide (a0.f_Result.f_Position < 0)) = true then (some true) else (some (decide (a0.f_Result.f_Position > 8))))))).bind fun y60 =>
 if y60 = true then (some (([] : List UInt8), 1)) else (if (decide ((List.length a0.f_Path : Int) > 8)) = true then (some (([] : List UInt8), 2)) else (ctlB (go_wire_EncodeFound_l2 n a0 n 0) (fun r => some r) (fun y74 =>
 (go_wire_buffer_number n a0.f_Anchor (T_wire_buffer.mk ([] : List UInt8) 0)).bind fun r90 =>
 (go_wire_list_int n 48 a0.f_Path r90).bind fun r91 =>
 (go_wire_buffer_integer n 10 a0.f_Result.f_Check r91).bind fun r92 =>
 (go_wire_buffer_number n a0.f_Result.f_Position r92).bind fun r93 =>
 (go_wire_list_string n 48 a0.f_Result.f_Policies r93).bind fun r94 =>
 (go_wire_buffer_whole n r94).bind fun r95 =>
 some (r95.1, r95.2.1))))
theorem go_wire_EncodeFound_ok {n : Nat} {a0 : T_api_Found} {r : ((List UInt8) × Int)} (h : go_wire_EncodeFound n a0 = some r) : ACalls Tryz.prog (gl0 mx) 23 [.agg [.int .i64 a0.f_Anchor, .sl 1 (List.map (cI .i64) a0.f_Path) .none, .int .i64 a0.f_Result.f_Check, .int .i64 a0.f_Result.f_Position, .sl 1 (List.map cS a0.f_Result.f_Policies) .none]] ⟨[], []⟩ (Out (.tuple [.str r.1, .int .i64 r.2]) ⟨[], []⟩) := by
 delta go_wire_EncodeFound at h
 refine fnc Tryz.func23 rfl ?_
 refine b_seq ?_
 refine reg ⟨93, [(1, .ptr 0 0)]⟩ ⟨[[.int .i64 a0.f_Anchor, .sl 1 (List.map (cI .i64) a0.f_Path) .none, .int .i64 a0.f_Result.f_Check, .int .i64 a0.f_Result.f_Position, .sl 1 (List.map cS a0.f_Result.f_Policies) .none]], []⟩ ?_ ?_
 ·exact kE ⟨[0], 1, [], 0⟩
 refine b_seq ?_
 refine reg ⟨93, [(1, .ptr 0 0), (4, .func (.func 87) [] [])]⟩ ⟨[[.int .i64 a0.f_Anchor, .sl 1 (List.map (cI .i64) a0.f_Path) .none, .int .i64 a0.f_Result.f_Check, .int .i64 a0.f_Result.f_Position, .sl 1 (List.map cS a0.f_Result.f_Policies) .none]], []⟩ ?_ ?_
 ·exact kE ⟨[0], 1, [], 0⟩
 refine b_seq ?_
 obtain ⟨r1, hr1, h⟩ := bindE h
 refine reg ⟨93, [(1, .ptr 0 0), (4, .func (.func 87) [] []), (5, .bool r1)]⟩ ⟨[[.int .i64 a0.f_Anchor, .sl 1 (List.map (cI .i64) a0.f_Path) .none, .int .i64 a0.f_Result.f_Check, .int .i64 a0.f_Result.f_Position, .sl 1 (List.map cS a0.f_Result.f_Policies) .none]], []⟩ ?_ ?_
 ·refine kC 3 ⟨[], 1, [], 0⟩ (go_wire_EncodeFound_1_ok hr1) ?_
  exact kE ⟨[0], 1, [], 0⟩
 refine b_seq ?_
 refine b_seq ?_
 refine reg ⟨93, [(1, .ptr 0 0), (4, .func (.func 87) [] []), (5, .bool r1), (17, .sl 1 (List.map (cI .i64) a0.f_Path) .none), (18, .int .i64 (List.length a0.f_Path : Int)), (19, .int .i64 0)]⟩ ⟨[[.int .i64 a0.f_Anchor, .sl 1 (List.map (cI .i64) a0.f_Path) .none, .int .i64 a0.f_Result.f_Check, .int .i64 a0.f_Result.f_Position, .sl 1 (List.map cS a0.f_Result.f_Policies) .none]], []⟩ ?_ ?_
 ·refine kP 2 (x_len (c := (cI .i64)) (l := a0.f_Path) (e := 3) (sz := 1) (sz' := 1) (b := 8) (tok := .none)) ?_
  exact kE ⟨[0], 1, [], 0⟩
 obtain ⟨y29, hE, h⟩ := bindE h
 refine b_blockE (Y := Bool) (fun y29 => ⟨93, [(1, .ptr 0 0), (5, .bool y29)]⟩) (fun y29 => ⟨[[.int .i64 a0.f_Anchor, .sl 1 (List.map (cI .i64) a0.f_Path) .none, .int .i64 a0.f_Result.f_Check, .int .i64 a0.f_Result.f_Position, .sl 1 (List.map cS a0.f_Result.f_Policies) .none]], []⟩) (fun z => y29 = z) ?_ cl_cons (fun z hz => ?_)
 ·replace h := hE
  refine b_loop (X := (Bool × Int)) (fun x => ⟨93, [(1, .ptr 0 0), (4, .func (.func 87) [] []), (5, .bool x.1), (17, .sl 1 (List.map (cI .i64) a0.f_Path) .none), (18, .int .i64 (List.length a0.f_Path : Int)), (19, .int .i64 x.2)]⟩) (fun x => ⟨[[.int .i64 a0.f_Anchor, .sl 1 (List.map (cI .i64) a0.f_Path) .none, .int .i64 a0.f_Result.f_Check, .int .i64 a0.f_Result.f_Position, .sl 1 (List.map cS a0.f_Result.f_Policies) .none]], []⟩) (fun k x => go_wire_EncodeFound_l1 n a0 k x.1 x.2 = some y29) (fun _ hx => by simp [go_wire_EncodeFound_l1] at hx) n (r1, 0) h (wk ⟨[0], 1, [], 0⟩) (fun k x h => ?_)
  obtain ⟨v39, v40⟩ := x
  rw [go_wire_EncodeFound_l1] at h
  refine b_seq ?_
  refine reg ⟨93, [(1, .ptr 0 0), (4, .func (.func 87) [] []), (5, .bool v39), (17, .sl 1 (List.map (cI .i64) a0.f_Path) .none), (18, .int .i64 (List.length a0.f_Path : Int)), (19, .int .i64 v40), (20, .bool (decide (v40 < (List.length a0.f_Path : Int))))]⟩ ⟨[[.int .i64 a0.f_Anchor, .sl 1 (List.map (cI .i64) a0.f_Path) .none, .int .i64 a0.f_Result.f_Check, .int .i64 a0.f_Result.f_Position, .sl 1 (List.map cS a0.f_Result.f_Policies) .none]], []⟩ ?_ ?_
  ·exact kE ⟨[0], 1, [], 0⟩
  refine b_seq ?_
  refine bif_ (decide (v40 < (List.length a0.f_Path : Int))) (fun hb => ?_) (fun hb => ?_)
  ·replace h := ite_t hb h
   refine b_skip ?_
   refine b_seq ?_
   refine b_block ?_
   refine b_seq ?_
   obtain ⟨x53, hx53, h⟩ := bindE h
   refine reg ⟨93, [(1, .ptr 0 0), (4, .func (.func 87) [] []), (5, .bool v39), (7, .int .i64 x53), (17, .sl 1 (List.map (cI .i64) a0.f_Path) .none), (18, .int .i64 (List.length a0.f_Path : Int)), (19, .int .i64 v40)]⟩ ⟨[[.int .i64 a0.f_Anchor, .sl 1 (List.map (cI .i64) a0.f_Path) .none, .int .i64 a0.f_Result.f_Check, .int .i64 a0.f_Result.f_Position, .sl 1 (List.map cS a0.f_Result.f_Policies) .none]], []⟩ ?_ ?_
   ·refine kP 0 (x_lidx (c := (cI .i64)) (e := 3) (sz := 1) (b := 8) (tok := .none) hx53) ?_
    exact kE ⟨[0], 1, [], 0⟩
   obtain ⟨y56, hE, h⟩ := bindE h
   refine regN ⟨93, [(1, .ptr 0 0), (4, .func (.func 87) [] []), (5, .bool y56), (17, .sl 1 (List.map (cI .i64) a0.f_Path) .none), (18, .int .i64 (List.length a0.f_Path : Int)), (19, .int .i64 v40)]⟩ ⟨[[.int .i64 a0.f_Anchor, .sl 1 (List.map (cI .i64) a0.f_Path) .none, .int .i64 a0.f_Result.f_Check, .int .i64 a0.f_Result.f_Position, .sl 1 (List.map cS a0.f_Result.f_Policies) .none]], []⟩ cl_cons ?_ ?_
   ·replace h := hE
    refine kG 2 24 (v39) (fun hb => ?_) (fun hb => ?_)
    ·have h := ite_t hb h
     obtain ⟨r54, hr54, h⟩ := bindE h
     refine kC 4 ⟨[], 1, [], 0⟩ (go_wire_EncodeFound_1_ok hr54) ?_
     obtain rfl := Option.some.inj h
     exact kE ⟨[0], 1, [], 0⟩
    have h := ite_f hb h
    obtain rfl := Option.some.inj h
    exact kE ⟨[0], 1, [], 0⟩
   refine bk_norm ?_
   refine regN ⟨93, [(1, .ptr 0 0), (4, .func (.func 87) [] []), (5, .bool y56), (17, .sl 1 (List.map (cI .i64) a0.f_Path) .none), (18, .int .i64 (List.length a0.f_Path : Int)), (19, .int .i64 (IntKind.wrap .i64 (v40 + 1)))]⟩ ⟨[[.int .i64 a0.f_Anchor, .sl 1 (List.map (cI .i64) a0.f_Path) .none, .int .i64 a0.f_Result.f_Check, .int .i64 a0.f_Result.f_Position, .sl 1 (List.map cS a0.f_Result.f_Policies) .none]], []⟩ cl_loopT ?_ ?_
   ·exact kE ⟨[0], 1, [], 0⟩
   exact ⟨(y56, IntKind.wrap .i64 (v40 + 1)), h, wk ⟨[0], 1, [], 0⟩⟩
  replace h := ite_f hb h
  refine b_exit ?_
  refine tk_exit ?_
  refine bl_exit ?_
  exact ⟨v39, (Option.some.inj h).symm, wk ⟨[0], 1, [], 0⟩⟩
 subst hz
 refine b_seq ?_
 refine b_seq ?_
 refine reg ⟨93, [(1, .ptr 0 0), (5, .bool y29), (8, .ptr 1 0)]⟩ ⟨[[.int .i64 a0.f_Anchor, .sl 1 (List.map (cI .i64) a0.f_Path) .none, .int .i64 a0.f_Result.f_Check, .int .i64 a0.f_Result.f_Position, .sl 1 (List.map cS a0.f_Result.f_Policies) .none], [.int .i64 a0.f_Result.f_Check, .int .i64 a0.f_Result.f_Position, .sl 1 (List.map cS a0.f_Result.f_Policies) .none]], []⟩ ?_ ?_
 ·exact kE ⟨[0, 1], 2, [], 0⟩
 refine b_block ?_
 refine b_seq ?_
 obtain ⟨y60, hE, h⟩ := bindE h
 refine reg ⟨93, [(1, .ptr 0 0), (32, .bool y60)]⟩ ⟨[[.int .i64 a0.f_Anchor, .sl 1 (List.map (cI .i64) a0.f_Path) .none, .int .i64 a0.f_Result.f_Check, .int .i64 a0.f_Result.f_Position, .sl 1 (List.map cS a0.f_Result.f_Policies) .none]], []⟩ ?_ ?_
 ·replace h := hE
  refine kG 3 35 (!y29) (fun hb => ?_) (fun hb => ?_)
  ·have h := ite_t hb h
   obtain rfl := Option.some.inj h
   exact kE ⟨[0], 2, [], 0⟩
  have h := ite_f hb h
  refine kG 8 40 (decide (a0.f_Result.f_Check < 0)) (fun hb => ?_) (fun hb => ?_)
  ·have h := ite_t hb h
   obtain rfl := Option.some.inj h
   exact kE ⟨[0], 2, [], 0⟩
  have h := ite_f hb h
  refine kG 13 45 (decide (a0.f_Result.f_Check > 15)) (fun hb => ?_) (fun hb => ?_)
  ·have h := ite_t hb h
   obtain rfl := Option.some.inj h
   exact kE ⟨[0], 2, [], 0⟩
  have h := ite_f hb h
  refine kG 18 50 (decide (a0.f_Result.f_Position < 0)) (fun hb => ?_) (fun hb => ?_)
  ·have h := ite_t hb h
   obtain rfl := Option.some.inj h
   exact kE ⟨[0], 2, [], 0⟩
  have h := ite_f hb h
  obtain rfl := Option.some.inj h
  exact kE ⟨[0], 2, [], 0⟩
 refine bif_ (y60) (fun hb => ?_) (fun hb => ?_)
 ·replace h := ite_t hb h
  refine b_seq ?_
  refine reg ⟨93, [(2, .str ([] : List UInt8)), (3, .int .i64 1)]⟩ ⟨[], []⟩ ?_ ?_
  ·exact kE ⟨[], 1, [], 0⟩
  refine b_ret ?_
  refine bk_ret ?_
  obtain rfl := Option.some.inj h
  exact rtn ⟨[], 0, [], 0⟩ (.inr rfl)
 replace h := ite_f hb h
 refine b_seq ?_
 refine reg ⟨93, [(1, .ptr 0 0), (55, .bool (decide ((List.length a0.f_Path : Int) > 8)))]⟩ ⟨[[.int .i64 a0.f_Anchor, .sl 1 (List.map (cI .i64) a0.f_Path) .none, .int .i64 a0.f_Result.f_Check, .int .i64 a0.f_Result.f_Position, .sl 1 (List.map cS a0.f_Result.f_Policies) .none]], []⟩ ?_ ?_
 ·refine kP 2 (x_len (c := (cI .i64)) (l := a0.f_Path) (e := 3) (sz := 1) (sz' := 1) (b := 8) (tok := .none)) ?_
  exact kE ⟨[0], 1, [], 0⟩
 refine bif_ (decide ((List.length a0.f_Path : Int) > 8)) (fun hb => ?_) (fun hb => ?_)
 ·replace h := ite_t hb h
  refine b_seq ?_
  refine reg ⟨93, [(2, .str ([] : List UInt8)), (3, .int .i64 2)]⟩ ⟨[], []⟩ ?_ ?_
  ·exact kE ⟨[], 1, [], 0⟩
  refine b_ret ?_
  refine bk_ret ?_
  obtain rfl := Option.some.inj h
  exact rtn ⟨[], 0, [], 0⟩ (.inr rfl)
 replace h := ite_f hb h
 refine b_skip ?_
 refine bk_norm ?_
 refine b_seq ?_
 refine b_seq ?_
 refine reg ⟨93, [(1, .ptr 0 0), (62, .sl 1 (List.map cS a0.f_Result.f_Policies) .none), (63, .int .i64 (List.length a0.f_Result.f_Policies : Int)), (64, .int .i64 0)]⟩ ⟨[[.int .i64 a0.f_Anchor, .sl 1 (List.map (cI .i64) a0.f_Path) .none, .int .i64 a0.f_Result.f_Check, .int .i64 a0.f_Result.f_Position, .sl 1 (List.map cS a0.f_Result.f_Policies) .none]], []⟩ ?_ ?_
 ·refine kP 3 (x_len (c := cS) (l := a0.f_Result.f_Policies) (e := 9) (sz := 1) (sz' := 1) (b := 16) (tok := .none)) ?_
  exact kE ⟨[0], 1, [], 0⟩
 obtain ⟨o75, hE, hr76, h⟩ := ctlE h
 refine b_blockE (Y := Unit) (fun _ => ⟨93, [(1, .ptr 0 0)]⟩) (fun _ => ⟨[[.int .i64 a0.f_Anchor, .sl 1 (List.map (cI .i64) a0.f_Path) .none, .int .i64 a0.f_Result.f_Check, .int .i64 a0.f_Result.f_Position, .sl 1 (List.map cS a0.f_Result.f_Policies) .none]], []⟩) (fun z => o75 = .nxt z) ?_ cl_cons (fun y74 hy => ?_)
 ·replace h := hE
  refine b_loop (X := Int) (fun x => ⟨93, [(1, .ptr 0 0), (62, .sl 1 (List.map cS a0.f_Result.f_Policies) .none), (63, .int .i64 (List.length a0.f_Result.f_Policies : Int)), (64, .int .i64 x)]⟩) (fun x => ⟨[[.int .i64 a0.f_Anchor, .sl 1 (List.map (cI .i64) a0.f_Path) .none, .int .i64 a0.f_Result.f_Check, .int .i64 a0.f_Result.f_Position, .sl 1 (List.map cS a0.f_Result.f_Policies) .none]], []⟩) (fun k x => go_wire_EncodeFound_l2 n a0 k x = some o75) (fun _ hx => by simp [go_wire_EncodeFound_l2] at hx) n 0 h (wk ⟨[0], 1, [], 0⟩) (fun k x h => ?_)
  revert h; revert x; intro v81 h
  rw [go_wire_EncodeFound_l2] at h
  refine b_seq ?_
  refine reg ⟨93, [(1, .ptr 0 0), (62, .sl 1 (List.map cS a0.f_Result.f_Policies) .none), (63, .int .i64 (List.length a0.f_Result.f_Policies : Int)), (64, .int .i64 v81), (65, .bool (decide (v81 < (List.length a0.f_Result.f_Policies : Int))))]⟩ ⟨[[.int .i64 a0.f_Anchor, .sl 1 (List.map (cI .i64) a0.f_Path) .none, .int .i64 a0.f_Result.f_Check, .int .i64 a0.f_Result.f_Position, .sl 1 (List.map cS a0.f_Result.f_Policies) .none]], []⟩ ?_ ?_
  ·exact kE ⟨[0], 1, [], 0⟩
  refine b_seq ?_
  refine bif_ (decide (v81 < (List.length a0.f_Result.f_Policies : Int))) (fun hb => ?_) (fun hb => ?_)
  ·replace h := ite_t hb h
   refine b_skip ?_
   refine b_seq ?_
   refine b_block ?_
   refine b_seq ?_
   obtain ⟨x88, hx88, h⟩ := bindE h
   refine reg ⟨93, [(1, .ptr 0 0), (10, .str x88), (62, .sl 1 (List.map cS a0.f_Result.f_Policies) .none), (63, .int .i64 (List.length a0.f_Result.f_Policies : Int)), (64, .int .i64 v81)]⟩ ⟨[[.int .i64 a0.f_Anchor, .sl 1 (List.map (cI .i64) a0.f_Path) .none, .int .i64 a0.f_Result.f_Check, .int .i64 a0.f_Result.f_Position, .sl 1 (List.map cS a0.f_Result.f_Policies) .none]], []⟩ ?_ ?_
   ·refine kP 0 (x_lidx (c := cS) (e := 9) (sz := 1) (b := 16) (tok := .none) hx88) ?_
    exact kE ⟨[0], 1, [], 0⟩
   refine b_seq ?_
   obtain ⟨r89, hr89, h⟩ := bindE h
   refine reg ⟨93, [(1, .ptr 0 0), (62, .sl 1 (List.map cS a0.f_Result.f_Policies) .none), (63, .int .i64 (List.length a0.f_Result.f_Policies : Int)), (64, .int .i64 v81), (70, .bool (!r89))]⟩ ⟨[[.int .i64 a0.f_Anchor, .sl 1 (List.map (cI .i64) a0.f_Path) .none, .int .i64 a0.f_Result.f_Check, .int .i64 a0.f_Result.f_Position, .sl 1 (List.map cS a0.f_Result.f_Policies) .none]], []⟩ ?_ ?_
   ·refine kC 1 ⟨[], 1, [], 0⟩ (go_oid_Valid_ok hr89) ?_
    exact kE ⟨[0], 1, [], 0⟩
   refine bif_ (!r89) (fun hb => ?_) (fun hb => ?_)
   ·replace h := ite_t hb h
    refine b_seq ?_
    refine reg ⟨93, [(2, .str ([] : List UInt8)), (3, .int .i64 11)]⟩ ⟨[], []⟩ ?_ ?_
    ·exact kE ⟨[], 1, [], 0⟩
    refine b_ret ?_
    refine bk_ret ?_
    refine tk_ret ?_
    replace h := hr76 _ (Option.some.inj h).symm
    refine bl_ret ?_
    obtain rfl := Option.some.inj h
    exact rtn ⟨[], 0, [], 0⟩ (.inr rfl)
   replace h := ite_f hb h
   refine b_skip ?_
   refine bk_norm ?_
   refine regN ⟨93, [(1, .ptr 0 0), (62, .sl 1 (List.map cS a0.f_Result.f_Policies) .none), (63, .int .i64 (List.length a0.f_Result.f_Policies : Int)), (64, .int .i64 (IntKind.wrap .i64 (v81 + 1)))]⟩ ⟨[[.int .i64 a0.f_Anchor, .sl 1 (List.map (cI .i64) a0.f_Path) .none, .int .i64 a0.f_Result.f_Check, .int .i64 a0.f_Result.f_Position, .sl 1 (List.map cS a0.f_Result.f_Policies) .none]], []⟩ cl_loopT ?_ ?_
   ·exact kE ⟨[0], 1, [], 0⟩
   exact ⟨IntKind.wrap .i64 (v81 + 1), h, wk ⟨[0], 1, [], 0⟩⟩
  replace h := ite_f hb h
  refine b_exit ?_
  refine tk_exit ?_
  refine bl_exit ?_
  exact ⟨(), (Option.some.inj h).symm, wk ⟨[0], 1, [], 0⟩⟩
 replace h := h _ hy
 refine b_seq ?_
 refine reg ⟨93, [(1, .ptr 0 0), (11, .ptr 1 0)]⟩ ⟨[[.int .i64 a0.f_Anchor, .sl 1 (List.map (cI .i64) a0.f_Path) .none, .int .i64 a0.f_Result.f_Check, .int .i64 a0.f_Result.f_Position, .sl 1 (List.map cS a0.f_Result.f_Policies) .none], [.str ([] : List UInt8), .int .i64 0]], []⟩ ?_ ?_
 ·exact kE ⟨[0, 1], 2, [], 0⟩
 refine b_seq ?_
 obtain ⟨r90, hr90, h⟩ := bindE h
 refine reg ⟨93, [(1, .ptr 0 0), (11, .ptr 1 0)]⟩ ⟨[[.int .i64 a0.f_Anchor, .sl 1 (List.map (cI .i64) a0.f_Path) .none, .int .i64 a0.f_Result.f_Check, .int .i64 a0.f_Result.f_Position, .sl 1 (List.map cS a0.f_Result.f_Policies) .none], [.str r90.f_b, .int .i64 r90.f_e]], []⟩ ?_ ?_
 ·refine kC 2 ⟨[1], 2, [], 0⟩ (go_wire_buffer_number_ok hr90) ?_
  exact kE ⟨[0, 1], 2, [], 0⟩
 refine b_seq ?_
 obtain ⟨r91, hr91, h⟩ := bindE h
 refine reg ⟨93, [(1, .ptr 0 0), (11, .ptr 1 0)]⟩ ⟨[[.int .i64 a0.f_Anchor, .sl 1 (List.map (cI .i64) a0.f_Path) .none, .int .i64 a0.f_Result.f_Check, .int .i64 a0.f_Result.f_Position, .sl 1 (List.map cS a0.f_Result.f_Policies) .none], [.str r91.f_b, .int .i64 r91.f_e]], []⟩ ?_ ?_
 ·refine kC 2 ⟨[1], 2, [], 0⟩ (go_wire_list_int_ok hr91) ?_
  exact kE ⟨[0, 1], 2, [], 0⟩
 refine b_seq ?_
 obtain ⟨r92, hr92, h⟩ := bindE h
 refine reg ⟨93, [(1, .ptr 0 0), (11, .ptr 1 0)]⟩ ⟨[[.int .i64 a0.f_Anchor, .sl 1 (List.map (cI .i64) a0.f_Path) .none, .int .i64 a0.f_Result.f_Check, .int .i64 a0.f_Result.f_Position, .sl 1 (List.map cS a0.f_Result.f_Policies) .none], [.str r92.f_b, .int .i64 r92.f_e]], []⟩ ?_ ?_
 ·refine kC 3 ⟨[1], 2, [], 0⟩ (go_wire_buffer_integer_ok hr92) ?_
  exact kE ⟨[0, 1], 2, [], 0⟩
 refine b_seq ?_
 obtain ⟨r93, hr93, h⟩ := bindE h
 refine reg ⟨93, [(1, .ptr 0 0), (11, .ptr 1 0)]⟩ ⟨[[.int .i64 a0.f_Anchor, .sl 1 (List.map (cI .i64) a0.f_Path) .none, .int .i64 a0.f_Result.f_Check, .int .i64 a0.f_Result.f_Position, .sl 1 (List.map cS a0.f_Result.f_Policies) .none], [.str r93.f_b, .int .i64 r93.f_e]], []⟩ ?_ ?_
 ·refine kC 3 ⟨[1], 2, [], 0⟩ (go_wire_buffer_number_ok hr93) ?_
  exact kE ⟨[0, 1], 2, [], 0⟩
 refine b_seq ?_
 obtain ⟨r94, hr94, h⟩ := bindE h
 refine reg ⟨93, [(11, .ptr 0 0)]⟩ ⟨[[.str r94.f_b, .int .i64 r94.f_e]], []⟩ ?_ ?_
 ·refine kC 3 ⟨[1], 2, [], 0⟩ (go_wire_list_string_ok hr94) ?_
  exact kE ⟨[1], 2, [], 0⟩
 refine b_seq ?_
 obtain ⟨r95, hr95, h⟩ := bindE h
 refine reg ⟨93, [(2, .str r95.1), (3, .int .i64 r95.2.1)]⟩ ⟨[], []⟩ ?_ ?_
 ·refine kC 0 ⟨[0], 1, [], 0⟩ (go_wire_buffer_whole_ok hr95) ?_
  exact kE ⟨[], 1, [], 0⟩
 refine b_ret ?_
 obtain rfl := Option.some.inj h
 exact rtn ⟨[], 0, [], 0⟩ (.inr rfl)
def go_wire_reader_found_l1 (n : Nat) : Nat → (List Int) → (List T_api_Element) → Bool → Option ((List Int) × (List T_api_Element) × Bool)
 | 0, _, _, _ => none
 | k + 1, v30, v31, v32 =>
  if (decide ((List.length v31 : Int) > 0)) = true then ((go_wire_reader_number n 2 (T_wire_reader.mk v31 v32)).bind fun r39 =>
  (lapp 8 v30 ([r39.1] : List Int)).bind fun x40 =>
  go_wire_reader_found_l1 n k x40 r39.2.f_l r39.2.f_failed) else (some (v30, v31, v32))
def go_wire_reader_found (n : Nat) (m0 : T_wire_reader) : Option (T_api_Found × T_wire_reader) :=
 (go_wire_reader_number n 2 m0).bind fun r1 =>
 (go_wire_reader_next n r1.2).bind fun r2 =>
 (go_wire_sequence n r2.1).bind fun r3 =>
 (go_wire_reader_found_l1 n  n ([] : List Int) r3.f_l r3.f_failed).bind fun y23 =>
 (go_wire_reader_number n 10 r2.2).bind fun r41 =>
 (go_wire_reader_number n 2 r41.2).bind fun r42 =>
 (go_wire_reader_next n r42.2).bind fun r43 =>
 (go_wire_reader_oids n r43.1.f_Content r43.2).bind fun r44 =>
 (if r44.2.f_failed = true then (some true) else (if y23.2.2 = true then (some true) else (some (r43.1.f_Tag != 48)))).bind fun y46 =>
 some ((T_api_Found.mk r1.1 y23.1 (T_api_Result.mk r41.1 r42.1 r44.1)), (T_wire_reader.mk r44.2.f_l y46))
theorem go_wire_reader_found_ok {n : Nat} {m0 : T_wire_reader} {r : (T_api_Found × T_wire_reader)} (h : go_wire_reader_found n m0 = some r) : ACalls Tryz.prog (gl0 mx) 95 [.ptr 0 0] ⟨[[.sl 3 (List.map T_api_Element.cells m0.f_l) .none, .bool m0.f_failed]], []⟩ (Out (.agg [.int .i64 r.1.f_Anchor, .sl 1 (List.map (cI .i64) r.1.f_Path) .none, .int .i64 r.1.f_Result.f_Check, .int .i64 r.1.f_Result.f_Position, .sl 1 (List.map cS r.1.f_Result.f_Policies) .none]) ⟨[[.sl 3 (List.map T_api_Element.cells r.2.f_l) .none, .bool r.2.f_failed]], []⟩) := by
 delta go_wire_reader_found at h
 refine fnc Tryz.func95 rfl ?_
 refine b_seq ?_
 refine reg ⟨60, [(0, .ptr 0 0), (2, .ptr 1 0)]⟩ ⟨[[.sl 3 (List.map T_api_Element.cells m0.f_l) .none, .bool m0.f_failed], [.int .i64 0, .nilsl, .int .i64 0, .int .i64 0, .nilsl]], []⟩ ?_ ?_
 ·exact kE ⟨[0, 1], 2, [], 0⟩
 refine b_seq ?_
 refine reg ⟨60, [(0, .ptr 0 0), (2, .ptr 1 0), (3, .ptr 2 0)]⟩ ⟨[[.sl 3 (List.map T_api_Element.cells m0.f_l) .none, .bool m0.f_failed], [.int .i64 0, .nilsl, .int .i64 0, .int .i64 0, .nilsl], [.int .i64 0, .nilsl, .int .i64 0, .int .i64 0, .nilsl]], []⟩ ?_ ?_
 ·exact kE ⟨[0, 1, 2], 3, [], 0⟩
 refine b_seq ?_
 obtain ⟨r1, hr1, h⟩ := bindE h
 refine reg ⟨60, [(0, .ptr 0 0), (2, .ptr 1 0), (3, .ptr 2 0)]⟩ ⟨[[.sl 3 (List.map T_api_Element.cells r1.2.f_l) .none, .bool r1.2.f_failed], [.int .i64 0, .nilsl, .int .i64 0, .int .i64 0, .nilsl], [.int .i64 r1.1, .nilsl, .int .i64 0, .int .i64 0, .nilsl]], []⟩ ?_ ?_
 ·refine kC 1 ⟨[0], 3, [], 0⟩ (go_wire_reader_number_ok hr1) ?_
  exact kE ⟨[0, 1, 2], 3, [], 0⟩
 refine b_seq ?_
 obtain ⟨r2, hr2, h⟩ := bindE h
 obtain ⟨r3, hr3, h⟩ := bindE h
 refine reg ⟨60, [(0, .ptr 0 0), (2, .ptr 1 0), (3, .ptr 2 0), (4, .ptr 3 0)]⟩ ⟨[[.sl 3 (List.map T_api_Element.cells r2.2.f_l) .none, .bool r2.2.f_failed], [.int .i64 0, .nilsl, .int .i64 0, .int .i64 0, .nilsl], [.int .i64 r1.1, .nilsl, .int .i64 0, .int .i64 0, .nilsl], [.sl 3 (List.map T_api_Element.cells r3.f_l) .none, .bool r3.f_failed]], []⟩ ?_ ?_
 ·refine kC 1 ⟨[0], 3, [], 0⟩ (go_wire_reader_next_ok hr2) ?_
  refine kC 2 ⟨[], 3, [], 0⟩ (go_wire_sequence_ok hr3) ?_
  exact kE ⟨[0, 1, 2, 3], 4, [], 0⟩
 refine b_seq ?_
 obtain ⟨y23, hE, h⟩ := bindE h
 refine b_blockE (Y := ((List Int) × (List T_api_Element) × Bool)) (fun y23 => ⟨60, [(0, .ptr 0 0), (2, .ptr 1 0), (3, .ptr 2 0), (4, .ptr 3 0)]⟩) (fun y23 => ⟨[[.sl 3 (List.map T_api_Element.cells r2.2.f_l) .none, .bool r2.2.f_failed], [.int .i64 0, .nilsl, .int .i64 0, .int .i64 0, .nilsl], [.int .i64 r1.1, .sl 1 (List.map (cI .i64) y23.1) (.fam 0 (List.length y23.1)), .int .i64 0, .int .i64 0, .nilsl], [.sl 3 (List.map T_api_Element.cells y23.2.1) .none, .bool y23.2.2]], [List.length y23.1]⟩) (fun z => y23 = z) ?_ cl_cons (fun z hz => ?_)
 ·replace h := hE
  refine b_wk (wk (fr' := ⟨60, [(0, .ptr 0 0), (2, .ptr 1 0), (3, .ptr 2 0), (4, .ptr 3 0)]⟩) (st' := ⟨[[.sl 3 (List.map T_api_Element.cells r2.2.f_l) .none, .bool r2.2.f_failed], [.int .i64 0, .nilsl, .int .i64 0, .int .i64 0, .nilsl], [.int .i64 r1.1, .nilsl, .int .i64 0, .int .i64 0, .nilsl], [.sl 3 (List.map T_api_Element.cells r3.f_l) .none, .bool r3.f_failed]], []⟩) ⟨[0, 1, 2, 3], 4, [], 0⟩) ?_
  refine b_wk Wk.nilFam ?_
  refine b_loop (X := ((List Int) × (List T_api_Element) × Bool)) (fun x => ⟨60, [(0, .ptr 0 0), (2, .ptr 1 0), (3, .ptr 2 0), (4, .ptr 3 0)]⟩) (fun x => ⟨[[.sl 3 (List.map T_api_Element.cells r2.2.f_l) .none, .bool r2.2.f_failed], [.int .i64 0, .nilsl, .int .i64 0, .int .i64 0, .nilsl], [.int .i64 r1.1, .sl 1 (List.map (cI .i64) x.1) (.fam 0 (List.length x.1)), .int .i64 0, .int .i64 0, .nilsl], [.sl 3 (List.map T_api_Element.cells x.2.1) .none, .bool x.2.2]], [List.length x.1]⟩) (fun k x => go_wire_reader_found_l1 n  k x.1 x.2.1 x.2.2 = some y23) (fun _ hx => by simp [go_wire_reader_found_l1] at hx) n (([] : List Int), r3.f_l, r3.f_failed) h (wk ⟨[0, 1, 2, 3], 4, [0], 1⟩) (fun k x h => ?_)
  obtain ⟨v30, v31, v32⟩ := x
  rw [go_wire_reader_found_l1] at h
  refine b_seq ?_
  refine b_seq ?_
  refine reg ⟨60, [(0, .ptr 0 0), (2, .ptr 1 0), (3, .ptr 2 0), (4, .ptr 3 0), (17, .bool (decide ((List.length v31 : Int) > 0)))]⟩ ⟨[[.sl 3 (List.map T_api_Element.cells r2.2.f_l) .none, .bool r2.2.f_failed], [.int .i64 0, .nilsl, .int .i64 0, .int .i64 0, .nilsl], [.int .i64 r1.1, .sl 1 (List.map (cI .i64) v30) (.fam 0 (List.length v30)), .int .i64 0, .int .i64 0, .nilsl], [.sl 3 (List.map T_api_Element.cells v31) .none, .bool v32]], [List.length v30]⟩ ?_ ?_
  ·refine kP 4 (x_len (c := T_api_Element.cells) (l := v31) (e := 103) (sz := 3) (sz' := 3) (b := 40) (tok := .none)) ?_
   exact kE ⟨[0, 1, 2, 3], 4, [0], 1⟩
  refine bif_ (decide ((List.length v31 : Int) > 0)) (fun hb => ?_) (fun hb => ?_)
  ·replace h := ite_t hb h
   refine b_skip ?_
   refine b_block ?_
   obtain ⟨r39, hr39, h⟩ := bindE h
   obtain ⟨x40, hx40, h⟩ := bindE h
   refine c_draw [0, 1, 2, 3, 4, 5, 6, 7] [3, 5, 7] [[], [0], [], [2], [2, 3], [0, 1, 2, 3, 4], [0, 1, 2, 3, 4, 5], [0, 1, 2, 3, 4, 5, 6]] ⟨60, [(0, .ptr 0 0), (2, .ptr 1 0), (3, .ptr 2 0), (4, .ptr 3 0)]⟩ ⟨[[.sl 3 (List.map T_api_Element.cells r2.2.f_l) .none, .bool r2.2.f_failed], [.int .i64 0, .nilsl, .int .i64 0, .int .i64 0, .nilsl], [.int .i64 r1.1, .sl 1 (List.map (cI .i64) x40) (.fam 0 (List.length x40)), .int .i64 0, .int .i64 0, .nilsl], [.sl 3 (List.map T_api_Element.cells r39.2.f_l) .none, .bool r39.2.f_failed]], [List.length x40]⟩ (by kernel_rfl) (by kernel_rfl) (cl_nil (cl_nil (P := Tryz.prog) (gl := gl0 mx) cl_loopT)) ?_ ?_
   ·refine dS [0, 1, 2] ?_
    refine dC fxNil ⟨[3], 4, [], 1⟩ (go_wire_reader_number_ok hr39) ?_
    refine dS [4] ?_
    refine dA fxNil 0 (cI .i64) (e := 3) (e2 := 3) (sz := 1) (bytes := 8) (b2 := 8) (tok2 := .exact) hx40 ?_
    refine dS [6] ?_
    refine dF fxNil ?_
    exact dE ⟨[0, 1, 2, 3], 4, [0], 1⟩
   refine bk_norm ?_
   exact ⟨(x40, r39.2.f_l, r39.2.f_failed), h, wk ⟨[0, 1, 2, 3], 4, [0], 1⟩⟩
  replace h := ite_f hb h
  refine b_exit ?_
  refine tk_exit ?_
  refine bl_exit ?_
  exact ⟨(v30, v31, v32), (Option.some.inj h).symm, wk ⟨[0, 1, 2, 3], 4, [0], 1⟩⟩
 subst hz
 refine b_seq ?_
 obtain ⟨r41, hr41, h⟩ := bindE h
 refine reg ⟨60, [(0, .ptr 0 0), (2, .ptr 1 0), (3, .ptr 2 0), (4, .ptr 3 0)]⟩ ⟨[[.sl 3 (List.map T_api_Element.cells r41.2.f_l) .none, .bool r41.2.f_failed], [.int .i64 0, .nilsl, .int .i64 0, .int .i64 0, .nilsl], [.int .i64 r1.1, .sl 1 (List.map (cI .i64) y23.1) (.fam 0 (List.length y23.1)), .int .i64 r41.1, .int .i64 0, .nilsl], [.sl 3 (List.map T_api_Element.cells y23.2.1) .none, .bool y23.2.2]], [List.length y23.1]⟩ ?_ ?_
 ·refine kC 1 ⟨[0], 4, [], 1⟩ (go_wire_reader_number_ok hr41) ?_
  exact kE ⟨[0, 1, 2, 3], 4, [0], 1⟩
 refine b_seq ?_
 obtain ⟨r42, hr42, h⟩ := bindE h
 refine reg ⟨60, [(0, .ptr 0 0), (2, .ptr 1 0), (3, .ptr 2 0), (4, .ptr 3 0)]⟩ ⟨[[.sl 3 (List.map T_api_Element.cells r42.2.f_l) .none, .bool r42.2.f_failed], [.int .i64 0, .nilsl, .int .i64 0, .int .i64 0, .nilsl], [.int .i64 r1.1, .sl 1 (List.map (cI .i64) y23.1) (.fam 0 (List.length y23.1)), .int .i64 r41.1, .int .i64 r42.1, .nilsl], [.sl 3 (List.map T_api_Element.cells y23.2.1) .none, .bool y23.2.2]], [List.length y23.1]⟩ ?_ ?_
 ·refine kC 1 ⟨[0], 4, [], 1⟩ (go_wire_reader_number_ok hr42) ?_
  exact kE ⟨[0, 1, 2, 3], 4, [0], 1⟩
 refine b_seq ?_
 obtain ⟨r43, hr43, h⟩ := bindE h
 refine reg ⟨60, [(0, .ptr 0 0), (2, .ptr 1 0), (3, .ptr 2 0), (4, .ptr 3 0), (5, .ptr 4 0)]⟩ ⟨[[.sl 3 (List.map T_api_Element.cells r43.2.f_l) .none, .bool r43.2.f_failed], [.int .i64 0, .nilsl, .int .i64 0, .int .i64 0, .nilsl], [.int .i64 r1.1, .sl 1 (List.map (cI .i64) y23.1) (.fam 0 (List.length y23.1)), .int .i64 r41.1, .int .i64 r42.1, .nilsl], [.sl 3 (List.map T_api_Element.cells y23.2.1) .none, .bool y23.2.2], [.int .i64 r43.1.f_Tag, .str r43.1.f_Content, .str r43.1.f_Raw]], [List.length y23.1]⟩ ?_ ?_
 ·refine kC 1 ⟨[0], 4, [], 1⟩ (go_wire_reader_next_ok hr43) ?_
  exact kE ⟨[0, 1, 2, 3, 4], 5, [0], 1⟩
 refine b_seq ?_
 obtain ⟨r44, hr44, h⟩ := bindE h
 refine reg ⟨60, [(0, .ptr 0 0), (2, .ptr 1 0), (3, .ptr 2 0), (4, .ptr 3 0), (5, .ptr 4 0)]⟩ ⟨[[.sl 3 (List.map T_api_Element.cells r44.2.f_l) .none, .bool r44.2.f_failed], [.int .i64 0, .nilsl, .int .i64 0, .int .i64 0, .nilsl], [.int .i64 r1.1, .sl 1 (List.map (cI .i64) y23.1) (.fam 0 (List.length y23.1)), .int .i64 r41.1, .int .i64 r42.1, .sl 1 (List.map cS r44.1) .none], [.sl 3 (List.map T_api_Element.cells y23.2.1) .none, .bool y23.2.2], [.int .i64 r43.1.f_Tag, .str r43.1.f_Content, .str r43.1.f_Raw]], [List.length y23.1]⟩ ?_ ?_
 ·refine kC 3 ⟨[0], 5, [], 1⟩ (go_wire_reader_oids_ok hr44) ?_
  exact kE ⟨[0, 1, 2, 3, 4], 5, [0], 1⟩
 refine b_seq ?_
 obtain ⟨y46, hE, h⟩ := bindE h
 refine reg ⟨60, [(2, .ptr 1 0), (3, .ptr 2 0)]⟩ ⟨[[.sl 3 (List.map T_api_Element.cells r44.2.f_l) .none, .bool y46], [.int .i64 0, .nilsl, .int .i64 0, .int .i64 0, .nilsl], [.int .i64 r1.1, .sl 1 (List.map (cI .i64) y23.1) (.fam 0 (List.length y23.1)), .int .i64 r41.1, .int .i64 r42.1, .sl 1 (List.map cS r44.1) .none]], [List.length y23.1]⟩ ?_ ?_
 ·replace h := hE
  refine kG 6 46 (r44.2.f_failed) (fun hb => ?_) (fun hb => ?_)
  ·have h := ite_t hb h
   obtain rfl := Option.some.inj h
   exact kE ⟨[0, 1, 2], 5, [0], 1⟩
  have h := ite_f hb h
  refine kG 12 52 (y23.2.2) (fun hb => ?_) (fun hb => ?_)
  ·have h := ite_t hb h
   obtain rfl := Option.some.inj h
   exact kE ⟨[0, 1, 2], 5, [0], 1⟩
  have h := ite_f hb h
  obtain rfl := Option.some.inj h
  exact kE ⟨[0, 1, 2], 5, [0], 1⟩
 refine b_seq ?_
 refine reg ⟨60, [(2, .ptr 1 0)]⟩ ⟨[[.sl 3 (List.map T_api_Element.cells r44.2.f_l) .none, .bool y46], [.int .i64 r1.1, .sl 1 (List.map (cI .i64) y23.1) (.fam 0 (List.length y23.1)), .int .i64 r41.1, .int .i64 r42.1, .sl 1 (List.map cS r44.1) .none]], [List.length y23.1]⟩ ?_ ?_
 ·exact kE ⟨[0, 1], 3, [0], 1⟩
 refine b_ret ?_
 obtain rfl := Option.some.inj h
 exact rtn ⟨[0], 2, [], 1⟩ (.inr rfl)
def go_wire_decode_api_Found (n : Nat) (a0 : (List UInt8)) : Option (T_api_Found × Int) :=
 (go_tlv_Check n a0).bind fun r1 =>
 if (r1 != 0) = true then (some ((T_api_Found.mk 0 ([] : (List Int)) (T_api_Result.mk 0 0 ([] : (List (List UInt8))))), r1)) else ((go_tlv_One n a0).bind fun r2 =>
 if (r2.2 != 0) = true then (some ((T_api_Found.mk 0 ([] : (List Int)) (T_api_Result.mk 0 0 ([] : (List (List UInt8))))), r2.2)) else ((go_wire_sequence n r2.1).bind fun r3 =>
 (go_wire_reader_found n r3).bind fun r4 =>
 if r4.2.f_failed = true then (some ((T_api_Found.mk 0 ([] : (List Int)) (T_api_Result.mk 0 0 ([] : (List (List UInt8))))), 7)) else ((go_wire_EncodeFound n (T_api_Found.mk r4.1.f_Anchor r4.1.f_Path (T_api_Result.mk r4.1.f_Result.f_Check r4.1.f_Result.f_Position r4.1.f_Result.f_Policies))).bind fun r5 =>
 (if (r5.2 != 0) = true then (some true) else (some (!(r5.1 == a0)))).bind fun y7 =>
 if y7 = true then (some ((T_api_Found.mk 0 ([] : (List Int)) (T_api_Result.mk 0 0 ([] : (List (List UInt8))))), 7)) else (some ((T_api_Found.mk r4.1.f_Anchor r4.1.f_Path (T_api_Result.mk r4.1.f_Result.f_Check r4.1.f_Result.f_Position r4.1.f_Result.f_Policies)), 0)))))
theorem go_wire_decode_api_Found_ok {n : Nat} {a0 : (List UInt8)} {r : (T_api_Found × Int)} (h : go_wire_decode_api_Found n a0 = some r) : ACalls Tryz.prog (gl0 mx) 94 [.str a0, .func (.func 95) [] [], .func (.func 23) [] []] ⟨[], []⟩ (Out (.tuple [.agg [.int .i64 r.1.f_Anchor, .sl 1 (List.map (cI .i64) r.1.f_Path) .none, .int .i64 r.1.f_Result.f_Check, .int .i64 r.1.f_Result.f_Position, .sl 1 (List.map cS r.1.f_Result.f_Policies) .none], .int .i64 r.2]) ⟨[], []⟩) := by
 delta go_wire_decode_api_Found at h
 refine fnc Tryz.func94 rfl ?_
 refine b_seq ?_
 refine reg ⟨56, [(0, .str a0), (1, .func (.func 95) [] []), (2, .func (.func 23) [] []), (6, .ptr 0 0)]⟩ ⟨[[.int .i64 0, .nilsl, .int .i64 0, .int .i64 0, .nilsl]], []⟩ ?_ ?_
 ·exact kE ⟨[0], 1, [], 0⟩
 refine b_seq ?_
 refine reg ⟨56, [(0, .str a0), (1, .func (.func 95) [] []), (2, .func (.func 23) [] []), (6, .ptr 0 0), (8, .ptr 1 0)]⟩ ⟨[[.int .i64 0, .nilsl, .int .i64 0, .int .i64 0, .nilsl], [.int .i64 0, .nilsl, .int .i64 0, .int .i64 0, .nilsl]], []⟩ ?_ ?_
 ·exact kE ⟨[0, 1], 2, [], 0⟩
 refine b_seq ?_
 refine b_seq ?_
 obtain ⟨r1, hr1, h⟩ := bindE h
 refine reg ⟨56, [(0, .str a0), (1, .func (.func 95) [] []), (2, .func (.func 23) [] []), (6, .ptr 0 0), (8, .ptr 1 0), (9, .int .i64 r1)]⟩ ⟨[[.int .i64 0, .nilsl, .int .i64 0, .int .i64 0, .nilsl], [.int .i64 0, .nilsl, .int .i64 0, .int .i64 0, .nilsl]], []⟩ ?_ ?_
 ·refine kC 1 ⟨[], 2, [], 0⟩ (go_tlv_Check_ok hr1) ?_
  exact kE ⟨[0, 1], 2, [], 0⟩
 refine b_seq ?_
 refine reg ⟨56, [(0, .str a0), (1, .func (.func 95) [] []), (2, .func (.func 23) [] []), (6, .ptr 0 0), (8, .ptr 1 0), (9, .int .i64 r1), (19, .bool (r1 != 0))]⟩ ⟨[[.int .i64 0, .nilsl, .int .i64 0, .int .i64 0, .nilsl], [.int .i64 0, .nilsl, .int .i64 0, .int .i64 0, .nilsl]], []⟩ ?_ ?_
 ·exact kE ⟨[0, 1], 2, [], 0⟩
 refine bif_ (r1 != 0) (fun hb => ?_) (fun hb => ?_)
 ·replace h := ite_t hb h
  refine b_seq ?_
  refine reg ⟨56, [(6, .ptr 0 0), (7, .int .i64 r1)]⟩ ⟨[[.int .i64 0, .nilsl, .int .i64 0, .int .i64 0, .nilsl]], []⟩ ?_ ?_
  ·exact kE ⟨[0], 2, [], 0⟩
  refine b_ret ?_
  obtain rfl := Option.some.inj h
  exact rtn ⟨[], 1, [], 0⟩ (.inr rfl)
 replace h := ite_f hb h
 refine b_skip ?_
 refine b_seq ?_
 obtain ⟨r2, hr2, h⟩ := bindE h
 refine reg ⟨56, [(0, .str a0), (1, .func (.func 95) [] []), (2, .func (.func 23) [] []), (6, .ptr 0 0), (8, .ptr 1 0), (10, .ptr 2 0), (11, .int .i64 r2.2)]⟩ ⟨[[.int .i64 0, .nilsl, .int .i64 0, .int .i64 0, .nilsl], [.int .i64 0, .nilsl, .int .i64 0, .int .i64 0, .nilsl], [.int .i64 r2.1.f_Tag, .str r2.1.f_Content, .str r2.1.f_Raw]], []⟩ ?_ ?_
 ·refine kC 1 ⟨[], 2, [], 0⟩ (go_tlv_One_ok hr2) ?_
  exact kE ⟨[0, 1, 2], 3, [], 0⟩
 refine b_seq ?_
 refine b_seq ?_
 refine reg ⟨56, [(0, .str a0), (1, .func (.func 95) [] []), (2, .func (.func 23) [] []), (6, .ptr 0 0), (8, .ptr 1 0), (10, .ptr 2 0), (11, .int .i64 r2.2), (28, .bool (r2.2 != 0))]⟩ ⟨[[.int .i64 0, .nilsl, .int .i64 0, .int .i64 0, .nilsl], [.int .i64 0, .nilsl, .int .i64 0, .int .i64 0, .nilsl], [.int .i64 r2.1.f_Tag, .str r2.1.f_Content, .str r2.1.f_Raw]], []⟩ ?_ ?_
 ·exact kE ⟨[0, 1, 2], 3, [], 0⟩
 refine bif_ (r2.2 != 0) (fun hb => ?_) (fun hb => ?_)
 ·replace h := ite_t hb h
  refine b_seq ?_
  refine reg ⟨56, [(6, .ptr 0 0), (7, .int .i64 r2.2)]⟩ ⟨[[.int .i64 0, .nilsl, .int .i64 0, .int .i64 0, .nilsl]], []⟩ ?_ ?_
  ·exact kE ⟨[0], 3, [], 0⟩
  refine b_ret ?_
  obtain rfl := Option.some.inj h
  exact rtn ⟨[], 1, [], 0⟩ (.inr rfl)
 replace h := ite_f hb h
 refine b_skip ?_
 refine b_seq ?_
 obtain ⟨r3, hr3, h⟩ := bindE h
 refine reg ⟨56, [(0, .str a0), (1, .func (.func 95) [] []), (2, .func (.func 23) [] []), (6, .ptr 0 0), (8, .ptr 1 0), (12, .ptr 2 0)]⟩ ⟨[[.int .i64 0, .nilsl, .int .i64 0, .int .i64 0, .nilsl], [.int .i64 0, .nilsl, .int .i64 0, .int .i64 0, .nilsl], [.sl 3 (List.map T_api_Element.cells r3.f_l) .none, .bool r3.f_failed]], []⟩ ?_ ?_
 ·refine kC 1 ⟨[], 3, [], 0⟩ (go_wire_sequence_ok hr3) ?_
  exact kE ⟨[0, 1, 3], 4, [], 0⟩
 refine b_seq ?_
 obtain ⟨r4, hr4, h⟩ := bindE h
 refine reg ⟨56, [(0, .str a0), (2, .func (.func 23) [] []), (6, .ptr 0 0), (8, .ptr 1 0), (12, .ptr 2 0), (13, .ptr 3 0)]⟩ ⟨[[.int .i64 0, .nilsl, .int .i64 0, .int .i64 0, .nilsl], [.int .i64 0, .nilsl, .int .i64 0, .int .i64 0, .nilsl], [.sl 3 (List.map T_api_Element.cells r4.2.f_l) .none, .bool r4.2.f_failed], [.int .i64 r4.1.f_Anchor, .sl 1 (List.map (cI .i64) r4.1.f_Path) .none, .int .i64 r4.1.f_Result.f_Check, .int .i64 r4.1.f_Result.f_Position, .sl 1 (List.map cS r4.1.f_Result.f_Policies) .none]], []⟩ ?_ ?_
 ·refine kC 2 ⟨[2], 3, [], 0⟩ (go_wire_reader_found_ok hr4) ?_
  exact kE ⟨[0, 1, 2, 3], 4, [], 0⟩
 refine b_seq ?_
 refine b_seq ?_
 refine reg ⟨56, [(0, .str a0), (2, .func (.func 23) [] []), (6, .ptr 0 0), (8, .ptr 1 0), (13, .ptr 2 0), (39, .bool r4.2.f_failed)]⟩ ⟨[[.int .i64 0, .nilsl, .int .i64 0, .int .i64 0, .nilsl], [.int .i64 0, .nilsl, .int .i64 0, .int .i64 0, .nilsl], [.int .i64 r4.1.f_Anchor, .sl 1 (List.map (cI .i64) r4.1.f_Path) .none, .int .i64 r4.1.f_Result.f_Check, .int .i64 r4.1.f_Result.f_Position, .sl 1 (List.map cS r4.1.f_Result.f_Policies) .none]], []⟩ ?_ ?_
 ·exact kE ⟨[0, 1, 3], 4, [], 0⟩
 refine bif_ (r4.2.f_failed) (fun hb => ?_) (fun hb => ?_)
 ·replace h := ite_t hb h
  refine b_seq ?_
  refine reg ⟨56, [(6, .ptr 0 0), (7, .int .i64 7)]⟩ ⟨[[.int .i64 0, .nilsl, .int .i64 0, .int .i64 0, .nilsl]], []⟩ ?_ ?_
  ·exact kE ⟨[0], 3, [], 0⟩
  refine b_ret ?_
  obtain rfl := Option.some.inj h
  exact rtn ⟨[], 1, [], 0⟩ (.inr rfl)
 replace h := ite_f hb h
 refine b_skip ?_
 refine b_seq ?_
 refine b_seq ?_
 obtain ⟨r5, hr5, h⟩ := bindE h
 refine reg ⟨56, [(0, .str a0), (6, .ptr 0 0), (8, .ptr 1 0), (13, .ptr 2 0), (14, .str r5.1), (15, .int .i64 r5.2)]⟩ ⟨[[.int .i64 0, .nilsl, .int .i64 0, .int .i64 0, .nilsl], [.int .i64 0, .nilsl, .int .i64 0, .int .i64 0, .nilsl], [.int .i64 r4.1.f_Anchor, .sl 1 (List.map (cI .i64) r4.1.f_Path) .none, .int .i64 r4.1.f_Result.f_Check, .int .i64 r4.1.f_Result.f_Position, .sl 1 (List.map cS r4.1.f_Result.f_Policies) .none]], []⟩ ?_ ?_
 ·refine kC 2 ⟨[], 3, [], 0⟩ (go_wire_EncodeFound_ok hr5) ?_
  exact kE ⟨[0, 1, 2], 3, [], 0⟩
 refine b_seq ?_
 obtain ⟨y7, hE, h⟩ := bindE h
 refine reg ⟨56, [(6, .ptr 0 0), (8, .ptr 1 0), (13, .ptr 2 0), (53, .bool y7)]⟩ ⟨[[.int .i64 0, .nilsl, .int .i64 0, .int .i64 0, .nilsl], [.int .i64 0, .nilsl, .int .i64 0, .int .i64 0, .nilsl], [.int .i64 r4.1.f_Anchor, .sl 1 (List.map (cI .i64) r4.1.f_Path) .none, .int .i64 r4.1.f_Result.f_Check, .int .i64 r4.1.f_Result.f_Position, .sl 1 (List.map cS r4.1.f_Result.f_Policies) .none]], []⟩ ?_ ?_
 ·replace h := hE
  refine kG 3 49 (r5.2 != 0) (fun hb => ?_) (fun hb => ?_)
  ·have h := ite_t hb h
   obtain rfl := Option.some.inj h
   exact kE ⟨[0, 1, 2], 3, [], 0⟩
  have h := ite_f hb h
  obtain rfl := Option.some.inj h
  exact kE ⟨[0, 1, 2], 3, [], 0⟩
 refine bif_ (y7) (fun hb => ?_) (fun hb => ?_)
 ·replace h := ite_t hb h
  refine b_seq ?_
  refine reg ⟨56, [(6, .ptr 0 0), (7, .int .i64 7)]⟩ ⟨[[.int .i64 0, .nilsl, .int .i64 0, .int .i64 0, .nilsl]], []⟩ ?_ ?_
  ·exact kE ⟨[0], 3, [], 0⟩
  refine b_ret ?_
  obtain rfl := Option.some.inj h
  exact rtn ⟨[], 1, [], 0⟩ (.inr rfl)
 replace h := ite_f hb h
 refine b_skip ?_
 refine b_seq ?_
 refine reg ⟨56, [(6, .ptr 0 0), (7, .int .i64 0)]⟩ ⟨[[.int .i64 r4.1.f_Anchor, .sl 1 (List.map (cI .i64) r4.1.f_Path) .none, .int .i64 r4.1.f_Result.f_Check, .int .i64 r4.1.f_Result.f_Position, .sl 1 (List.map cS r4.1.f_Result.f_Policies) .none]], []⟩ ?_ ?_
 ·exact kE ⟨[0], 3, [], 0⟩
 refine b_ret ?_
 obtain rfl := Option.some.inj h
 exact rtn ⟨[], 1, [], 0⟩ (.inr rfl)
def go_wire_DecodeFound (n : Nat) (a0 : (List UInt8)) : Option (T_api_Found × Int) :=
 (go_wire_decode_api_Found n a0).bind fun r1 =>
 some ((T_api_Found.mk r1.1.f_Anchor r1.1.f_Path (T_api_Result.mk r1.1.f_Result.f_Check r1.1.f_Result.f_Position r1.1.f_Result.f_Policies)), r1.2)
theorem go_wire_DecodeFound_ok {n : Nat} {a0 : (List UInt8)} {r : (T_api_Found × Int)} (h : go_wire_DecodeFound n a0 = some r) : ACalls Tryz.prog (gl0 mx) 25 [.str a0] ⟨[], []⟩ (Out (.tuple [.agg [.int .i64 r.1.f_Anchor, .sl 1 (List.map (cI .i64) r.1.f_Path) .none, .int .i64 r.1.f_Result.f_Check, .int .i64 r.1.f_Result.f_Position, .sl 1 (List.map cS r.1.f_Result.f_Policies) .none], .int .i64 r.2]) ⟨[], []⟩) := by
 delta go_wire_DecodeFound at h
 refine fnc Tryz.func25 rfl ?_
 refine b_seq ?_
 refine reg ⟨8, [(0, .str a0), (2, .ptr 0 0)]⟩ ⟨[[.int .i64 0, .nilsl, .int .i64 0, .int .i64 0, .nilsl]], []⟩ ?_ ?_
 ·exact kE ⟨[0], 1, [], 0⟩
 refine b_seq ?_
 obtain ⟨r1, hr1, h⟩ := bindE h
 refine reg ⟨8, [(2, .ptr 0 0), (3, .int .i64 r1.2)]⟩ ⟨[[.int .i64 r1.1.f_Anchor, .sl 1 (List.map (cI .i64) r1.1.f_Path) .none, .int .i64 r1.1.f_Result.f_Check, .int .i64 r1.1.f_Result.f_Position, .sl 1 (List.map cS r1.1.f_Result.f_Policies) .none]], []⟩ ?_ ?_
 ·refine kC 1 ⟨[], 1, [], 0⟩ (go_wire_decode_api_Found_ok hr1) ?_
  exact kE ⟨[0], 1, [], 0⟩
 refine b_ret ?_
 obtain rfl := Option.some.inj h
 exact rtn ⟨[], 1, [], 0⟩ (.inr rfl)
def go_certpathlaw37_awake (n : Nat) : Option Bool :=
 (go_wire_EncodeQuery n (T_api_Query.mk 0 ([] : List UInt8) 0 ([] : (List (List UInt8))) false false false ([] : (List T_api_GeneralName)) 1 false ([] : (List T_api_Anchor)))).bind fun r1 =>
 (go_wire_DecodeQuery n r1.1).bind fun r2 =>
 (go_wire_EncodeAnchors n ([] : (List T_api_Anchor))).bind fun r3 =>
 (go_wire_EncodeFound n (T_api_Found.mk 0 ([2] : List Int) (T_api_Result.mk 0 0 ([] : (List (List UInt8)))))).bind fun r4 =>
 (go_wire_DecodeFound n r4.1).bind fun r5 =>
 (if (r1.2 == 0) = true then (if (r2.2 == 0) = true then (if (r3.2 == 0) = true then (if (r4.2 == 0) = true then (if (r5.2 == 0) = true then (if (r1.1 == ([48, 18, 23, 13, 53, 48, 48, 49, 48, 49, 48, 48, 48, 48, 48, 48, 90, 2, 1, 1] : List UInt8)) = true then (if (r2.1.f_MaxLength == 1) = true then (if (r3.1 == ([48, 0] : List UInt8)) = true then (some ((List.length r5.1.f_Path : Int) == 1)) else (some false)) else (some false)) else (some false)) else (some false)) else (some false)) else (some false)) else (some false)) else (some false)).bind fun y7 =>
 some y7
theorem go_certpathlaw37_awake_ok {n : Nat} {r : Bool} (h : go_certpathlaw37_awake n  = some r) : ACalls Tryz.prog (gl0 mx) 11 [] ⟨[], []⟩ (Out (.bool r) ⟨[], []⟩) := by
 delta go_certpathlaw37_awake at h
 refine fnc Tryz.func11 rfl ?_
 refine b_seq ?_
 refine reg ⟨75, []⟩ ⟨[], []⟩ ?_ ?_
 ·exact kE ⟨[], 0, [], 0⟩
 refine b_seq ?_
 refine reg ⟨75, [(1, .ptr 0 0)]⟩ ⟨[[.int .i64 0, .str ([] : List UInt8), .int .i64 0, .nilsl, .bool false, .bool false, .bool false, .nilsl, .int .i64 1, .bool false, .nilsl]], []⟩ ?_ ?_
 ·exact kE ⟨[0], 1, [], 0⟩
 refine b_seq ?_
 obtain ⟨r1, hr1, h⟩ := bindE h
 refine reg ⟨75, [(2, .str r1.1), (3, .int .i64 r1.2)]⟩ ⟨[], []⟩ ?_ ?_
 ·refine kC 1 ⟨[], 1, [], 0⟩ (go_wire_EncodeQuery_ok hr1) ?_
  exact kE ⟨[], 1, [], 0⟩
 refine b_seq ?_
 obtain ⟨r2, hr2, h⟩ := bindE h
 refine reg ⟨75, [(2, .str r1.1), (3, .int .i64 r1.2), (4, .ptr 0 0), (5, .int .i64 r2.2)]⟩ ⟨[[.int .i64 r2.1.f_Time, .str r2.1.f_Purpose, .int .i64 r2.1.f_Usage, .sl 1 (List.map cS r2.1.f_Policies) .none, .bool r2.1.f_Explicit, .bool r2.1.f_NoMapping, .bool r2.1.f_NoAny, .sl 3 (List.map T_api_GeneralName.cells r2.1.f_Names) .none, .int .i64 r2.1.f_MaxLength, .bool r2.1.f_Status, .sl 4 (List.map T_api_Anchor.cells r2.1.f_Issuers) .none]], []⟩ ?_ ?_
 ·refine kC 1 ⟨[], 0, [], 0⟩ (go_wire_DecodeQuery_ok hr2) ?_
  exact kE ⟨[0], 1, [], 0⟩
 refine b_seq ?_
 obtain ⟨r3, hr3, h⟩ := bindE h
 refine reg ⟨75, [(2, .str r1.1), (3, .int .i64 r1.2), (4, .ptr 0 0), (5, .int .i64 r2.2), (6, .str r3.1), (7, .int .i64 r3.2)]⟩ ⟨[[.int .i64 r2.1.f_Time, .str r2.1.f_Purpose, .int .i64 r2.1.f_Usage, .sl 1 (List.map cS r2.1.f_Policies) .none, .bool r2.1.f_Explicit, .bool r2.1.f_NoMapping, .bool r2.1.f_NoAny, .sl 3 (List.map T_api_GeneralName.cells r2.1.f_Names) .none, .int .i64 r2.1.f_MaxLength, .bool r2.1.f_Status, .sl 4 (List.map T_api_Anchor.cells r2.1.f_Issuers) .none]], []⟩ ?_ ?_
 ·refine kC 0 ⟨[], 1, [], 0⟩ (go_wire_EncodeAnchors_ok hr3) ?_
  exact kE ⟨[0], 1, [], 0⟩
 refine b_seq ?_
 obtain ⟨r4, hr4, h⟩ := bindE h
 refine reg ⟨75, [(2, .str r1.1), (3, .int .i64 r1.2), (4, .ptr 0 0), (5, .int .i64 r2.2), (6, .str r3.1), (7, .int .i64 r3.2), (8, .str r4.1), (9, .int .i64 r4.2)]⟩ ⟨[[.int .i64 r2.1.f_Time, .str r2.1.f_Purpose, .int .i64 r2.1.f_Usage, .sl 1 (List.map cS r2.1.f_Policies) .none, .bool r2.1.f_Explicit, .bool r2.1.f_NoMapping, .bool r2.1.f_NoAny, .sl 3 (List.map T_api_GeneralName.cells r2.1.f_Names) .none, .int .i64 r2.1.f_MaxLength, .bool r2.1.f_Status, .sl 4 (List.map T_api_Anchor.cells r2.1.f_Issuers) .none]], []⟩ ?_ ?_
 ·refine kC 2 ⟨[], 1, [], 0⟩ (go_wire_EncodeFound_ok hr4) ?_
  exact kE ⟨[0], 1, [], 0⟩
 refine b_seq ?_
 obtain ⟨r5, hr5, h⟩ := bindE h
 refine reg ⟨75, [(2, .str r1.1), (3, .int .i64 r1.2), (4, .ptr 0 0), (5, .int .i64 r2.2), (6, .str r3.1), (7, .int .i64 r3.2), (9, .int .i64 r4.2), (10, .ptr 1 0), (11, .int .i64 r5.2)]⟩ ⟨[[.int .i64 r2.1.f_Time, .str r2.1.f_Purpose, .int .i64 r2.1.f_Usage, .sl 1 (List.map cS r2.1.f_Policies) .none, .bool r2.1.f_Explicit, .bool r2.1.f_NoMapping, .bool r2.1.f_NoAny, .sl 3 (List.map T_api_GeneralName.cells r2.1.f_Names) .none, .int .i64 r2.1.f_MaxLength, .bool r2.1.f_Status, .sl 4 (List.map T_api_Anchor.cells r2.1.f_Issuers) .none], [.int .i64 r5.1.f_Anchor, .sl 1 (List.map (cI .i64) r5.1.f_Path) .none, .int .i64 r5.1.f_Result.f_Check, .int .i64 r5.1.f_Result.f_Position, .sl 1 (List.map cS r5.1.f_Result.f_Policies) .none]], []⟩ ?_ ?_
 ·refine kC 1 ⟨[], 1, [], 0⟩ (go_wire_DecodeFound_ok hr5) ?_
  exact kE ⟨[0, 1], 2, [], 0⟩
 refine b_seq ?_
 obtain ⟨y7, hE, h⟩ := bindE h
 refine reg ⟨75, [(0, .bool y7)]⟩ ⟨[], []⟩ ?_ ?_
 ·replace h := hE
  refine kG 3 40 (r1.2 == 0) (fun hb => ?_) (fun hb => ?_)
  ·have h := ite_t hb h
   refine kG 7 44 (r2.2 == 0) (fun hb => ?_) (fun hb => ?_)
   ·have h := ite_t hb h
    refine kG 11 48 (r3.2 == 0) (fun hb => ?_) (fun hb => ?_)
    ·have h := ite_t hb h
     refine kG 15 52 (r4.2 == 0) (fun hb => ?_) (fun hb => ?_)
     ·have h := ite_t hb h
      refine kG 19 56 (r5.2 == 0) (fun hb => ?_) (fun hb => ?_)
      ·have h := ite_t hb h
       refine kG 23 60 (r1.1 == ([48, 18, 23, 13, 53, 48, 48, 49, 48, 49, 48, 48, 48, 48, 48, 48, 90, 2, 1, 1] : List UInt8)) (fun hb => ?_) (fun hb => ?_)
       ·have h := ite_t hb h
        refine kG 28 65 (r2.1.f_MaxLength == 1) (fun hb => ?_) (fun hb => ?_)
        ·have h := ite_t hb h
         refine kG 32 69 (r3.1 == ([48, 0] : List UInt8)) (fun hb => ?_) (fun hb => ?_)
         ·have h := ite_t hb h
          refine kP 34 (x_len (c := (cI .i64)) (l := r5.1.f_Path) (e := 3) (sz := 1) (sz' := 1) (b := 8) (tok := .none)) ?_
          obtain rfl := Option.some.inj h
          exact kE ⟨[], 2, [], 0⟩
         have h := ite_f hb h
         obtain rfl := Option.some.inj h
         exact kE ⟨[], 2, [], 0⟩
        have h := ite_f hb h
        obtain rfl := Option.some.inj h
        exact kE ⟨[], 2, [], 0⟩
       have h := ite_f hb h
       obtain rfl := Option.some.inj h
       exact kE ⟨[], 2, [], 0⟩
      have h := ite_f hb h
      obtain rfl := Option.some.inj h
      exact kE ⟨[], 2, [], 0⟩
     have h := ite_f hb h
     obtain rfl := Option.some.inj h
     exact kE ⟨[], 2, [], 0⟩
    have h := ite_f hb h
    obtain rfl := Option.some.inj h
    exact kE ⟨[], 2, [], 0⟩
   have h := ite_f hb h
   obtain rfl := Option.some.inj h
   exact kE ⟨[], 2, [], 0⟩
  have h := ite_f hb h
  obtain rfl := Option.some.inj h
  exact kE ⟨[], 2, [], 0⟩
 refine b_ret ?_
 obtain rfl := Option.some.inj h
 exact rtn ⟨[], 0, [], 0⟩ (.inr rfl)
end Go.Abs
end
