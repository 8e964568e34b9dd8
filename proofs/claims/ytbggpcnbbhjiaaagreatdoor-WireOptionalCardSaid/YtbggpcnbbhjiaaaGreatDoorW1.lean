/- For each Go function: if its typed Lean form gives some result, the call returns that result (printed by a program of this hand). Condition: the typed form gives some result. -/
import Derived.Test.YtbggpcnbbhjiaaaGreatDoorT3
set_option linter.unusedVariables false
set_option linter.unusedSimpArgs false
set_option linter.unnecessarySimpa false
section
set_option maxRecDepth 100000
set_option maxHeartbeats 0
namespace Go.Abs
open Go Go.Proofs
variable {mx : Int}
def go_certpathmade_New (n : Nat) (a0 : (List Int)) : Option T_certpathmade_Deck :=
 some (T_certpathmade_Deck.mk a0 0)
theorem go_certpathmade_New_ok {n : Nat} {a0 : (List Int)} {r : T_certpathmade_Deck} (h : go_certpathmade_New n a0 = some r) : ACalls Tryz.prog (gl0 mx) 13 [.sl 1 (List.map (cI .i64) a0) .none] ⟨[], []⟩ (Out (.ptr 0 0) ⟨[[.sl 1 (List.map (cI .i64) r.f_L) .none, .int .i64 r.f_At]], []⟩) := by
 delta go_certpathmade_New at h
 refine fnc Tryz.func13 rfl ?_
 refine b_seq ?_
 refine reg ⟨6, [(0, .sl 1 (List.map (cI .i64) a0) .none)]⟩ ⟨[], []⟩ ?_ ?_
 ·exact kE ⟨[], 0, [], 0⟩
 refine b_seq ?_
 refine reg ⟨6, [(2, .ptr 0 0)]⟩ ⟨[[.sl 1 (List.map (cI .i64) a0) .none, .int .i64 0]], []⟩ ?_ ?_
 ·exact kE ⟨[0], 1, [], 0⟩
 refine b_ret ?_
 obtain rfl := Option.some.inj h
 exact rtn ⟨[0], 1, [], 0⟩ (.inr rfl)
def go_certpathmade_Deck_Next (n : Nat) (a1 : Int) (m0 : T_certpathmade_Deck) : Option (Int × T_certpathmade_Deck) :=
 if (decide (m0.f_At ≥ (List.length m0.f_L : Int))) = true then (some (0, m0)) else ((lidx m0.f_L (IntKind.wrap .i64 ((IntKind.wrap .i64 (m0.f_At + 1)) - 1))).bind fun x1 =>
 (irem x1 a1).bind fun x2 =>
 (irem (IntKind.wrap .i64 (x2 + a1)) a1).bind fun x3 =>
 some (x3, (T_certpathmade_Deck.mk m0.f_L (IntKind.wrap .i64 (m0.f_At + 1)))))
theorem go_certpathmade_Deck_Next_ok {n : Nat} {a1 : Int} {m0 : T_certpathmade_Deck} {r : (Int × T_certpathmade_Deck)} (h : go_certpathmade_Deck_Next n a1 m0 = some r) : ACalls Tryz.prog (gl0 mx) 29 [.ptr 0 0, .int .i64 a1] ⟨[[.sl 1 (List.map (cI .i64) m0.f_L) .none, .int .i64 m0.f_At]], []⟩ (Out (.int .i64 r.1) ⟨[[.sl 1 (List.map (cI .i64) r.2.f_L) .none, .int .i64 r.2.f_At]], []⟩) := by
 delta go_certpathmade_Deck_Next at h
 refine fnc Tryz.func29 rfl ?_
 refine b_seq ?_
 refine reg ⟨39, [(0, .ptr 0 0), (1, .int .i64 a1)]⟩ ⟨[[.sl 1 (List.map (cI .i64) m0.f_L) .none, .int .i64 m0.f_At]], []⟩ ?_ ?_
 ·exact kE ⟨[0], 1, [], 0⟩
 refine b_seq ?_
 refine b_seq ?_
 refine drw [0, 1, 2, 3, 4, 5, 6, 7, 8, 9] [] [[], [0], [0, 1], [0, 1, 2], [], [4], [4, 5], [4, 5, 6], [4, 5, 6, 7], [0, 1, 2, 3, 4, 5, 6, 7, 8]] ⟨39, [(0, .ptr 0 0), (1, .int .i64 a1), (14, .bool (decide (m0.f_At ≥ (List.length m0.f_L : Int))))]⟩ ⟨[[.sl 1 (List.map (cI .i64) m0.f_L) .none, .int .i64 m0.f_At]], []⟩ ?_ ?_
 ·refine dS [0, 1, 2, 3, 4, 5, 6, 7] ?_
  refine dP (x_len (c := (cI .i64)) (l := m0.f_L) (e := 3) (sz := 1) (sz' := 1) (b := 8) (tok := .none)) ?_
  refine dS [9] ?_
  exact dE ⟨[0], 1, [], 0⟩
 refine bif_ (decide (m0.f_At ≥ (List.length m0.f_L : Int))) (fun hb => ?_) (fun hb => ?_)
 ·replace h := ite_t hb h
  refine b_seq ?_
  refine reg ⟨39, [(4, .int .i64 0)]⟩ ⟨[[.sl 1 (List.map (cI .i64) m0.f_L) .none, .int .i64 m0.f_At]], []⟩ ?_ ?_
  ·exact kE ⟨[0], 1, [], 0⟩
  refine b_ret ?_
  obtain rfl := Option.some.inj h
  exact rtn ⟨[0], 1, [], 0⟩ (.inr rfl)
 replace h := ite_f hb h
 refine b_skip ?_
 refine b_seq ?_
 refine reg ⟨39, [(0, .ptr 0 0), (1, .int .i64 a1)]⟩ ⟨[[.sl 1 (List.map (cI .i64) m0.f_L) .none, .int .i64 (IntKind.wrap .i64 (m0.f_At + 1))]], []⟩ ?_ ?_
 ·exact kE ⟨[0], 1, [], 0⟩
 refine b_seq ?_
 obtain ⟨x1, hx1, h⟩ := bindE h
 obtain ⟨x2, hx2, h⟩ := bindE h
 obtain ⟨x3, hx3, h⟩ := bindE h
 refine drw [0, 1, 2, 3, 4, 5, 6, 7, 8, 9, 10, 11, 12, 13, 14, 15, 16, 17] [] [[], [0], [0, 1], [0, 1, 2], [], [4], [4, 5], [4, 5, 6], [4, 5, 6, 7], [0, 1, 2, 3, 4, 5, 6, 7, 8], [0, 1, 2, 3, 4, 5, 6, 7, 8, 9], [], [0, 1, 2, 3, 4, 5, 6, 7, 8, 9, 10, 11], [], [0, 1, 2, 3, 4, 5, 6, 7, 8, 9, 10, 11, 12, 13], [], [0, 1, 2, 3, 4, 5, 6, 7, 8, 9, 10, 11, 12, 13, 14, 15], [0, 1, 2, 3, 4, 5, 6, 7, 8, 9, 10, 11, 12, 13, 14, 15, 16]] ⟨39, [(4, .int .i64 x3)]⟩ ⟨[[.sl 1 (List.map (cI .i64) m0.f_L) .none, .int .i64 (IntKind.wrap .i64 (m0.f_At + 1))]], []⟩ ?_ ?_
 ·refine dS [0, 1, 2, 3, 4, 5, 6, 7, 8] ?_
  refine dP (x_lidx (c := (cI .i64)) (e := 3) (sz := 1) (b := 8) (tok := .none) hx1) ?_
  refine dS [10, 11] ?_
  refine dP (x_irem (k := .i64) (d := (tyT 3).d) hx2) ?_
  refine dS [13, 14, 15] ?_
  refine dP (x_irem (k := .i64) (d := (tyT 3).d) hx3) ?_
  refine dS [17] ?_
  exact dE ⟨[0], 1, [], 0⟩
 refine b_ret ?_
 obtain rfl := Option.some.inj h
 exact rtn ⟨[0], 1, [], 0⟩ (.inr rfl)
def go_certpathmade_Time (n : Nat) (m0 : T_certpathmade_Deck) : Option (Int × T_certpathmade_Deck) :=
 (go_certpathmade_Deck_Next n 7 m0).bind fun r1 =>
 (lidx ([0, 1000, 2000000000, 3155759999, 3155760000, 254033452799, 2400000000] : List Int) r1.1).bind fun x2 =>
 some (x2, r1.2)
theorem go_certpathmade_Time_ok {n : Nat} {m0 : T_certpathmade_Deck} {r : (Int × T_certpathmade_Deck)} (h : go_certpathmade_Time n m0 = some r) : ACalls Tryz.prog (gl0 mx) 28 [.ptr 0 0] ⟨[[.sl 1 (List.map (cI .i64) m0.f_L) .none, .int .i64 m0.f_At]], []⟩ (Out (.int .i64 r.1) ⟨[[.sl 1 (List.map (cI .i64) r.2.f_L) .none, .int .i64 r.2.f_At]], []⟩) := by
 delta go_certpathmade_Time at h
 refine fnc Tryz.func28 rfl ?_
 refine b_seq ?_
 refine reg ⟨8, [(0, .ptr 0 0)]⟩ ⟨[[.sl 1 (List.map (cI .i64) m0.f_L) .none, .int .i64 m0.f_At]], []⟩ ?_ ?_
 ·exact kE ⟨[0], 1, [], 0⟩
 refine b_seq ?_
 obtain ⟨r1, hr1, h⟩ := bindE h
 obtain ⟨x2, hx2, h⟩ := bindE h
 refine reg ⟨8, [(2, .int .i64 x2)]⟩ ⟨[[.sl 1 (List.map (cI .i64) r1.2.f_L) .none, .int .i64 r1.2.f_At]], []⟩ ?_ ?_
 ·refine kC 2 ⟨[0], 1, [], 0⟩ (go_certpathmade_Deck_Next_ok hr1) ?_
  refine kP 3 (x_lidx (c := (cI .i64)) (e := 3) (sz := 1) (b := 8) (tok := .exact) hx2) ?_
  exact kE ⟨[0], 1, [], 0⟩
 refine b_ret ?_
 obtain rfl := Option.some.inj h
 exact rtn ⟨[0], 1, [], 0⟩ (.inr rfl)
def go_unicode_utf8_RuneCountInString_l1 (n : Nat) (a0 : (List UInt8)) : Nat → Int → Nat → Option Int
 | 0, _, _ => none
 | k + 1, v6, v7 =>
  if (Nat.blt v7 (List.length a0)) = true then (go_unicode_utf8_RuneCountInString_l1 n a0 k (IntKind.wrap .i64 (v6 + 1)) (v7 + (udec a0 v7).2)) else (some v6)
def go_unicode_utf8_RuneCountInString (n : Nat) (a0 : (List UInt8)) : Option Int :=
 (go_unicode_utf8_RuneCountInString_l1 n a0 n 0 0).bind fun y4 =>
 some y4
theorem go_unicode_utf8_RuneCountInString_ok {n : Nat} {a0 : (List UInt8)} {r : Int} (h : go_unicode_utf8_RuneCountInString n a0 = some r) : ACalls Tryz.prog (gl0 mx) 280 [.str a0] ⟨[], []⟩ (Out (.int .i64 r) ⟨[], []⟩) := by
 delta go_unicode_utf8_RuneCountInString at h
 refine fnc Tryz.func280 rfl ?_
 refine b_seq ?_
 refine reg ⟨10, [(0, .str a0), (2, .int .i64 0)]⟩ ⟨[], []⟩ ?_ ?_
 ·exact kE ⟨[], 0, [], 0⟩
 refine b_seq ?_
 refine b_seq ?_
 refine reg ⟨10, [(2, .int .i64 0), (4, .iter 0)]⟩ ⟨[[.sit a0 0]], []⟩ ?_ ?_
 ·exact kE ⟨[0], 1, [], 0⟩
 obtain ⟨y4, hE, h⟩ := bindE h
 refine b_blockE (Y := Int) (fun y4 => ⟨10, [(2, .int .i64 y4)]⟩) (fun y4 => ⟨[], []⟩) (fun z => y4 = z) ?_ cl_cons (fun z hz => ?_)
 ·replace h := hE
  refine b_loop (X := (Int × Nat)) (fun x => ⟨10, [(2, .int .i64 x.1), (4, .iter 0)]⟩) (fun x => ⟨[[.sit a0 x.2]], []⟩) (fun k x => go_unicode_utf8_RuneCountInString_l1 n a0 k x.1 x.2 = some y4) (fun _ hx => by simp [go_unicode_utf8_RuneCountInString_l1] at hx) n (0, 0) h (wk ⟨[0], 1, [], 0⟩) (fun k x h => ?_)
  obtain ⟨v6, v7⟩ := x
  rw [go_unicode_utf8_RuneCountInString_l1] at h
  refine b_seq ?_
  refine b_regK ?_
  refine kIf (Nat.blt v7 (List.length a0)) (fun hb => ?_) (fun hb => ?_)
  ·have h := ite_t hb h
   refine kV 0 1 0 0 (x_next_t hb) ?_
   refine c_endT (⟨10, [(2, .int .i64 v6), (4, .iter 0), (6, .bool true)]⟩) (⟨[[.sit a0 (v7 + (udec a0 v7).2)]], []⟩) cl_cons (kE ⟨[0], 1, [], 0⟩) ?_
   refine b_seq ?_
   refine bif_ true (fun _ => ?_) (fun hb => Bool.noConfusion hb)
   refine b_skip ?_
   refine b_block ?_
   refine c_reg ⟨10, [(2, .int .i64 (IntKind.wrap .i64 (v6 + 1))), (4, .iter 0)]⟩ ⟨[[.sit a0 (v7 + (udec a0 v7).2)]], []⟩ (cl_nil (cl_nil (P := Tryz.prog) (gl := gl0 mx) cl_loopT)) ?_ ?_
   ·exact kE ⟨[0], 1, [], 0⟩
   refine bk_norm ?_
   exact ⟨(IntKind.wrap .i64 (v6 + 1), v7 + (udec a0 v7).2), h, wk ⟨[0], 1, [], 0⟩⟩
  have h := ite_f hb h
  refine kV 0 1 0 0 (x_next_f hb) ?_
  refine c_endT (⟨10, [(2, .int .i64 v6), (4, .iter 0), (6, .bool false)]⟩) (⟨[[.sit a0 v7]], []⟩) cl_cons (kE ⟨[0], 1, [], 0⟩) ?_
  refine b_seq ?_
  refine bif_ false (fun hb => Bool.noConfusion hb) (fun _ => ?_)
  refine b_exit ?_
  refine tk_exit ?_
  refine bl_exit ?_
  exact ⟨v6, (Option.some.inj h).symm, wk ⟨[], 1, [], 0⟩⟩
 subst hz
 refine b_seq ?_
 refine reg ⟨10, [(2, .int .i64 y4)]⟩ ⟨[], []⟩ ?_ ?_
 ·exact kE ⟨[], 0, [], 0⟩
 refine b_ret ?_
 obtain rfl := Option.some.inj h
 exact rtn ⟨[], 0, [], 0⟩ (.inr rfl)
def go_unicode_utf8_decodeRuneInStringSlow (n : Nat) (a0 : (List UInt8)) : Option (Int × Int) :=
 if (decide ((List.length a0 : Int) < 1)) = true then (some (65533, 0)) else (none)
theorem go_unicode_utf8_decodeRuneInStringSlow_ok {n : Nat} {a0 : (List UInt8)} {r : (Int × Int)} (h : go_unicode_utf8_decodeRuneInStringSlow n a0 = some r) : ACalls Tryz.prog (gl0 mx) 295 [.str a0] ⟨[], []⟩ (Out (.tuple [.int .i32 r.1, .int .i64 r.2]) ⟨[], []⟩) := by
 delta go_unicode_utf8_decodeRuneInStringSlow at h
 refine fnc Tryz.func295 rfl ?_
 refine b_seq ?_
 refine reg ⟨117, [(0, .str a0)]⟩ ⟨[], []⟩ ?_ ?_
 ·exact kE ⟨[], 0, [], 0⟩
 refine b_seq ?_
 refine reg ⟨117, [(0, .str a0), (4, .int .i64 (List.length a0 : Int))]⟩ ⟨[], []⟩ ?_ ?_
 ·exact kE ⟨[], 0, [], 0⟩
 refine b_seq ?_
 refine b_seq ?_
 refine reg ⟨117, [(0, .str a0), (4, .int .i64 (List.length a0 : Int)), (16, .bool (decide ((List.length a0 : Int) < 1)))]⟩ ⟨[], []⟩ ?_ ?_
 ·exact kE ⟨[], 0, [], 0⟩
 refine bif_ (decide ((List.length a0 : Int) < 1)) (fun hb => ?_) (fun hb => ?_)
 ·replace h := ite_t hb h
  refine b_seq ?_
  refine reg ⟨117, [(2, .int .i32 65533), (3, .int .i64 0)]⟩ ⟨[], []⟩ ?_ ?_
  ·exact kE ⟨[], 0, [], 0⟩
  refine b_ret ?_
  obtain rfl := Option.some.inj h
  exact rtn ⟨[], 0, [], 0⟩ (.inr rfl)
 replace h := ite_f hb h
 cases h
def go_unicode_utf8_DecodeRuneInString (n : Nat) (a0 : (List UInt8)) : Option (Int × Int) :=
 (if (!(a0 == ([] : List UInt8))) = true then ((bidx a0 0).bind fun x1 =>
 some (decide (x1 < 128))) else (some false)).bind fun y3 =>
 if y3 = true then ((bidx a0 0).bind fun x4 =>
 some (IntKind.wrap .i32 x4, 1)) else ((go_unicode_utf8_decodeRuneInStringSlow n a0).bind fun r5 =>
 some (r5.1, r5.2))
theorem go_unicode_utf8_DecodeRuneInString_ok {n : Nat} {a0 : (List UInt8)} {r : (Int × Int)} (h : go_unicode_utf8_DecodeRuneInString n a0 = some r) : ACalls Tryz.prog (gl0 mx) 281 [.str a0] ⟨[], []⟩ (Out (.tuple [.int .i32 r.1, .int .i64 r.2]) ⟨[], []⟩) := by
 delta go_unicode_utf8_DecodeRuneInString at h
 refine fnc Tryz.func281 rfl ?_
 refine b_seq ?_
 refine reg ⟨19, [(0, .str a0)]⟩ ⟨[], []⟩ ?_ ?_
 ·exact kE ⟨[], 0, [], 0⟩
 refine b_seq ?_
 refine b_seq ?_
 obtain ⟨y3, hE, h⟩ := bindE h
 refine reg ⟨19, [(0, .str a0), (10, .bool y3)]⟩ ⟨[], []⟩ ?_ ?_
 ·replace h := hE
  refine kG 3 6 (!(a0 == ([] : List UInt8))) (fun hb => ?_) (fun hb => ?_)
  ·have h := ite_t hb h
   obtain ⟨x1, hx1, h⟩ := bindE h
   refine kP 4 (x_bidx hx1) ?_
   obtain rfl := Option.some.inj h
   exact kE ⟨[], 0, [], 0⟩
  have h := ite_f hb h
  obtain rfl := Option.some.inj h
  exact kE ⟨[], 0, [], 0⟩
 refine bif_ (y3) (fun hb => ?_) (fun hb => ?_)
 ·replace h := ite_t hb h
  refine b_seq ?_
  obtain ⟨x4, hx4, h⟩ := bindE h
  refine reg ⟨19, [(2, .int .i32 (IntKind.wrap .i32 x4)), (3, .int .i64 1)]⟩ ⟨[], []⟩ ?_ ?_
  ·refine kP 1 (x_bidx hx4) ?_
   exact kE ⟨[], 0, [], 0⟩
  refine b_ret ?_
  obtain rfl := Option.some.inj h
  exact rtn ⟨[], 0, [], 0⟩ (.inr rfl)
 replace h := ite_f hb h
 obtain ⟨r5, hr5, h⟩ := bindE h
 refine reg ⟨19, [(2, .int .i32 r5.1), (3, .int .i64 r5.2)]⟩ ⟨[], []⟩ ?_ ?_
 ·refine kC 1 ⟨[], 0, [], 0⟩ (go_unicode_utf8_decodeRuneInStringSlow_ok hr5) ?_
  exact kE ⟨[], 0, [], 0⟩
 refine b_ret ?_
 obtain rfl := Option.some.inj h
 exact rtn ⟨[], 0, [], 0⟩ (.inr rfl)
def go_strings_explode_l1 (n : Nat) (y5 : Int) (x7 : Nat) : Nat → (List UInt8) → Int → (List (List UInt8)) → Option ((List UInt8) × (List (List UInt8)))
 | 0, _, _, _ => none
 | k + 1, v55, v56, v57 =>
  if (decide (v56 < (IntKind.wrap .i64 (y5 - 1)))) = true then ((go_unicode_utf8_DecodeRuneInString n v55).bind fun r73 =>
  (ssl v55 0 r73.2).bind fun x74 =>
  (oidx x7 v56).bind fun x75 =>
  (lset v57 (x75 * 1) x74).bind fun x76 =>
  (ssl v55 r73.2 (List.length v55)).bind fun x77 =>
  go_strings_explode_l1 n y5 x7 k x77 (IntKind.wrap .i64 (v56 + 1)) x76) else (some (v55, v57))
def go_strings_explode (n : Nat) (a0 : (List UInt8)) (a1 : Int) : Option (List (List UInt8)) :=
 (go_unicode_utf8_RuneCountInString n a0).bind fun r1 =>
 (if (decide (a1 < 0)) = true then (some true) else (some (decide (a1 > r1)))).bind fun y3 =>
 (if y3 = true then (some r1) else (some a1)).bind fun y5 =>
 (omake 16 y5 y5).bind fun x7 =>
 (go_strings_explode_l1 n y5 x7 n a0 0 (List.replicate x7 (([] : List UInt8) : (List UInt8)))).bind fun y43 =>
 if (decide (y5 > 0)) = true then ((oidx x7 (IntKind.wrap .i64 (y5 - 1))).bind fun x78 =>
 (lset y43.2 (x78 * 1) y43.1).bind fun x79 =>
 (ofrz x7 x79).bind fun x80 =>
 some x80) else ((ofrz x7 y43.2).bind fun x81 =>
 some x81)
theorem go_strings_explode_ok {n : Nat} {a0 : (List UInt8)} {a1 : Int} {r : (List (List UInt8))} (h : go_strings_explode n a0 a1 = some r) : ACalls Tryz.prog (gl0 mx) 261 [.str a0, .int .i64 a1] ⟨[], []⟩ (Out (.sl 1 (List.map cS r) .none) ⟨[], []⟩) := by
 delta go_strings_explode at h
 refine fnc Tryz.func261 rfl ?_
 refine b_seq ?_
 refine reg ⟨50, [(0, .str a0), (1, .int .i64 a1)]⟩ ⟨[], []⟩ ?_ ?_
 ·exact kE ⟨[], 0, [], 0⟩
 refine b_seq ?_
 obtain ⟨r1, hr1, h⟩ := bindE h
 refine reg ⟨50, [(0, .str a0), (1, .int .i64 a1), (5, .int .i64 r1)]⟩ ⟨[], []⟩ ?_ ?_
 ·refine kC 1 ⟨[], 0, [], 0⟩ (go_unicode_utf8_RuneCountInString_ok hr1) ?_
  exact kE ⟨[], 0, [], 0⟩
 refine b_seq ?_
 refine b_seq ?_
 obtain ⟨y3, hE, h⟩ := bindE h
 refine reg ⟨50, [(0, .str a0), (1, .int .i64 a1), (5, .int .i64 r1), (18, .bool y3)]⟩ ⟨[], []⟩ ?_ ?_
 ·replace h := hE
  refine kG 3 14 (decide (a1 < 0)) (fun hb => ?_) (fun hb => ?_)
  ·have h := ite_t hb h
   obtain rfl := Option.some.inj h
   exact kE ⟨[], 0, [], 0⟩
  have h := ite_f hb h
  obtain rfl := Option.some.inj h
  exact kE ⟨[], 0, [], 0⟩
 obtain ⟨y5, hE, h⟩ := bindE h
 refine b_cutE (Y := Int) (fun y5 => ⟨50, [(0, .str a0), (1, .int .i64 y5)]⟩) (fun y5 => ⟨[], []⟩) (fun z => y5 = z) ?_ cl_cons (fun z hz => ?_)
 ·replace h := hE
  refine bif_ (y3) (fun hb => ?_) (fun hb => ?_)
  ·replace h := ite_t hb h
   refine regN ⟨50, [(0, .str a0), (1, .int .i64 r1)]⟩ ⟨[], []⟩ cl_loopT ?_ ?_
   ·exact kE ⟨[], 0, [], 0⟩
   exact ⟨r1, (Option.some.inj h).symm, wk ⟨[], 0, [], 0⟩⟩
  replace h := ite_f hb h
  refine b_skip ?_
  exact ⟨a1, (Option.some.inj h).symm, wk ⟨[], 0, [], 0⟩⟩
 subst hz
 refine b_seq ?_
 obtain ⟨x7, hx7, h⟩ := bindE h
 refine reg ⟨50, [(0, .str a0), (1, .int .i64 y5), (6, .own 0 x7 1)]⟩ ⟨[[.buf (List.map vS (List.replicate x7 (([] : List UInt8) : (List UInt8))))]], []⟩ ?_ ?_
 ·refine kV 1 0 0 0 (x_omake (T := tyT) (e := 9) (k1 := .i64) (k2 := .i64) (bytes := 16) (cell := none) (c := vS) uS ([] : List UInt8) ⟨by kernel_rfl, by kernel_rfl⟩ hx7) ?_
  exact kE ⟨[0], 1, [], 0⟩
 refine b_seq ?_
 refine b_seq ?_
 refine reg ⟨50, [(0, .str a0), (1, .int .i64 y5), (6, .own 0 x7 1), (7, .int .i64 0)]⟩ ⟨[[.buf (List.map vS (List.replicate x7 (([] : List UInt8) : (List UInt8))))]], []⟩ ?_ ?_
 ·exact kE ⟨[0], 1, [], 0⟩
 obtain ⟨y43, hE, h⟩ := bindE h
 refine b_blockE (Y := ((List UInt8) × (List (List UInt8)))) (fun y43 => ⟨50, [(0, .str y43.1), (1, .int .i64 y5), (6, .own 0 x7 1)]⟩) (fun y43 => ⟨[[.buf (List.map vS y43.2)]], []⟩) (fun z => y43 = z) ?_ cl_cons (fun z hz => ?_)
 ·replace h := hE
  refine b_loop (X := ((List UInt8) × Int × (List (List UInt8)))) (fun x => ⟨50, [(0, .str x.1), (1, .int .i64 y5), (6, .own 0 x7 1), (7, .int .i64 x.2.1)]⟩) (fun x => ⟨[[.buf (List.map vS x.2.2)]], []⟩) (fun k x => go_strings_explode_l1 n y5 x7 k x.1 x.2.1 x.2.2 = some y43) (fun _ hx => by simp [go_strings_explode_l1] at hx) n (a0, 0, List.replicate x7 (([] : List UInt8) : (List UInt8))) h (wk ⟨[0], 1, [], 0⟩) (fun k x h => ?_)
  obtain ⟨v55, v56, v57⟩ := x
  rw [go_strings_explode_l1] at h
  refine b_seq ?_
  refine b_seq ?_
  refine reg ⟨50, [(0, .str v55), (1, .int .i64 y5), (6, .own 0 x7 1), (7, .int .i64 v56), (25, .bool (decide (v56 < (IntKind.wrap .i64 (y5 - 1)))))]⟩ ⟨[[.buf (List.map vS v57)]], []⟩ ?_ ?_
  ·exact kE ⟨[0], 1, [], 0⟩
  refine bif_ (decide (v56 < (IntKind.wrap .i64 (y5 - 1)))) (fun hb => ?_) (fun hb => ?_)
  ·replace h := ite_t hb h
   refine b_skip ?_
   refine b_seq ?_
   refine b_block ?_
   refine b_seq ?_
   obtain ⟨r73, hr73, h⟩ := bindE h
   refine reg ⟨50, [(0, .str v55), (1, .int .i64 y5), (6, .own 0 x7 1), (7, .int .i64 v56), (9, .int .i64 r73.2)]⟩ ⟨[[.buf (List.map vS v57)]], []⟩ ?_ ?_
   ·refine kC 1 ⟨[], 1, [], 0⟩ (go_unicode_utf8_DecodeRuneInString_ok hr73) ?_
    exact kE ⟨[0], 1, [], 0⟩
   refine b_seq ?_
   obtain ⟨x74, hx74, h⟩ := bindE h
   obtain ⟨x75, hx75, h⟩ := bindE h
   obtain ⟨x76, hx76, h⟩ := bindE h
   refine reg ⟨50, [(0, .str v55), (1, .int .i64 y5), (6, .own 0 x7 1), (7, .int .i64 v56), (9, .int .i64 r73.2)]⟩ ⟨[[.buf (List.map vS x76)]], []⟩ ?_ ?_
   ·refine kP 4 (x_ssl_hi (k := .i64) hx74) ?_
    refine kP 5 (x_oidx (id := 0) (e := 9) (sz := 1) (b := 16) hx75) ?_
    refine kV 6 1 0 0 (x_ostore (T := tyT) (t := 9) (c := vS) (l := v57) (off := (x75 * 1)) (x := x74) uS (by kernel_rfl) hx76) ?_
    exact kE ⟨[0], 1, [], 0⟩
   obtain ⟨x77, hx77, h⟩ := bindE h
   refine regN ⟨50, [(0, .str x77), (1, .int .i64 y5), (6, .own 0 x7 1), (7, .int .i64 v56)]⟩ ⟨[[.buf (List.map vS x76)]], []⟩ cl_cons ?_ ?_
   ·refine kP 2 (x_ssl_lo (k := .i64) hx77) ?_
    exact kE ⟨[0], 1, [], 0⟩
   refine bk_norm ?_
   refine regN ⟨50, [(0, .str x77), (1, .int .i64 y5), (6, .own 0 x7 1), (7, .int .i64 (IntKind.wrap .i64 (v56 + 1)))]⟩ ⟨[[.buf (List.map vS x76)]], []⟩ cl_loopT ?_ ?_
   ·exact kE ⟨[0], 1, [], 0⟩
   exact ⟨(x77, IntKind.wrap .i64 (v56 + 1), x76), h, wk ⟨[0], 1, [], 0⟩⟩
  replace h := ite_f hb h
  refine b_exit ?_
  refine tk_exit ?_
  refine bl_exit ?_
  exact ⟨(v55, v57), (Option.some.inj h).symm, wk ⟨[0], 1, [], 0⟩⟩
 subst hz
 refine b_seq ?_
 refine b_seq ?_
 refine reg ⟨50, [(0, .str y43.1), (1, .int .i64 y5), (6, .own 0 x7 1), (43, .bool (decide (y5 > 0)))]⟩ ⟨[[.buf (List.map vS y43.2)]], []⟩ ?_ ?_
 ·exact kE ⟨[0], 1, [], 0⟩
 refine bif_ (decide (y5 > 0)) (fun hb => ?_) (fun hb => ?_)
 ·replace h := ite_t hb h
  obtain ⟨x78, hx78, h⟩ := bindE h
  obtain ⟨x79, hx79, h⟩ := bindE h
  refine reg ⟨50, [(6, .own 0 x7 1)]⟩ ⟨[[.buf (List.map vS x79)]], []⟩ ?_ ?_
  ·refine kP 4 (x_oidx (id := 0) (e := 9) (sz := 1) (b := 16) hx78) ?_
   refine kV 5 1 0 0 (x_ostore (T := tyT) (t := 9) (c := vS) (l := y43.2) (off := (x78 * 1)) (x := y43.1) uS (by kernel_rfl) hx79) ?_
   exact kE ⟨[0], 1, [], 0⟩
  refine b_seq ?_
  refine reg ⟨50, [(4, .own 0 x7 1)]⟩ ⟨[[.buf (List.map vS x79)]], []⟩ ?_ ?_
  ·exact kE ⟨[0], 1, [], 0⟩
  obtain ⟨x80, hx80, h⟩ := bindE h
  refine b_wk (Wk.frz (c := vS) (l := x79) 4 0 x7 hx80 (by kernel_rfl)) ?_
  refine b_ret ?_
  obtain rfl := Option.some.inj h
  exact rtn ⟨[], 1, [], 0⟩ (.inr rfl)
 replace h := ite_f hb h
 refine b_skip ?_
 refine b_seq ?_
 refine reg ⟨50, [(4, .own 0 x7 1)]⟩ ⟨[[.buf (List.map vS y43.2)]], []⟩ ?_ ?_
 ·exact kE ⟨[0], 1, [], 0⟩
 obtain ⟨x81, hx81, h⟩ := bindE h
 refine b_wk (Wk.frz (c := vS) (l := y43.2) 4 0 x7 hx81 (by kernel_rfl)) ?_
 refine b_ret ?_
 obtain rfl := Option.some.inj h
 exact rtn ⟨[], 1, [], 0⟩ (.inr rfl)
def go_strings_genSplit_l1 (n : Nat) (a0 : (List UInt8)) (y4 : Int) (a1 : (List UInt8)) (a2 : Int) (x7 : Nat) : Nat → (List UInt8) → Int → (List (List UInt8)) → Option ((List UInt8) × Int × (List (List UInt8)))
 | 0, _, _, _ => none
 | k + 1, v36, v37, v38 =>
  if (decide (v37 < (IntKind.wrap .i64 ((if (IntKind.wrap .i64 ((List.length a0 : Int) + 1)) < y4 then IntKind.wrap .i64 ((List.length a0 : Int) + 1) else y4) - 1)))) = true then ((ct_Index n v36 a1).bind fun r44 =>
  if (decide (r44 < 0)) = true then (some (v36, v37, v38)) else ((ssl v36 0 (IntKind.wrap .i64 (r44 + a2))).bind fun x45 =>
  (oidx x7 v37).bind fun x46 =>
  (lset v38 (x46 * 1) x45).bind fun x47 =>
  (ssl v36 (IntKind.wrap .i64 (r44 + (List.length a1 : Int))) (List.length v36)).bind fun x48 =>
  go_strings_genSplit_l1 n a0 y4 a1 a2 x7 k x48 (IntKind.wrap .i64 (v37 + 1)) x47)) else (some (v36, v37, v38))
def go_strings_genSplit (n : Nat) (a0 : (List UInt8)) (a1 : (List UInt8)) (a2 : Int) (a3 : Int) : Option (List (List UInt8)) :=
 if (a3 == 0) = true then (some ([] : (List (List UInt8)))) else (if (a1 == ([] : List UInt8)) = true then ((go_strings_explode n a0 a3).bind fun r1 =>
 some r1) else ((if (decide (a3 < 0)) = true then ((ct_Count n a0 a1).bind fun r6 =>
 some (IntKind.wrap .i64 (r6 + 1))) else (some a3)).bind fun y4 =>
 (omake 16 (if (IntKind.wrap .i64 ((List.length a0 : Int) + 1)) < y4 then IntKind.wrap .i64 ((List.length a0 : Int) + 1) else y4) (if (IntKind.wrap .i64 ((List.length a0 : Int) + 1)) < y4 then IntKind.wrap .i64 ((List.length a0 : Int) + 1) else y4)).bind fun x7 =>
 (go_strings_genSplit_l1 n a0 y4 a1 a2 x7 n a0 0 (List.replicate x7 (([] : List UInt8) : (List UInt8)))).bind fun y29 =>
 (oidx x7 y29.2.1).bind fun x49 =>
 (lset y29.2.2 (x49 * 1) y29.1).bind fun x50 =>
 (osl x7 (IntKind.wrap .i64 (y29.2.1 + 1))).bind fun x51 =>
 (ofrz x51 x50).bind fun x52 =>
 some x52))
theorem go_strings_genSplit_ok {n : Nat} {a0 : (List UInt8)} {a1 : (List UInt8)} {a2 : Int} {a3 : Int} {r : (List (List UInt8))} (h : go_strings_genSplit n a0 a1 a2 a3 = some r) : ACalls Tryz.prog (gl0 mx) 232 [.str a0, .str a1, .int .i64 a2, .int .i64 a3] ⟨[], []⟩ (Out (.sl 1 (List.map cS r) .none) ⟨[], []⟩) := by
 delta go_strings_genSplit at h
 refine fnc Tryz.func232 rfl ?_
 refine b_seq ?_
 refine reg ⟨66, [(0, .str a0), (1, .str a1), (2, .int .i64 a2), (3, .int .i64 a3)]⟩ ⟨[], []⟩ ?_ ?_
 ·exact kE ⟨[], 0, [], 0⟩
 refine b_seq ?_
 refine b_seq ?_
 refine reg ⟨66, [(0, .str a0), (1, .str a1), (2, .int .i64 a2), (3, .int .i64 a3), (13, .bool (a3 == 0))]⟩ ⟨[], []⟩ ?_ ?_
 ·exact kE ⟨[], 0, [], 0⟩
 refine bif_ (a3 == 0) (fun hb => ?_) (fun hb => ?_)
 ·replace h := ite_t hb h
  refine b_seq ?_
  refine reg ⟨66, [(8, .nilsl)]⟩ ⟨[], []⟩ ?_ ?_
  ·exact kE ⟨[], 0, [], 0⟩
  refine b_ret ?_
  obtain rfl := Option.some.inj h
  exact rtn ⟨[], 0, [], 0⟩ (.inr rfl)
 replace h := ite_f hb h
 refine b_skip ?_
 refine b_seq ?_
 refine b_seq ?_
 refine reg ⟨66, [(0, .str a0), (1, .str a1), (2, .int .i64 a2), (3, .int .i64 a3), (15, .bool (a1 == ([] : List UInt8)))]⟩ ⟨[], []⟩ ?_ ?_
 ·exact kE ⟨[], 0, [], 0⟩
 refine bif_ (a1 == ([] : List UInt8)) (fun hb => ?_) (fun hb => ?_)
 ·replace h := ite_t hb h
  refine b_seq ?_
  obtain ⟨r1, hr1, h⟩ := bindE h
  refine reg ⟨66, [(8, .sl 1 (List.map cS r1) .none)]⟩ ⟨[], []⟩ ?_ ?_
  ·refine kC 2 ⟨[], 0, [], 0⟩ (go_strings_explode_ok hr1) ?_
   exact kE ⟨[], 0, [], 0⟩
  refine b_ret ?_
  obtain rfl := Option.some.inj h
  exact rtn ⟨[], 0, [], 0⟩ (.inr rfl)
 replace h := ite_f hb h
 refine b_skip ?_
 refine b_seq ?_
 refine b_seq ?_
 refine reg ⟨66, [(0, .str a0), (1, .str a1), (2, .int .i64 a2), (3, .int .i64 a3), (20, .bool (decide (a3 < 0)))]⟩ ⟨[], []⟩ ?_ ?_
 ·exact kE ⟨[], 0, [], 0⟩
 obtain ⟨y4, hE, h⟩ := bindE h
 refine b_cutE (Y := Int) (fun y4 => ⟨66, [(0, .str a0), (1, .str a1), (2, .int .i64 a2), (3, .int .i64 y4)]⟩) (fun y4 => ⟨[], []⟩) (fun z => y4 = z) ?_ cl_cons (fun z hz => ?_)
 ·replace h := hE
  refine bif_ (decide (a3 < 0)) (fun hb => ?_) (fun hb => ?_)
  ·replace h := ite_t hb h
   obtain ⟨r6, hr6, h⟩ := bindE h
   refine regN ⟨66, [(0, .str a0), (1, .str a1), (2, .int .i64 a2), (3, .int .i64 (IntKind.wrap .i64 (r6 + 1)))]⟩ ⟨[], []⟩ cl_loopT ?_ ?_
   ·refine kC 2 ⟨[], 0, [], 0⟩ (ct_Count_ok hr6) ?_
    exact kE ⟨[], 0, [], 0⟩
   exact ⟨IntKind.wrap .i64 (r6 + 1), (Option.some.inj h).symm, wk ⟨[], 0, [], 0⟩⟩
  replace h := ite_f hb h
  refine b_skip ?_
  exact ⟨a3, (Option.some.inj h).symm, wk ⟨[], 0, [], 0⟩⟩
 subst hz
 refine b_seq ?_
 refine reg ⟨66, [(0, .str a0), (1, .str a1), (2, .int .i64 a2), (3, .int .i64 (if (IntKind.wrap .i64 ((List.length a0 : Int) + 1)) < y4 then IntKind.wrap .i64 ((List.length a0 : Int) + 1) else y4))]⟩ ⟨[], []⟩ ?_ ?_
 ·exact kE ⟨[], 0, [], 0⟩
 refine b_seq ?_
 obtain ⟨x7, hx7, h⟩ := bindE h
 refine reg ⟨66, [(0, .str a0), (1, .str a1), (2, .int .i64 a2), (3, .int .i64 (if (IntKind.wrap .i64 ((List.length a0 : Int) + 1)) < y4 then IntKind.wrap .i64 ((List.length a0 : Int) + 1) else y4)), (9, .own 0 x7 1)]⟩ ⟨[[.buf (List.map vS (List.replicate x7 (([] : List UInt8) : (List UInt8))))]], []⟩ ?_ ?_
 ·refine kV 1 0 0 0 (x_omake (T := tyT) (e := 9) (k1 := .i64) (k2 := .i64) (bytes := 16) (cell := none) (c := vS) uS ([] : List UInt8) ⟨by kernel_rfl, by kernel_rfl⟩ hx7) ?_
  exact kE ⟨[0], 1, [], 0⟩
 refine b_seq ?_
 refine reg ⟨66, [(0, .str a0), (1, .str a1), (2, .int .i64 a2), (3, .int .i64 (IntKind.wrap .i64 ((if (IntKind.wrap .i64 ((List.length a0 : Int) + 1)) < y4 then IntKind.wrap .i64 ((List.length a0 : Int) + 1) else y4) - 1))), (9, .own 0 x7 1)]⟩ ⟨[[.buf (List.map vS (List.replicate x7 (([] : List UInt8) : (List UInt8))))]], []⟩ ?_ ?_
 ·exact kE ⟨[0], 1, [], 0⟩
 refine b_seq ?_
 refine reg ⟨66, [(0, .str a0), (1, .str a1), (2, .int .i64 a2), (3, .int .i64 (IntKind.wrap .i64 ((if (IntKind.wrap .i64 ((List.length a0 : Int) + 1)) < y4 then IntKind.wrap .i64 ((List.length a0 : Int) + 1) else y4) - 1))), (9, .own 0 x7 1), (10, .int .i64 0)]⟩ ⟨[[.buf (List.map vS (List.replicate x7 (([] : List UInt8) : (List UInt8))))]], []⟩ ?_ ?_
 ·exact kE ⟨[0], 1, [], 0⟩
 refine b_seq ?_
 obtain ⟨y29, hE, h⟩ := bindE h
 refine b_blockE (Y := ((List UInt8) × Int × (List (List UInt8)))) (fun y29 => ⟨66, [(0, .str y29.1), (9, .own 0 x7 1), (10, .int .i64 y29.2.1)]⟩) (fun y29 => ⟨[[.buf (List.map vS y29.2.2)]], []⟩) (fun z => y29 = z) ?_ cl_cons (fun z hz => ?_)
 ·replace h := hE
  refine b_loop (X := ((List UInt8) × Int × (List (List UInt8)))) (fun x => ⟨66, [(0, .str x.1), (1, .str a1), (2, .int .i64 a2), (3, .int .i64 (IntKind.wrap .i64 ((if (IntKind.wrap .i64 ((List.length a0 : Int) + 1)) < y4 then IntKind.wrap .i64 ((List.length a0 : Int) + 1) else y4) - 1))), (9, .own 0 x7 1), (10, .int .i64 x.2.1)]⟩) (fun x => ⟨[[.buf (List.map vS x.2.2)]], []⟩) (fun k x => go_strings_genSplit_l1 n a0 y4 a1 a2 x7 k x.1 x.2.1 x.2.2 = some y29) (fun _ hx => by simp [go_strings_genSplit_l1] at hx) n (a0, 0, List.replicate x7 (([] : List UInt8) : (List UInt8))) h (wk ⟨[0], 1, [], 0⟩) (fun k x h => ?_)
  obtain ⟨v36, v37, v38⟩ := x
  rw [go_strings_genSplit_l1] at h
  refine b_seq ?_
  refine b_seq ?_
  refine reg ⟨66, [(0, .str v36), (1, .str a1), (2, .int .i64 a2), (3, .int .i64 (IntKind.wrap .i64 ((if (IntKind.wrap .i64 ((List.length a0 : Int) + 1)) < y4 then IntKind.wrap .i64 ((List.length a0 : Int) + 1) else y4) - 1))), (9, .own 0 x7 1), (10, .int .i64 v37), (36, .bool (decide (v37 < (IntKind.wrap .i64 ((if (IntKind.wrap .i64 ((List.length a0 : Int) + 1)) < y4 then IntKind.wrap .i64 ((List.length a0 : Int) + 1) else y4) - 1)))))]⟩ ⟨[[.buf (List.map vS v38)]], []⟩ ?_ ?_
  ·exact kE ⟨[0], 1, [], 0⟩
  refine bif_ (decide (v37 < (IntKind.wrap .i64 ((if (IntKind.wrap .i64 ((List.length a0 : Int) + 1)) < y4 then IntKind.wrap .i64 ((List.length a0 : Int) + 1) else y4) - 1)))) (fun hb => ?_) (fun hb => ?_)
  ·replace h := ite_t hb h
   refine b_skip ?_
   refine b_block ?_
   refine b_seq ?_
   obtain ⟨r44, hr44, h⟩ := bindE h
   refine reg ⟨66, [(0, .str v36), (1, .str a1), (2, .int .i64 a2), (3, .int .i64 (IntKind.wrap .i64 ((if (IntKind.wrap .i64 ((List.length a0 : Int) + 1)) < y4 then IntKind.wrap .i64 ((List.length a0 : Int) + 1) else y4) - 1))), (9, .own 0 x7 1), (10, .int .i64 v37), (11, .int .i64 r44)]⟩ ⟨[[.buf (List.map vS v38)]], []⟩ ?_ ?_
   ·refine kC 2 ⟨[], 1, [], 0⟩ (ct_Index_ok hr44) ?_
    exact kE ⟨[0], 1, [], 0⟩
   refine b_seq ?_
   refine b_seq ?_
   refine reg ⟨66, [(0, .str v36), (1, .str a1), (2, .int .i64 a2), (3, .int .i64 (IntKind.wrap .i64 ((if (IntKind.wrap .i64 ((List.length a0 : Int) + 1)) < y4 then IntKind.wrap .i64 ((List.length a0 : Int) + 1) else y4) - 1))), (9, .own 0 x7 1), (10, .int .i64 v37), (11, .int .i64 r44), (41, .bool (decide (r44 < 0)))]⟩ ⟨[[.buf (List.map vS v38)]], []⟩ ?_ ?_
   ·exact kE ⟨[0], 1, [], 0⟩
   refine bif_ (decide (r44 < 0)) (fun hb => ?_) (fun hb => ?_)
   ·replace h := ite_t hb h
    refine b_exit ?_
    refine bk_other (by kernel_rfl) ?_
    refine tk_exit ?_
    refine bl_exit ?_
    exact ⟨(v36, v37, v38), (Option.some.inj h).symm, wk ⟨[0], 1, [], 0⟩⟩
   replace h := ite_f hb h
   refine b_skip ?_
   refine b_seq ?_
   obtain ⟨x45, hx45, h⟩ := bindE h
   obtain ⟨x46, hx46, h⟩ := bindE h
   obtain ⟨x47, hx47, h⟩ := bindE h
   refine reg ⟨66, [(0, .str v36), (1, .str a1), (2, .int .i64 a2), (3, .int .i64 (IntKind.wrap .i64 ((if (IntKind.wrap .i64 ((List.length a0 : Int) + 1)) < y4 then IntKind.wrap .i64 ((List.length a0 : Int) + 1) else y4) - 1))), (9, .own 0 x7 1), (10, .int .i64 v37), (11, .int .i64 r44)]⟩ ⟨[[.buf (List.map vS x47)]], []⟩ ?_ ?_
   ·refine kP 6 (x_ssl_hi (k := .i64) hx45) ?_
    refine kP 7 (x_oidx (id := 0) (e := 9) (sz := 1) (b := 16) hx46) ?_
    refine kV 8 1 0 0 (x_ostore (T := tyT) (t := 9) (c := vS) (l := v38) (off := (x46 * 1)) (x := x45) uS (by kernel_rfl) hx47) ?_
    exact kE ⟨[0], 1, [], 0⟩
   refine b_seq ?_
   obtain ⟨x48, hx48, h⟩ := bindE h
   refine reg ⟨66, [(0, .str x48), (1, .str a1), (2, .int .i64 a2), (3, .int .i64 (IntKind.wrap .i64 ((if (IntKind.wrap .i64 ((List.length a0 : Int) + 1)) < y4 then IntKind.wrap .i64 ((List.length a0 : Int) + 1) else y4) - 1))), (9, .own 0 x7 1), (10, .int .i64 v37)]⟩ ⟨[[.buf (List.map vS x47)]], []⟩ ?_ ?_
   ·refine kP 5 (x_ssl_lo (k := .i64) hx48) ?_
    exact kE ⟨[0], 1, [], 0⟩
   refine c_reg ⟨66, [(0, .str x48), (1, .str a1), (2, .int .i64 a2), (3, .int .i64 (IntKind.wrap .i64 ((if (IntKind.wrap .i64 ((List.length a0 : Int) + 1)) < y4 then IntKind.wrap .i64 ((List.length a0 : Int) + 1) else y4) - 1))), (9, .own 0 x7 1), (10, .int .i64 (IntKind.wrap .i64 (v37 + 1)))]⟩ ⟨[[.buf (List.map vS x47)]], []⟩ (cl_nil (cl_nil (P := Tryz.prog) (gl := gl0 mx) cl_loopT)) ?_ ?_
   ·exact kE ⟨[0], 1, [], 0⟩
   refine bk_norm ?_
   exact ⟨(x48, IntKind.wrap .i64 (v37 + 1), x47), h, wk ⟨[0], 1, [], 0⟩⟩
  replace h := ite_f hb h
  refine b_exit ?_
  refine tk_exit ?_
  refine bl_exit ?_
  exact ⟨(v36, v37, v38), (Option.some.inj h).symm, wk ⟨[0], 1, [], 0⟩⟩
 subst hz
 refine b_seq ?_
 obtain ⟨x49, hx49, h⟩ := bindE h
 obtain ⟨x50, hx50, h⟩ := bindE h
 refine reg ⟨66, [(9, .own 0 x7 1), (10, .int .i64 y29.2.1)]⟩ ⟨[[.buf (List.map vS x50)]], []⟩ ?_ ?_
 ·refine kP 3 (x_oidx (id := 0) (e := 9) (sz := 1) (b := 16) hx49) ?_
  refine kV 4 1 0 0 (x_ostore (T := tyT) (t := 9) (c := vS) (l := y29.2.2) (off := (x49 * 1)) (x := y29.1) uS (by kernel_rfl) hx50) ?_
  exact kE ⟨[0], 1, [], 0⟩
 refine b_seq ?_
 obtain ⟨x51, hx51, h⟩ := bindE h
 refine reg ⟨66, [(8, .own 0 x51 1)]⟩ ⟨[[.buf (List.map vS x50)]], []⟩ ?_ ?_
 ·refine kP 3 (x_osl_hi (id := 0) (k := .i64) (e := 9) (sz := 1) (b := 16) hx51) ?_
  exact kE ⟨[0], 1, [], 0⟩
 obtain ⟨x52, hx52, h⟩ := bindE h
 refine b_wk (Wk.frz (c := vS) (l := x50) 8 0 x51 hx52 (by kernel_rfl)) ?_
 refine b_ret ?_
 obtain rfl := Option.some.inj h
 exact rtn ⟨[], 1, [], 0⟩ (.inr rfl)
def go_strings_Split (n : Nat) (a0 : (List UInt8)) (a1 : (List UInt8)) : Option (List (List UInt8)) :=
 (go_strings_genSplit n a0 a1 0 (-1)).bind fun r1 =>
 some r1
theorem go_strings_Split_ok {n : Nat} {a0 : (List UInt8)} {a1 : (List UInt8)} {r : (List (List UInt8))} (h : go_strings_Split n a0 a1 = some r) : ACalls Tryz.prog (gl0 mx) 175 [.str a0, .str a1] ⟨[], []⟩ (Out (.sl 1 (List.map cS r) .none) ⟨[], []⟩) := by
 delta go_strings_Split at h
 refine fnc Tryz.func175 rfl ?_
 refine b_seq ?_
 refine reg ⟨8, [(0, .str a0), (1, .str a1)]⟩ ⟨[], []⟩ ?_ ?_
 ·exact kE ⟨[], 0, [], 0⟩
 refine b_seq ?_
 obtain ⟨r1, hr1, h⟩ := bindE h
 refine reg ⟨8, [(4, .sl 1 (List.map cS r1) .none)]⟩ ⟨[], []⟩ ?_ ?_
 ·refine kC 2 ⟨[], 0, [], 0⟩ (go_strings_genSplit_ok hr1) ?_
  exact kE ⟨[], 0, [], 0⟩
 refine b_ret ?_
 obtain rfl := Option.some.inj h
 exact rtn ⟨[], 0, [], 0⟩ (.inr rfl)
def go_oid_arc_l1 (n : Nat) (a0 : (List UInt8)) : Nat → Int → Int → Option (Ctl Int Int)
 | 0, _, _ => none
 | k + 1, v50, v51 =>
  if (decide (v51 < (List.length a0 : Int))) = true then (((bidx a0 v51).bind fun x67 =>
  if (decide (x67 < 48)) = true then (some true) else ((bidx a0 v51).bind fun x68 =>
  some (decide (x68 > 57)))).bind fun y70 =>
  if y70 = true then (some (.ret (-1))) else ((bidx a0 v51).bind fun x71 =>
  go_oid_arc_l1 n a0 k (IntKind.wrap .i64 ((IntKind.wrap .i64 ((10 : Int) * v50)) + (IntKind.wrap .i64 (IntKind.wrap .u8 (x71 - 48))))) (IntKind.wrap .i64 (v51 + 1)))) else (some (.nxt v50))
def go_oid_arc (n : Nat) (a0 : (List UInt8)) : Option Int :=
 (if (a0 == ([] : List UInt8)) = true then (some true) else (if (decide ((List.length a0 : Int) > 10)) = true then (some true) else ((bidx a0 0).bind fun x1 =>
 if (x1 == 48) = true then (some (decide ((List.length a0 : Int) > 1))) else (some false)))).bind fun y3 =>
 if y3 = true then (some (-1)) else (ctlB (go_oid_arc_l1 n a0 n 0 0) (fun r => some r) (fun y37 =>
 if (decide (y37 > 2147483647)) = true then (some (-1)) else (some y37)))
theorem go_oid_arc_ok {n : Nat} {a0 : (List UInt8)} {r : Int} (h : go_oid_arc n a0 = some r) : ACalls Tryz.prog (gl0 mx) 176 [.str a0] ⟨[], []⟩ (Out (.int .i64 r) ⟨[], []⟩) := by
 delta go_oid_arc at h
 refine fnc Tryz.func176 rfl ?_
 refine b_seq ?_
 refine reg ⟨49, [(0, .str a0)]⟩ ⟨[], []⟩ ?_ ?_
 ·exact kE ⟨[], 0, [], 0⟩
 refine b_seq ?_
 refine b_seq ?_
 obtain ⟨y3, hE, h⟩ := bindE h
 refine reg ⟨49, [(0, .str a0), (21, .bool y3)]⟩ ⟨[], []⟩ ?_ ?_
 ·replace h := hE
  refine kG 3 7 (a0 == ([] : List UInt8)) (fun hb => ?_) (fun hb => ?_)
  ·have h := ite_t hb h
   obtain rfl := Option.some.inj h
   exact kE ⟨[], 0, [], 0⟩
  have h := ite_f hb h
  refine kG 8 12 (decide ((List.length a0 : Int) > 10)) (fun hb => ?_) (fun hb => ?_)
  ·have h := ite_t hb h
   obtain rfl := Option.some.inj h
   exact kE ⟨[], 0, [], 0⟩
  have h := ite_f hb h
  obtain ⟨x1, hx1, h⟩ := bindE h
  refine kP 9 (x_bidx hx1) ?_
  refine kG 12 16 (x1 == 48) (fun hb => ?_) (fun hb => ?_)
  ·have h := ite_t hb h
   obtain rfl := Option.some.inj h
   exact kE ⟨[], 0, [], 0⟩
  have h := ite_f hb h
  obtain rfl := Option.some.inj h
  exact kE ⟨[], 0, [], 0⟩
 refine bif_ (y3) (fun hb => ?_) (fun hb => ?_)
 ·replace h := ite_t hb h
  refine b_seq ?_
  refine reg ⟨49, [(2, .int .i64 (-1))]⟩ ⟨[], []⟩ ?_ ?_
  ·exact kE ⟨[], 0, [], 0⟩
  refine b_ret ?_
  obtain rfl := Option.some.inj h
  exact rtn ⟨[], 0, [], 0⟩ (.inr rfl)
 replace h := ite_f hb h
 refine b_skip ?_
 refine b_seq ?_
 refine reg ⟨49, [(0, .str a0), (3, .int .i64 0)]⟩ ⟨[], []⟩ ?_ ?_
 ·exact kE ⟨[], 0, [], 0⟩
 refine b_seq ?_
 refine b_seq ?_
 refine reg ⟨49, [(0, .str a0), (3, .int .i64 0), (4, .int .i64 0)]⟩ ⟨[], []⟩ ?_ ?_
 ·exact kE ⟨[], 0, [], 0⟩
 obtain ⟨o38, hE, hr39, h⟩ := ctlE h
 refine b_blockE (Y := Int) (fun y37 => ⟨49, [(3, .int .i64 y37)]⟩) (fun y37 => ⟨[], []⟩) (fun z => o38 = .nxt z) ?_ cl_cons (fun y37 hy => ?_)
 ·replace h := hE
  refine b_loop (X := (Int × Int)) (fun x => ⟨49, [(0, .str a0), (3, .int .i64 x.1), (4, .int .i64 x.2)]⟩) (fun x => ⟨[], []⟩) (fun k x => go_oid_arc_l1 n a0 k x.1 x.2 = some o38) (fun _ hx => by simp [go_oid_arc_l1] at hx) n (0, 0) h (wk ⟨[], 0, [], 0⟩) (fun k x h => ?_)
  obtain ⟨v50, v51⟩ := x
  rw [go_oid_arc_l1] at h
  refine b_seq ?_
  refine b_seq ?_
  refine reg ⟨49, [(0, .str a0), (3, .int .i64 v50), (4, .int .i64 v51), (25, .bool (decide (v51 < (List.length a0 : Int))))]⟩ ⟨[], []⟩ ?_ ?_
  ·exact kE ⟨[], 0, [], 0⟩
  refine bif_ (decide (v51 < (List.length a0 : Int))) (fun hb => ?_) (fun hb => ?_)
  ·replace h := ite_t hb h
   refine b_skip ?_
   refine b_seq ?_
   refine b_block ?_
   refine b_seq ?_
   refine b_seq ?_
   obtain ⟨y70, hE, h⟩ := bindE h
   refine reg ⟨49, [(0, .str a0), (3, .int .i64 v50), (4, .int .i64 v51), (37, .bool y70)]⟩ ⟨[], []⟩ ?_ ?_
   ·replace h := hE
    obtain ⟨x67, hx67, h⟩ := bindE h
    refine kP 2 (x_bidx hx67) ?_
    refine kG 5 32 (decide (x67 < 48)) (fun hb => ?_) (fun hb => ?_)
    ·have h := ite_t hb h
     obtain rfl := Option.some.inj h
     exact kE ⟨[], 0, [], 0⟩
    have h := ite_f hb h
    obtain ⟨x68, hx68, h⟩ := bindE h
    refine kP 7 (x_bidx hx68) ?_
    obtain rfl := Option.some.inj h
    exact kE ⟨[], 0, [], 0⟩
   refine bif_ (y70) (fun hb => ?_) (fun hb => ?_)
   ·replace h := ite_t hb h
    refine b_seq ?_
    refine reg ⟨49, [(2, .int .i64 (-1))]⟩ ⟨[], []⟩ ?_ ?_
    ·exact kE ⟨[], 0, [], 0⟩
    refine b_ret ?_
    refine bk_ret ?_
    refine tk_ret ?_
    replace h := hr39 _ (Option.some.inj h).symm
    refine bl_ret ?_
    obtain rfl := Option.some.inj h
    exact rtn ⟨[], 0, [], 0⟩ (.inr rfl)
   replace h := ite_f hb h
   refine b_skip ?_
   obtain ⟨x71, hx71, h⟩ := bindE h
   refine regN ⟨49, [(0, .str a0), (3, .int .i64 (IntKind.wrap .i64 ((IntKind.wrap .i64 ((10 : Int) * v50)) + (IntKind.wrap .i64 (IntKind.wrap .u8 (x71 - 48)))))), (4, .int .i64 v51)]⟩ ⟨[], []⟩ cl_cons ?_ ?_
   ·refine kP 4 (x_bidx hx71) ?_
    exact kE ⟨[], 0, [], 0⟩
   refine bk_norm ?_
   refine regN ⟨49, [(0, .str a0), (3, .int .i64 (IntKind.wrap .i64 ((IntKind.wrap .i64 ((10 : Int) * v50)) + (IntKind.wrap .i64 (IntKind.wrap .u8 (x71 - 48)))))), (4, .int .i64 (IntKind.wrap .i64 (v51 + 1)))]⟩ ⟨[], []⟩ cl_loopT ?_ ?_
   ·exact kE ⟨[], 0, [], 0⟩
   exact ⟨(IntKind.wrap .i64 ((IntKind.wrap .i64 ((10 : Int) * v50)) + (IntKind.wrap .i64 (IntKind.wrap .u8 (x71 - 48)))), IntKind.wrap .i64 (v51 + 1)), h, wk ⟨[], 0, [], 0⟩⟩
  replace h := ite_f hb h
  refine b_exit ?_
  refine tk_exit ?_
  refine bl_exit ?_
  exact ⟨v50, (Option.some.inj h).symm, wk ⟨[], 0, [], 0⟩⟩
 replace h := h _ hy
 refine b_seq ?_
 refine b_seq ?_
 refine reg ⟨49, [(3, .int .i64 y37), (47, .bool (decide (y37 > 2147483647)))]⟩ ⟨[], []⟩ ?_ ?_
 ·exact kE ⟨[], 0, [], 0⟩
 refine bif_ (decide (y37 > 2147483647)) (fun hb => ?_) (fun hb => ?_)
 ·replace h := ite_t hb h
  refine b_seq ?_
  refine reg ⟨49, [(2, .int .i64 (-1))]⟩ ⟨[], []⟩ ?_ ?_
  ·exact kE ⟨[], 0, [], 0⟩
  refine b_ret ?_
  obtain rfl := Option.some.inj h
  exact rtn ⟨[], 0, [], 0⟩ (.inr rfl)
 replace h := ite_f hb h
 refine b_skip ?_
 refine b_seq ?_
 refine reg ⟨49, [(2, .int .i64 y37)]⟩ ⟨[], []⟩ ?_ ?_
 ·exact kE ⟨[], 0, [], 0⟩
 refine b_ret ?_
 obtain rfl := Option.some.inj h
 exact rtn ⟨[], 0, [], 0⟩ (.inr rfl)
def go_oid_root (n : Nat) (a0 : Int) (a1 : Int) : Option Bool :=
 (if (decide (a0 ≤ 1)) = true then (if (decide (a1 ≤ 39)) = true then (some true) else (some (a0 == 2))) else (some (a0 == 2))).bind fun y2 =>
 some y2
theorem go_oid_root_ok {n : Nat} {a0 : Int} {a1 : Int} {r : Bool} (h : go_oid_root n a0 a1 = some r) : ACalls Tryz.prog (gl0 mx) 177 [.int .i64 a0, .int .i64 a1] ⟨[], []⟩ (Out (.bool r) ⟨[], []⟩) := by
 delta go_oid_root at h
 refine fnc Tryz.func177 rfl ?_
 refine b_seq ?_
 refine reg ⟨15, [(0, .int .i64 a0), (1, .int .i64 a1)]⟩ ⟨[], []⟩ ?_ ?_
 ·exact kE ⟨[], 0, [], 0⟩
 refine b_seq ?_
 obtain ⟨y2, hE, h⟩ := bindE h
 refine reg ⟨15, [(4, .bool y2)]⟩ ⟨[], []⟩ ?_ ?_
 ·replace h := hE
  refine kG 3 7 (decide (a0 ≤ 1)) (fun hb => ?_) (fun hb => ?_)
  ·have h := ite_t hb h
   refine kG 7 11 (decide (a1 ≤ 39)) (fun hb => ?_) (fun hb => ?_)
   ·have h := ite_t hb h
    obtain rfl := Option.some.inj h
    exact kE ⟨[], 0, [], 0⟩
   have h := ite_f hb h
   obtain rfl := Option.some.inj h
   exact kE ⟨[], 0, [], 0⟩
  have h := ite_f hb h
  obtain rfl := Option.some.inj h
  exact kE ⟨[], 0, [], 0⟩
 refine b_ret ?_
 obtain rfl := Option.some.inj h
 exact rtn ⟨[], 0, [], 0⟩ (.inr rfl)
def go_oid_arcs_l1 (n : Nat) (r1 : (List (List UInt8))) : Nat → (List Int) → Int → Option (Ctl (List Int) (List Int))
 | 0, _, _ => none
 | k + 1, v36, v37 =>
  if (decide (v37 < (List.length r1 : Int))) = true then ((lidx r1 v37).bind fun x47 =>
  (go_oid_arc n x47).bind fun r48 =>
  if (decide (r48 < 0)) = true then (some (.ret ([] : (List Int)))) else ((lapp 8 v36 ([r48] : List Int)).bind fun x49 =>
  go_oid_arcs_l1 n r1 k x49 (IntKind.wrap .i64 (v37 + 1)))) else (some (.nxt v36))
def go_oid_arcs (n : Nat) (a0 : (List UInt8)) : Option (List Int) :=
 (go_strings_Split n a0 ([46] : List UInt8)).bind fun r1 =>
 (if (decide ((List.length r1 : Int) < 2)) = true then (some true) else (some (decide ((List.length r1 : Int) > 12)))).bind fun y3 =>
 if y3 = true then (some ([] : (List Int))) else (ctlB (go_oid_arcs_l1 n r1 n ([] : List Int) 0) (fun r => some r) (fun y26 =>
 (lidx y26 0).bind fun x50 =>
 (lidx y26 1).bind fun x51 =>
 (go_oid_root n x50 x51).bind fun r52 =>
 if (!r52) = true then (some ([] : (List Int))) else (some y26)))
theorem go_oid_arcs_ok {n : Nat} {a0 : (List UInt8)} {r : (List Int)} (h : go_oid_arcs n a0 = some r) : ACalls Tryz.prog (gl0 mx) 116 [.str a0] ⟨[], []⟩ (Out (.sl 1 (List.map (cI .i64) r) .none) ⟨[], []⟩) := by
 delta go_oid_arcs at h
 refine fnc Tryz.func116 rfl ?_
 refine b_seq ?_
 refine reg ⟨42, [(0, .str a0)]⟩ ⟨[], []⟩ ?_ ?_
 ·exact kE ⟨[], 0, [], 0⟩
 refine b_seq ?_
 obtain ⟨r1, hr1, h⟩ := bindE h
 refine reg ⟨42, [(3, .sl 1 (List.map cS r1) .none)]⟩ ⟨[], []⟩ ?_ ?_
 ·refine kC 1 ⟨[], 0, [], 0⟩ (go_strings_Split_ok hr1) ?_
  exact kE ⟨[], 0, [], 0⟩
 refine b_seq ?_
 refine b_seq ?_
 obtain ⟨y3, hE, h⟩ := bindE h
 refine reg ⟨42, [(3, .sl 1 (List.map cS r1) .none), (17, .bool y3)]⟩ ⟨[], []⟩ ?_ ?_
 ·replace h := hE
  refine kP 1 (x_len (c := cS) (l := r1) (e := 9) (sz := 1) (sz' := 1) (b := 16) (tok := .none)) ?_
  refine kG 4 13 (decide ((List.length r1 : Int) < 2)) (fun hb => ?_) (fun hb => ?_)
  ·have h := ite_t hb h
   obtain rfl := Option.some.inj h
   exact kE ⟨[], 0, [], 0⟩
  have h := ite_f hb h
  refine kP 5 (x_len (c := cS) (l := r1) (e := 9) (sz := 1) (sz' := 1) (b := 16) (tok := .none)) ?_
  obtain rfl := Option.some.inj h
  exact kE ⟨[], 0, [], 0⟩
 refine bif_ (y3) (fun hb => ?_) (fun hb => ?_)
 ·replace h := ite_t hb h
  refine b_seq ?_
  refine reg ⟨42, [(2, .nilsl)]⟩ ⟨[], []⟩ ?_ ?_
  ·exact kE ⟨[], 0, [], 0⟩
  refine b_ret ?_
  obtain rfl := Option.some.inj h
  exact rtn ⟨[], 0, [], 0⟩ (.inr rfl)
 replace h := ite_f hb h
 refine b_skip ?_
 refine b_seq ?_
 refine reg ⟨42, [(3, .sl 1 (List.map cS r1) .none), (4, .nilsl)]⟩ ⟨[], []⟩ ?_ ?_
 ·exact kE ⟨[], 0, [], 0⟩
 refine b_seq ?_
 refine b_seq ?_
 refine reg ⟨42, [(4, .nilsl), (18, .sl 1 (List.map cS r1) .none), (19, .int .i64 (List.length r1 : Int)), (20, .int .i64 0)]⟩ ⟨[], []⟩ ?_ ?_
 ·refine kP 1 (x_len (c := cS) (l := r1) (e := 9) (sz := 1) (sz' := 1) (b := 16) (tok := .none)) ?_
  exact kE ⟨[], 0, [], 0⟩
 obtain ⟨o27, hE, hr28, h⟩ := ctlE h
 refine b_blockE (Y := (List Int)) (fun y26 => ⟨42, [(4, .sl 1 (List.map (cI .i64) y26) (.fam 0 (List.length y26)))]⟩) (fun y26 => ⟨[], [List.length y26]⟩) (fun z => o27 = .nxt z) ?_ cl_cons (fun y26 hy => ?_)
 ·replace h := hE
  refine b_wk (wk (fr' := ⟨42, [(4, .nilsl), (18, .sl 1 (List.map cS r1) .none), (19, .int .i64 (List.length r1 : Int)), (20, .int .i64 0)]⟩) (st' := ⟨[], []⟩) ⟨[], 0, [], 0⟩) ?_
  refine b_wk Wk.nilFam ?_
  refine b_loop (X := ((List Int) × Int)) (fun x => ⟨42, [(4, .sl 1 (List.map (cI .i64) x.1) (.fam 0 (List.length x.1))), (18, .sl 1 (List.map cS r1) .none), (19, .int .i64 (List.length r1 : Int)), (20, .int .i64 x.2)]⟩) (fun x => ⟨[], [List.length x.1]⟩) (fun k x => go_oid_arcs_l1 n r1 k x.1 x.2 = some o27) (fun _ hx => by simp [go_oid_arcs_l1] at hx) n (([] : List Int), 0) h (wk ⟨[], 0, [0], 1⟩) (fun k x h => ?_)
  obtain ⟨v36, v37⟩ := x
  rw [go_oid_arcs_l1] at h
  refine b_seq ?_
  refine reg ⟨42, [(4, .sl 1 (List.map (cI .i64) v36) (.fam 0 (List.length v36))), (18, .sl 1 (List.map cS r1) .none), (19, .int .i64 (List.length r1 : Int)), (20, .int .i64 v37), (21, .bool (decide (v37 < (List.length r1 : Int))))]⟩ ⟨[], [List.length v36]⟩ ?_ ?_
  ·exact kE ⟨[], 0, [0], 1⟩
  refine b_seq ?_
  refine bif_ (decide (v37 < (List.length r1 : Int))) (fun hb => ?_) (fun hb => ?_)
  ·replace h := ite_t hb h
   refine b_skip ?_
   refine b_seq ?_
   refine b_block ?_
   refine b_seq ?_
   obtain ⟨x47, hx47, h⟩ := bindE h
   refine reg ⟨42, [(4, .sl 1 (List.map (cI .i64) v36) (.fam 0 (List.length v36))), (6, .str x47), (18, .sl 1 (List.map cS r1) .none), (19, .int .i64 (List.length r1 : Int)), (20, .int .i64 v37)]⟩ ⟨[], [List.length v36]⟩ ?_ ?_
   ·refine kP 0 (x_lidx (c := cS) (e := 9) (sz := 1) (b := 16) (tok := .none) hx47) ?_
    exact kE ⟨[], 0, [0], 1⟩
   refine b_seq ?_
   obtain ⟨r48, hr48, h⟩ := bindE h
   refine reg ⟨42, [(4, .sl 1 (List.map (cI .i64) v36) (.fam 0 (List.length v36))), (7, .int .i64 r48), (18, .sl 1 (List.map cS r1) .none), (19, .int .i64 (List.length r1 : Int)), (20, .int .i64 v37)]⟩ ⟨[], [List.length v36]⟩ ?_ ?_
   ·refine kC 1 ⟨[], 0, [], 1⟩ (go_oid_arc_ok hr48) ?_
    exact kE ⟨[], 0, [0], 1⟩
   refine b_seq ?_
   refine b_seq ?_
   refine reg ⟨42, [(4, .sl 1 (List.map (cI .i64) v36) (.fam 0 (List.length v36))), (7, .int .i64 r48), (18, .sl 1 (List.map cS r1) .none), (19, .int .i64 (List.length r1 : Int)), (20, .int .i64 v37), (27, .bool (decide (r48 < 0)))]⟩ ⟨[], [List.length v36]⟩ ?_ ?_
   ·exact kE ⟨[], 0, [0], 1⟩
   refine bif_ (decide (r48 < 0)) (fun hb => ?_) (fun hb => ?_)
   ·replace h := ite_t hb h
    refine b_seq ?_
    refine reg ⟨42, [(2, .nilsl)]⟩ ⟨[], []⟩ ?_ ?_
    ·exact kE ⟨[], 0, [], 1⟩
    refine b_ret ?_
    refine bk_ret ?_
    refine tk_ret ?_
    replace h := hr28 _ (Option.some.inj h).symm
    refine bl_ret ?_
    obtain rfl := Option.some.inj h
    exact rtn ⟨[], 0, [], 0⟩ (.inr rfl)
   replace h := ite_f hb h
   refine b_skip ?_
   obtain ⟨x49, hx49, h⟩ := bindE h
   refine regN ⟨42, [(4, .sl 1 (List.map (cI .i64) x49) (.fam 0 (List.length x49))), (18, .sl 1 (List.map cS r1) .none), (19, .int .i64 (List.length r1 : Int)), (20, .int .i64 v37)]⟩ ⟨[], [List.length x49]⟩ cl_cons ?_ ?_
   ·refine kA 3 0 (cI .i64) (e := 3) (e2 := 3) (sz := 1) (bytes := 8) (b2 := 8) (tok2 := .exact) hx49 ?_
    exact kE ⟨[], 0, [0], 1⟩
   refine bk_norm ?_
   refine regN ⟨42, [(4, .sl 1 (List.map (cI .i64) x49) (.fam 0 (List.length x49))), (18, .sl 1 (List.map cS r1) .none), (19, .int .i64 (List.length r1 : Int)), (20, .int .i64 (IntKind.wrap .i64 (v37 + 1)))]⟩ ⟨[], [List.length x49]⟩ cl_loopT ?_ ?_
   ·exact kE ⟨[], 0, [0], 1⟩
   exact ⟨(x49, IntKind.wrap .i64 (v37 + 1)), h, wk ⟨[], 0, [0], 1⟩⟩
  replace h := ite_f hb h
  refine b_exit ?_
  refine tk_exit ?_
  refine bl_exit ?_
  exact ⟨v36, (Option.some.inj h).symm, wk ⟨[], 0, [0], 1⟩⟩
 replace h := h _ hy
 refine b_seq ?_
 refine b_seq ?_
 obtain ⟨x50, hx50, h⟩ := bindE h
 obtain ⟨x51, hx51, h⟩ := bindE h
 obtain ⟨r52, hr52, h⟩ := bindE h
 refine drw [0, 1, 2, 3, 4, 5, 6, 7] [6] [[], [0], [0, 1], [], [3], [3, 4], [0, 1, 2, 3, 4, 5], [0, 1, 2, 3, 4, 5, 6]] ⟨42, [(4, .sl 1 (List.map (cI .i64) y26) (.fam 0 (List.length y26))), (40, .bool (!r52))]⟩ ⟨[], [List.length y26]⟩ ?_ ?_
 ·refine dS [0] ?_
  refine dP (x_lidx (c := (cI .i64)) (e := 3) (sz := 1) (b := 8) (tok := (.fam 0 (List.length y26))) hx50) ?_
  refine dS [2, 3] ?_
  refine dP (x_lidx (c := (cI .i64)) (e := 3) (sz := 1) (b := 8) (tok := (.fam 0 (List.length y26))) hx51) ?_
  refine dS [5] ?_
  refine dC (fxCons 4 (x_lidx (c := (cI .i64)) (e := 3) (sz := 1) (b := 8) (tok := (.fam 0 (List.length y26))) hx51) (fxCons 1 (x_lidx (c := (cI .i64)) (e := 3) (sz := 1) (b := 8) (tok := (.fam 0 (List.length y26))) hx50) fxNil)) ⟨[], 0, [], 1⟩ (go_oid_root_ok hr52) ?_
  refine dS [7] ?_
  exact dE ⟨[], 0, [0], 1⟩
 refine bif_ (!r52) (fun hb => ?_) (fun hb => ?_)
 ·replace h := ite_t hb h
  refine b_seq ?_
  refine reg ⟨42, [(2, .nilsl)]⟩ ⟨[], []⟩ ?_ ?_
  ·exact kE ⟨[], 0, [], 1⟩
  refine b_ret ?_
  obtain rfl := Option.some.inj h
  exact rtn ⟨[], 0, [], 0⟩ (.inr rfl)
 replace h := ite_f hb h
 refine b_skip ?_
 refine b_seq ?_
 refine reg ⟨42, [(2, .sl 1 (List.map (cI .i64) y26) (.fam 0 (List.length y26)))]⟩ ⟨[], [List.length y26]⟩ ?_ ?_
 ·exact kE ⟨[], 0, [0], 1⟩
 refine b_ret ?_
 obtain rfl := Option.some.inj h
 exact rtn ⟨[], 0, [], 1⟩ (.inr rfl)
def go_oid_Valid (n : Nat) (a0 : (List UInt8)) : Option Bool :=
 (go_oid_arcs n a0).bind fun r1 =>
 (lne r1).bind fun x2 =>
 some true
theorem go_oid_Valid_ok {n : Nat} {a0 : (List UInt8)} {r : Bool} (h : go_oid_Valid n a0 = some r) : ACalls Tryz.prog (gl0 mx) 88 [.str a0] ⟨[], []⟩ (Out (.bool r) ⟨[], []⟩) := by
 delta go_oid_Valid at h
 refine fnc Tryz.func88 rfl ?_
 refine b_seq ?_
 refine reg ⟨6, [(0, .str a0)]⟩ ⟨[], []⟩ ?_ ?_
 ·exact kE ⟨[], 0, [], 0⟩
 refine b_seq ?_
 obtain ⟨r1, hr1, h⟩ := bindE h
 obtain ⟨x2, hx2, h⟩ := bindE h
 refine reg ⟨6, [(2, .bool true)]⟩ ⟨[], []⟩ ?_ ?_
 ·refine kC 1 ⟨[], 0, [], 0⟩ (go_oid_arcs_ok hr1) ?_
  refine kP 2 (x_lne_neq (c := (cI .i64)) (e := 3) (sz := 1) (b := 8) (tok := .none) hx2) ?_
  exact kE ⟨[], 0, [], 0⟩
 refine b_ret ?_
 obtain rfl := Option.some.inj h
 exact rtn ⟨[], 0, [], 0⟩ (.inr rfl)
def go_gname_of (n : Nat) (a0 : Int) : Option Int :=
 if (a0 == 1) = true then (some 0) else (if (a0 == 2) = true then (some 1) else (if (a0 == 4) = true then (some 2) else (if (a0 == 7) = true then (some 3) else (some 4))))
theorem go_gname_of_ok {n : Nat} {a0 : Int} {r : Int} (h : go_gname_of n a0 = some r) : ACalls Tryz.prog (gl0 mx) 170 [.int .i64 a0] ⟨[], []⟩ (Out (.int .i64 r) ⟨[], []⟩) := by
 delta go_gname_of at h
 refine fnc Tryz.func170 rfl ?_
 refine b_seq ?_
 refine reg ⟨12, [(0, .int .i64 a0)]⟩ ⟨[], []⟩ ?_ ?_
 ·exact kE ⟨[], 0, [], 0⟩
 refine b_seq ?_
 refine b_seq ?_
 refine reg ⟨12, [(3, .int .i64 a0)]⟩ ⟨[], []⟩ ?_ ?_
 ·exact kE ⟨[], 0, [], 0⟩
 refine b_block ?_
 refine b_seq ?_
 refine reg ⟨12, [(3, .int .i64 a0), (4, .bool (a0 == 1))]⟩ ⟨[], []⟩ ?_ ?_
 ·exact kE ⟨[], 0, [], 0⟩
 refine bif_ (a0 == 1) (fun hb => ?_) (fun hb => ?_)
 ·replace h := ite_t hb h
  refine b_seq ?_
  refine reg ⟨12, [(2, .int .i64 0)]⟩ ⟨[], []⟩ ?_ ?_
  ·exact kE ⟨[], 0, [], 0⟩
  refine b_ret ?_
  refine bk_ret ?_
  obtain rfl := Option.some.inj h
  exact rtn ⟨[], 0, [], 0⟩ (.inr rfl)
 replace h := ite_f hb h
 refine b_seq ?_
 refine reg ⟨12, [(3, .int .i64 a0), (6, .bool (a0 == 2))]⟩ ⟨[], []⟩ ?_ ?_
 ·exact kE ⟨[], 0, [], 0⟩
 refine bif_ (a0 == 2) (fun hb => ?_) (fun hb => ?_)
 ·replace h := ite_t hb h
  refine b_seq ?_
  refine reg ⟨12, [(2, .int .i64 1)]⟩ ⟨[], []⟩ ?_ ?_
  ·exact kE ⟨[], 0, [], 0⟩
  refine b_ret ?_
  refine bk_ret ?_
  obtain rfl := Option.some.inj h
  exact rtn ⟨[], 0, [], 0⟩ (.inr rfl)
 replace h := ite_f hb h
 refine b_seq ?_
 refine reg ⟨12, [(3, .int .i64 a0), (8, .bool (a0 == 4))]⟩ ⟨[], []⟩ ?_ ?_
 ·exact kE ⟨[], 0, [], 0⟩
 refine bif_ (a0 == 4) (fun hb => ?_) (fun hb => ?_)
 ·replace h := ite_t hb h
  refine b_seq ?_
  refine reg ⟨12, [(2, .int .i64 2)]⟩ ⟨[], []⟩ ?_ ?_
  ·exact kE ⟨[], 0, [], 0⟩
  refine b_ret ?_
  refine bk_ret ?_
  obtain rfl := Option.some.inj h
  exact rtn ⟨[], 0, [], 0⟩ (.inr rfl)
 replace h := ite_f hb h
 refine b_seq ?_
 refine reg ⟨12, [(10, .bool (a0 == 7))]⟩ ⟨[], []⟩ ?_ ?_
 ·exact kE ⟨[], 0, [], 0⟩
 refine bif_ (a0 == 7) (fun hb => ?_) (fun hb => ?_)
 ·replace h := ite_t hb h
  refine b_seq ?_
  refine reg ⟨12, [(2, .int .i64 3)]⟩ ⟨[], []⟩ ?_ ?_
  ·exact kE ⟨[], 0, [], 0⟩
  refine b_ret ?_
  refine bk_ret ?_
  obtain rfl := Option.some.inj h
  exact rtn ⟨[], 0, [], 0⟩ (.inr rfl)
 replace h := ite_f hb h
 refine b_skip ?_
 refine bk_norm ?_
 refine b_seq ?_
 refine reg ⟨12, [(2, .int .i64 4)]⟩ ⟨[], []⟩ ?_ ?_
 ·exact kE ⟨[], 0, [], 0⟩
 refine b_ret ?_
 obtain rfl := Option.some.inj h
 exact rtn ⟨[], 0, [], 0⟩ (.inr rfl)
def go_internal_stringslite_HasPrefix (n : Nat) (a0 : (List UInt8)) (a1 : (List UInt8)) : Option Bool :=
 (if (decide ((List.length a0 : Int) ≥ (List.length a1 : Int))) = true then ((ssl a0 0 (List.length a1 : Int)).bind fun x1 =>
 some (x1 == a1)) else (some false)).bind fun y3 =>
 some y3
theorem go_internal_stringslite_HasPrefix_ok {n : Nat} {a0 : (List UInt8)} {a1 : (List UInt8)} {r : Bool} (h : go_internal_stringslite_HasPrefix n a0 a1 = some r) : ACalls Tryz.prog (gl0 mx) 289 [.str a0, .str a1] ⟨[], []⟩ (Out (.bool r) ⟨[], []⟩) := by
 delta go_internal_stringslite_HasPrefix at h
 refine fnc Tryz.func289 rfl ?_
 refine b_seq ?_
 refine reg ⟨18, [(0, .str a0), (1, .str a1)]⟩ ⟨[], []⟩ ?_ ?_
 ·exact kE ⟨[], 0, [], 0⟩
 refine b_seq ?_
 obtain ⟨y3, hE, h⟩ := bindE h
 refine reg ⟨18, [(4, .bool y3)]⟩ ⟨[], []⟩ ?_ ?_
 ·replace h := hE
  refine kG 6 10 (decide ((List.length a0 : Int) ≥ (List.length a1 : Int))) (fun hb => ?_) (fun hb => ?_)
  ·have h := ite_t hb h
   obtain ⟨x1, hx1, h⟩ := bindE h
   refine kP 9 (x_ssl_hi (k := .i64) hx1) ?_
   obtain rfl := Option.some.inj h
   exact kE ⟨[], 0, [], 0⟩
  have h := ite_f hb h
  obtain rfl := Option.some.inj h
  exact kE ⟨[], 0, [], 0⟩
 refine b_ret ?_
 obtain rfl := Option.some.inj h
 exact rtn ⟨[], 0, [], 0⟩ (.inr rfl)
def go_strings_HasPrefix (n : Nat) (a0 : (List UInt8)) (a1 : (List UInt8)) : Option Bool :=
 (go_internal_stringslite_HasPrefix n a0 a1).bind fun r1 =>
 some r1
theorem go_strings_HasPrefix_ok {n : Nat} {a0 : (List UInt8)} {a1 : (List UInt8)} {r : Bool} (h : go_strings_HasPrefix n a0 a1 = some r) : ACalls Tryz.prog (gl0 mx) 268 [.str a0, .str a1] ⟨[], []⟩ (Out (.bool r) ⟨[], []⟩) := by
 delta go_strings_HasPrefix at h
 refine fnc Tryz.func268 rfl ?_
 refine b_seq ?_
 refine reg ⟨8, [(0, .str a0), (1, .str a1)]⟩ ⟨[], []⟩ ?_ ?_
 ·exact kE ⟨[], 0, [], 0⟩
 refine b_seq ?_
 obtain ⟨r1, hr1, h⟩ := bindE h
 refine reg ⟨8, [(4, .bool r1)]⟩ ⟨[], []⟩ ?_ ?_
 ·refine kC 2 ⟨[], 0, [], 0⟩ (go_internal_stringslite_HasPrefix_ok hr1) ?_
  exact kE ⟨[], 0, [], 0⟩
 refine b_ret ?_
 obtain rfl := Option.some.inj h
 exact rtn ⟨[], 0, [], 0⟩ (.inr rfl)
def go_text_utf_l1 (n : Nat) (a0 : (List UInt8)) : Nat → Nat → Option (Ctl Bool Unit)
 | 0, _ => none
 | k + 1, v53 =>
  if (Nat.blt v53 (List.length a0)) = true then ((if (decide ((((udec a0 v53).1 : Nat) : Int) < 32)) = true then (some true) else (some ((((udec a0 v53).1 : Nat) : Int) == 127))).bind fun y73 =>
  if y73 = true then (some (.ret false)) else ((if ((((udec a0 v53).1 : Nat) : Int) == 65533) = true then ((ssl a0 ((v53 : Nat) : Int) (List.length a0)).bind fun x74 =>
  (go_strings_HasPrefix n x74 ([239, 191, 189] : List UInt8)).bind fun r75 =>
  some (!r75)) else (some false)).bind fun y77 =>
  if y77 = true then (some (.ret false)) else (go_text_utf_l1 n a0 k (v53 + (udec a0 v53).2)))) else (some (.nxt ()))
def go_text_utf (n : Nat) (a0 : (List UInt8)) : Option Bool :=
 ctlB (go_text_utf_l1 n a0 n 0) (fun r => some r) (fun y38 =>
 some true)
theorem go_text_utf_ok {n : Nat} {a0 : (List UInt8)} {r : Bool} (h : go_text_utf n a0 = some r) : ACalls Tryz.prog (gl0 mx) 240 [.str a0] ⟨[], []⟩ (Out (.bool r) ⟨[], []⟩) := by
 delta go_text_utf at h
 refine fnc Tryz.func240 rfl ?_
 refine b_seq ?_
 refine reg ⟨26, [(0, .str a0)]⟩ ⟨[], []⟩ ?_ ?_
 ·exact kE ⟨[], 0, [], 0⟩
 refine b_seq ?_
 refine b_seq ?_
 refine reg ⟨26, [(0, .str a0), (6, .iter 0)]⟩ ⟨[[.sit a0 0]], []⟩ ?_ ?_
 ·exact kE ⟨[0], 1, [], 0⟩
 obtain ⟨o39, hE, hr40, h⟩ := ctlE h
 refine b_blockE (Y := Unit) (fun _ => ⟨26, []⟩) (fun _ => ⟨[], []⟩) (fun z => o39 = .nxt z) ?_ cl_cons (fun y38 hy => ?_)
 ·replace h := hE
  refine b_loop (X := Nat) (fun x => ⟨26, [(0, .str a0), (6, .iter 0)]⟩) (fun x => ⟨[[.sit a0 x]], []⟩) (fun k x => go_text_utf_l1 n a0 k x = some o39) (fun _ hx => by simp [go_text_utf_l1] at hx) n 0 h (wk ⟨[0], 1, [], 0⟩) (fun k x h => ?_)
  revert h; revert x; intro v53 h
  rw [go_text_utf_l1] at h
  refine b_seq ?_
  refine b_regK ?_
  refine kIf (Nat.blt v53 (List.length a0)) (fun hb => ?_) (fun hb => ?_)
  ·have h := ite_t hb h
   refine kV 0 1 0 0 (x_next_t hb) ?_
   refine c_endT (⟨26, [(0, .str a0), (6, .iter 0), (7, .tuple [.bool true, .int .i64 ((v53 : Nat) : Int), .int .i32 (((udec a0 v53).1 : Nat) : Int)]), (8, .bool true)]⟩) (⟨[[.sit a0 (v53 + (udec a0 v53).2)]], []⟩) cl_cons (kE ⟨[0], 1, [], 0⟩) ?_
   refine b_seq ?_
   refine bif_ true (fun _ => ?_) (fun hb => Bool.noConfusion hb)
   refine b_skip ?_
   refine b_block ?_
   refine b_seq ?_
   refine reg ⟨26, [(0, .str a0), (3, .int .i64 ((v53 : Nat) : Int)), (4, .int .i32 (((udec a0 v53).1 : Nat) : Int)), (6, .iter 0)]⟩ ⟨[[.sit a0 (v53 + (udec a0 v53).2)]], []⟩ ?_ ?_
   ·exact kE ⟨[0], 1, [], 0⟩
   refine b_seq ?_
   refine b_seq ?_
   obtain ⟨y73, hE, h⟩ := bindE h
   refine reg ⟨26, [(0, .str a0), (3, .int .i64 ((v53 : Nat) : Int)), (4, .int .i32 (((udec a0 v53).1 : Nat) : Int)), (6, .iter 0), (16, .bool y73)]⟩ ⟨[[.sit a0 (v53 + (udec a0 v53).2)]], []⟩ ?_ ?_
   ·replace h := hE
    refine kG 3 13 (decide ((((udec a0 v53).1 : Nat) : Int) < 32)) (fun hb => ?_) (fun hb => ?_)
    ·have h := ite_t hb h
     obtain rfl := Option.some.inj h
     exact kE ⟨[0], 1, [], 0⟩
    have h := ite_f hb h
    obtain rfl := Option.some.inj h
    exact kE ⟨[0], 1, [], 0⟩
   refine bif_ (y73) (fun hb => ?_) (fun hb => ?_)
   ·replace h := ite_t hb h
    refine b_seq ?_
    refine reg ⟨26, [(2, .bool false)]⟩ ⟨[], []⟩ ?_ ?_
    ·exact kE ⟨[], 1, [], 0⟩
    refine b_ret ?_
    refine bk_ret ?_
    refine tk_ret ?_
    replace h := hr40 _ (Option.some.inj h).symm
    refine bl_ret ?_
    obtain rfl := Option.some.inj h
    exact rtn ⟨[], 0, [], 0⟩ (.inr rfl)
   replace h := ite_f hb h
   refine b_skip ?_
   refine b_seq ?_
   obtain ⟨y77, hE, h⟩ := bindE h
   refine reg ⟨26, [(0, .str a0), (6, .iter 0), (25, .bool y77)]⟩ ⟨[[.sit a0 (v53 + (udec a0 v53).2)]], []⟩ ?_ ?_
   ·replace h := hE
    refine kG 3 19 ((((udec a0 v53).1 : Nat) : Int) == 65533) (fun hb => ?_) (fun hb => ?_)
    ·have h := ite_t hb h
     obtain ⟨x74, hx74, h⟩ := bindE h
     obtain ⟨r75, hr75, h⟩ := bindE h
     refine kP 5 (x_ssl_lo (k := .i64) hx74) ?_
     refine kC 6 ⟨[], 1, [], 0⟩ (go_strings_HasPrefix_ok hr75) ?_
     obtain rfl := Option.some.inj h
     exact kE ⟨[0], 1, [], 0⟩
    have h := ite_f hb h
    obtain rfl := Option.some.inj h
    exact kE ⟨[0], 1, [], 0⟩
   refine bif_ (y77) (fun hb => ?_) (fun hb => ?_)
   ·replace h := ite_t hb h
    refine b_seq ?_
    refine reg ⟨26, [(2, .bool false)]⟩ ⟨[], []⟩ ?_ ?_
    ·exact kE ⟨[], 1, [], 0⟩
    refine b_ret ?_
    refine bk_ret ?_
    refine tk_ret ?_
    replace h := hr40 _ (Option.some.inj h).symm
    refine bl_ret ?_
    obtain rfl := Option.some.inj h
    exact rtn ⟨[], 0, [], 0⟩ (.inr rfl)
   replace h := ite_f hb h
   refine b_skip ?_
   refine bk_norm ?_
   exact ⟨v53 + (udec a0 v53).2, h, wk ⟨[0], 1, [], 0⟩⟩
  have h := ite_f hb h
  refine kV 0 1 0 0 (x_next_f hb) ?_
  refine c_endT (⟨26, [(0, .str a0), (6, .iter 0), (7, .tuple [.bool false]), (8, .bool false)]⟩) (⟨[[.sit a0 v53]], []⟩) cl_cons (kE ⟨[0], 1, [], 0⟩) ?_
  refine b_seq ?_
  refine bif_ false (fun hb => Bool.noConfusion hb) (fun _ => ?_)
  refine b_exit ?_
  refine tk_exit ?_
  refine bl_exit ?_
  exact ⟨(), (Option.some.inj h).symm, wk ⟨[], 1, [], 0⟩⟩
 replace h := h _ hy
 refine b_seq ?_
 refine reg ⟨26, [(2, .bool true)]⟩ ⟨[], []⟩ ?_ ?_
 ·exact kE ⟨[], 0, [], 0⟩
 refine b_ret ?_
 obtain rfl := Option.some.inj h
 exact rtn ⟨[], 0, [], 0⟩ (.inr rfl)
def go_text_letter (n : Nat) (a0 : Int) : Option Bool :=
 (if (decide (a0 ≥ 97)) = true then (if (decide (a0 ≤ 122)) = true then (some true) else (if (decide (a0 ≥ 65)) = true then (if (decide (a0 ≤ 90)) = true then (some true) else (if (decide (a0 ≥ 48)) = true then (some (decide (a0 ≤ 57))) else (some false))) else (if (decide (a0 ≥ 48)) = true then (some (decide (a0 ≤ 57))) else (some false)))) else (if (decide (a0 ≥ 65)) = true then (if (decide (a0 ≤ 90)) = true then (some true) else (if (decide (a0 ≥ 48)) = true then (some (decide (a0 ≤ 57))) else (some false))) else (if (decide (a0 ≥ 48)) = true then (some (decide (a0 ≤ 57))) else (some false)))).bind fun y2 =>
 some y2
theorem go_text_letter_ok {n : Nat} {a0 : Int} {r : Bool} (h : go_text_letter n a0 = some r) : ACalls Tryz.prog (gl0 mx) 243 [.int .u8 a0] ⟨[], []⟩ (Out (.bool r) ⟨[], []⟩) := by
 delta go_text_letter at h
 refine fnc Tryz.func243 rfl ?_
 refine b_seq ?_
 refine reg ⟨25, [(0, .int .u8 a0)]⟩ ⟨[], []⟩ ?_ ?_
 ·exact kE ⟨[], 0, [], 0⟩
 refine b_seq ?_
 obtain ⟨y2, hE, h⟩ := bindE h
 refine reg ⟨25, [(2, .bool y2)]⟩ ⟨[], []⟩ ?_ ?_
 ·replace h := hE
  refine kG 3 5 (decide (a0 ≥ 97)) (fun hb => ?_) (fun hb => ?_)
  ·have h := ite_t hb h
   refine kG 7 9 (decide (a0 ≤ 122)) (fun hb => ?_) (fun hb => ?_)
   ·have h := ite_t hb h
    obtain rfl := Option.some.inj h
    exact kE ⟨[], 0, [], 0⟩
   have h := ite_f hb h
   refine kG 10 12 (decide (a0 ≥ 65)) (fun hb => ?_) (fun hb => ?_)
   ·have h := ite_t hb h
    refine kG 15 17 (decide (a0 ≤ 90)) (fun hb => ?_) (fun hb => ?_)
    ·have h := ite_t hb h
     obtain rfl := Option.some.inj h
     exact kE ⟨[], 0, [], 0⟩
    have h := ite_f hb h
    refine kG 18 20 (decide (a0 ≥ 48)) (fun hb => ?_) (fun hb => ?_)
    ·have h := ite_t hb h
     obtain rfl := Option.some.inj h
     exact kE ⟨[], 0, [], 0⟩
    have h := ite_f hb h
    obtain rfl := Option.some.inj h
    exact kE ⟨[], 0, [], 0⟩
   have h := ite_f hb h
   refine kG 18 20 (decide (a0 ≥ 48)) (fun hb => ?_) (fun hb => ?_)
   ·have h := ite_t hb h
    obtain rfl := Option.some.inj h
    exact kE ⟨[], 0, [], 0⟩
   have h := ite_f hb h
   obtain rfl := Option.some.inj h
   exact kE ⟨[], 0, [], 0⟩
  have h := ite_f hb h
  refine kG 10 12 (decide (a0 ≥ 65)) (fun hb => ?_) (fun hb => ?_)
  ·have h := ite_t hb h
   refine kG 15 17 (decide (a0 ≤ 90)) (fun hb => ?_) (fun hb => ?_)
   ·have h := ite_t hb h
    obtain rfl := Option.some.inj h
    exact kE ⟨[], 0, [], 0⟩
   have h := ite_f hb h
   refine kG 18 20 (decide (a0 ≥ 48)) (fun hb => ?_) (fun hb => ?_)
   ·have h := ite_t hb h
    obtain rfl := Option.some.inj h
    exact kE ⟨[], 0, [], 0⟩
   have h := ite_f hb h
   obtain rfl := Option.some.inj h
   exact kE ⟨[], 0, [], 0⟩
  have h := ite_f hb h
  refine kG 18 20 (decide (a0 ≥ 48)) (fun hb => ?_) (fun hb => ?_)
  ·have h := ite_t hb h
   obtain rfl := Option.some.inj h
   exact kE ⟨[], 0, [], 0⟩
  have h := ite_f hb h
  obtain rfl := Option.some.inj h
  exact kE ⟨[], 0, [], 0⟩
 refine b_ret ?_
 obtain rfl := Option.some.inj h
 exact rtn ⟨[], 0, [], 0⟩ (.inr rfl)
def go_text_Valid_1 (n : Nat) (a0 : Int) : Option Bool :=
 ((go_text_letter n a0).bind fun r1 =>
 if r1 = true then (some true) else ((ct_IndexByte n ([32, 39, 40, 41, 43, 44, 45, 46, 47, 58, 61, 63] : List UInt8) a0).bind fun r2 =>
 some (decide (r2 ≥ 0)))).bind fun y4 =>
 some y4
theorem go_text_Valid_1_ok {n : Nat} {a0 : Int} {r : Bool} (h : go_text_Valid_1 n a0 = some r) : ACalls Tryz.prog (gl0 mx) 242 [.int .u8 a0] ⟨[], []⟩ (Out (.bool r) ⟨[], []⟩) := by
 delta go_text_Valid_1 at h
 refine fnc Tryz.func242 rfl ?_
 refine b_seq ?_
 refine reg ⟨10, [(0, .int .u8 a0)]⟩ ⟨[], []⟩ ?_ ?_
 ·exact kE ⟨[], 0, [], 0⟩
 refine b_seq ?_
 obtain ⟨y4, hE, h⟩ := bindE h
 refine reg ⟨10, [(2, .bool y4)]⟩ ⟨[], []⟩ ?_ ?_
 ·replace h := hE
  obtain ⟨r1, hr1, h⟩ := bindE h
  refine kC 1 ⟨[], 0, [], 0⟩ (go_text_letter_ok hr1) ?_
  refine kG 3 5 (r1) (fun hb => ?_) (fun hb => ?_)
  ·have h := ite_t hb h
   obtain rfl := Option.some.inj h
   exact kE ⟨[], 0, [], 0⟩
  have h := ite_f hb h
  obtain ⟨r2, hr2, h⟩ := bindE h
  refine kC 4 ⟨[], 0, [], 0⟩ (ct_IndexByte_ok hr2) ?_
  obtain rfl := Option.some.inj h
  exact kE ⟨[], 0, [], 0⟩
 refine b_ret ?_
 obtain rfl := Option.some.inj h
 exact rtn ⟨[], 0, [], 0⟩ (.inr rfl)
def go_text_all_l1 (n : Nat) (a0 : (List UInt8)) : Nat → Int → Option (Ctl Bool Unit)
 | 0, _ => none
 | k + 1, v21 =>
  if (decide (v21 < (List.length a0 : Int))) = true then ((bidx a0 v21).bind fun x28 =>
  (go_text_Valid_1 n x28).bind fun r29 =>
  if (!r29) = true then (some (.ret false)) else (go_text_all_l1 n a0 k (IntKind.wrap .i64 (v21 + 1)))) else (some (.nxt ()))
def go_text_all (n : Nat) (a0 : (List UInt8)) : Option Bool :=
 ctlB (go_text_all_l1 n a0 n 0) (fun r => some r) (fun y14 =>
 some true)
theorem go_text_all_ok {n : Nat} {a0 : (List UInt8)} {r : Bool} (h : go_text_all n a0 = some r) : ACalls Tryz.prog (gl0 mx) 241 [.str a0, .func (.func 242) [] []] ⟨[], []⟩ (Out (.bool r) ⟨[], []⟩) := by
 delta go_text_all at h
 refine fnc Tryz.func241 rfl ?_
 refine b_seq ?_
 refine reg ⟨18, [(0, .str a0), (1, .func (.func 242) [] [])]⟩ ⟨[], []⟩ ?_ ?_
 ·exact kE ⟨[], 0, [], 0⟩
 refine b_seq ?_
 refine b_seq ?_
 refine reg ⟨18, [(0, .str a0), (1, .func (.func 242) [] []), (5, .int .i64 0)]⟩ ⟨[], []⟩ ?_ ?_
 ·exact kE ⟨[], 0, [], 0⟩
 obtain ⟨o15, hE, hr16, h⟩ := ctlE h
 refine b_blockE (Y := Unit) (fun _ => ⟨18, []⟩) (fun _ => ⟨[], []⟩) (fun z => o15 = .nxt z) ?_ cl_cons (fun y14 hy => ?_)
 ·replace h := hE
  refine b_loop (X := Int) (fun x => ⟨18, [(0, .str a0), (1, .func (.func 242) [] []), (5, .int .i64 x)]⟩) (fun x => ⟨[], []⟩) (fun k x => go_text_all_l1 n a0 k x = some o15) (fun _ hx => by simp [go_text_all_l1] at hx) n 0 h (wk ⟨[], 0, [], 0⟩) (fun k x h => ?_)
  revert h; revert x; intro v21 h
  rw [go_text_all_l1] at h
  refine b_seq ?_
  refine b_seq ?_
  refine reg ⟨18, [(0, .str a0), (1, .func (.func 242) [] []), (5, .int .i64 v21), (9, .bool (decide (v21 < (List.length a0 : Int))))]⟩ ⟨[], []⟩ ?_ ?_
  ·exact kE ⟨[], 0, [], 0⟩
  refine bif_ (decide (v21 < (List.length a0 : Int))) (fun hb => ?_) (fun hb => ?_)
  ·replace h := ite_t hb h
   refine b_skip ?_
   refine b_seq ?_
   refine b_block ?_
   refine b_seq ?_
   obtain ⟨x28, hx28, h⟩ := bindE h
   obtain ⟨r29, hr29, h⟩ := bindE h
   refine reg ⟨18, [(0, .str a0), (1, .func (.func 242) [] []), (5, .int .i64 v21), (17, .bool (!r29))]⟩ ⟨[], []⟩ ?_ ?_
   ·refine kP 3 (x_bidx hx28) ?_
    refine kC 4 ⟨[], 0, [], 0⟩ (go_text_Valid_1_ok hr29) ?_
    exact kE ⟨[], 0, [], 0⟩
   refine bif_ (!r29) (fun hb => ?_) (fun hb => ?_)
   ·replace h := ite_t hb h
    refine b_seq ?_
    refine reg ⟨18, [(4, .bool false)]⟩ ⟨[], []⟩ ?_ ?_
    ·exact kE ⟨[], 0, [], 0⟩
    refine b_ret ?_
    refine bk_ret ?_
    refine tk_ret ?_
    replace h := hr16 _ (Option.some.inj h).symm
    refine bl_ret ?_
    obtain rfl := Option.some.inj h
    exact rtn ⟨[], 0, [], 0⟩ (.inr rfl)
   replace h := ite_f hb h
   refine b_skip ?_
   refine bk_norm ?_
   refine regN ⟨18, [(0, .str a0), (1, .func (.func 242) [] []), (5, .int .i64 (IntKind.wrap .i64 (v21 + 1)))]⟩ ⟨[], []⟩ cl_loopT ?_ ?_
   ·exact kE ⟨[], 0, [], 0⟩
   exact ⟨IntKind.wrap .i64 (v21 + 1), h, wk ⟨[], 0, [], 0⟩⟩
  replace h := ite_f hb h
  refine b_exit ?_
  refine tk_exit ?_
  refine bl_exit ?_
  exact ⟨(), (Option.some.inj h).symm, wk ⟨[], 0, [], 0⟩⟩
 replace h := h _ hy
 refine b_seq ?_
 refine reg ⟨18, [(4, .bool true)]⟩ ⟨[], []⟩ ?_ ?_
 ·exact kE ⟨[], 0, [], 0⟩
 refine b_ret ?_
 obtain rfl := Option.some.inj h
 exact rtn ⟨[], 0, [], 0⟩ (.inr rfl)
def go_text_Valid_2 (n : Nat) (a0 : Int) : Option Bool :=
 (if (decide (a0 ≥ 32)) = true then (some (decide (a0 ≤ 126))) else (some false)).bind fun y2 =>
 some y2
theorem go_text_Valid_2_ok {n : Nat} {a0 : Int} {r : Bool} (h : go_text_Valid_2 n a0 = some r) : ACalls Tryz.prog (gl0 mx) 245 [.int .u8 a0] ⟨[], []⟩ (Out (.bool r) ⟨[], []⟩) := by
 delta go_text_Valid_2 at h
 refine fnc Tryz.func245 rfl ?_
 refine b_seq ?_
 refine reg ⟨9, [(0, .int .u8 a0)]⟩ ⟨[], []⟩ ?_ ?_
 ·exact kE ⟨[], 0, [], 0⟩
 refine b_seq ?_
 obtain ⟨y2, hE, h⟩ := bindE h
 refine reg ⟨9, [(2, .bool y2)]⟩ ⟨[], []⟩ ?_ ?_
 ·replace h := hE
  refine kG 3 5 (decide (a0 ≥ 32)) (fun hb => ?_) (fun hb => ?_)
  ·have h := ite_t hb h
   obtain rfl := Option.some.inj h
   exact kE ⟨[], 0, [], 0⟩
  have h := ite_f hb h
  obtain rfl := Option.some.inj h
  exact kE ⟨[], 0, [], 0⟩
 refine b_ret ?_
 obtain rfl := Option.some.inj h
 exact rtn ⟨[], 0, [], 0⟩ (.inr rfl)
def go_text_all_2_l1 (n : Nat) (a0 : (List UInt8)) : Nat → Int → Option (Ctl Bool Unit)
 | 0, _ => none
 | k + 1, v21 =>
  if (decide (v21 < (List.length a0 : Int))) = true then ((bidx a0 v21).bind fun x28 =>
  (go_text_Valid_2 n x28).bind fun r29 =>
  if (!r29) = true then (some (.ret false)) else (go_text_all_2_l1 n a0 k (IntKind.wrap .i64 (v21 + 1)))) else (some (.nxt ()))
def go_text_all_2 (n : Nat) (a0 : (List UInt8)) : Option Bool :=
 ctlB (go_text_all_2_l1 n a0 n 0) (fun r => some r) (fun y14 =>
 some true)
theorem go_text_all_2_ok {n : Nat} {a0 : (List UInt8)} {r : Bool} (h : go_text_all_2 n a0 = some r) : ACalls Tryz.prog (gl0 mx) 241 [.str a0, .func (.func 245) [] []] ⟨[], []⟩ (Out (.bool r) ⟨[], []⟩) := by
 delta go_text_all_2 at h
 refine fnc Tryz.func241 rfl ?_
 refine b_seq ?_
 refine reg ⟨18, [(0, .str a0), (1, .func (.func 245) [] [])]⟩ ⟨[], []⟩ ?_ ?_
 ·exact kE ⟨[], 0, [], 0⟩
 refine b_seq ?_
 refine b_seq ?_
 refine reg ⟨18, [(0, .str a0), (1, .func (.func 245) [] []), (5, .int .i64 0)]⟩ ⟨[], []⟩ ?_ ?_
 ·exact kE ⟨[], 0, [], 0⟩
 obtain ⟨o15, hE, hr16, h⟩ := ctlE h
 refine b_blockE (Y := Unit) (fun _ => ⟨18, []⟩) (fun _ => ⟨[], []⟩) (fun z => o15 = .nxt z) ?_ cl_cons (fun y14 hy => ?_)
 ·replace h := hE
  refine b_loop (X := Int) (fun x => ⟨18, [(0, .str a0), (1, .func (.func 245) [] []), (5, .int .i64 x)]⟩) (fun x => ⟨[], []⟩) (fun k x => go_text_all_2_l1 n a0 k x = some o15) (fun _ hx => by simp [go_text_all_2_l1] at hx) n 0 h (wk ⟨[], 0, [], 0⟩) (fun k x h => ?_)
  revert h; revert x; intro v21 h
  rw [go_text_all_2_l1] at h
  refine b_seq ?_
  refine b_seq ?_
  refine reg ⟨18, [(0, .str a0), (1, .func (.func 245) [] []), (5, .int .i64 v21), (9, .bool (decide (v21 < (List.length a0 : Int))))]⟩ ⟨[], []⟩ ?_ ?_
  ·exact kE ⟨[], 0, [], 0⟩
  refine bif_ (decide (v21 < (List.length a0 : Int))) (fun hb => ?_) (fun hb => ?_)
  ·replace h := ite_t hb h
   refine b_skip ?_
   refine b_seq ?_
   refine b_block ?_
   refine b_seq ?_
   obtain ⟨x28, hx28, h⟩ := bindE h
   obtain ⟨r29, hr29, h⟩ := bindE h
   refine reg ⟨18, [(0, .str a0), (1, .func (.func 245) [] []), (5, .int .i64 v21), (17, .bool (!r29))]⟩ ⟨[], []⟩ ?_ ?_
   ·refine kP 3 (x_bidx hx28) ?_
    refine kC 4 ⟨[], 0, [], 0⟩ (go_text_Valid_2_ok hr29) ?_
    exact kE ⟨[], 0, [], 0⟩
   refine bif_ (!r29) (fun hb => ?_) (fun hb => ?_)
   ·replace h := ite_t hb h
    refine b_seq ?_
    refine reg ⟨18, [(4, .bool false)]⟩ ⟨[], []⟩ ?_ ?_
    ·exact kE ⟨[], 0, [], 0⟩
    refine b_ret ?_
    refine bk_ret ?_
    refine tk_ret ?_
    replace h := hr16 _ (Option.some.inj h).symm
    refine bl_ret ?_
    obtain rfl := Option.some.inj h
    exact rtn ⟨[], 0, [], 0⟩ (.inr rfl)
   replace h := ite_f hb h
   refine b_skip ?_
   refine bk_norm ?_
   refine regN ⟨18, [(0, .str a0), (1, .func (.func 245) [] []), (5, .int .i64 (IntKind.wrap .i64 (v21 + 1)))]⟩ ⟨[], []⟩ cl_loopT ?_ ?_
   ·exact kE ⟨[], 0, [], 0⟩
   exact ⟨IntKind.wrap .i64 (v21 + 1), h, wk ⟨[], 0, [], 0⟩⟩
  replace h := ite_f hb h
  refine b_exit ?_
  refine tk_exit ?_
  refine bl_exit ?_
  exact ⟨(), (Option.some.inj h).symm, wk ⟨[], 0, [], 0⟩⟩
 replace h := h _ hy
 refine b_seq ?_
 refine reg ⟨18, [(4, .bool true)]⟩ ⟨[], []⟩ ?_ ?_
 ·exact kE ⟨[], 0, [], 0⟩
 refine b_ret ?_
 obtain rfl := Option.some.inj h
 exact rtn ⟨[], 0, [], 0⟩ (.inr rfl)
def go_text_Valid (n : Nat) (a0 : Int) (a1 : (List UInt8)) : Option Bool :=
 if (a0 == 12) = true then ((go_text_utf n a1).bind fun r4 =>
 some r4) else (if (a0 == 19) = true then ((go_text_all n a1).bind fun r5 =>
 some r5) else (if (a0 == 22) = true then ((go_text_all_2 n a1).bind fun r6 =>
 some r6) else (some false)))
theorem go_text_Valid_ok {n : Nat} {a0 : Int} {a1 : (List UInt8)} {r : Bool} (h : go_text_Valid n a0 a1 = some r) : ACalls Tryz.prog (gl0 mx) 212 [.int .i64 a0, .str a1] ⟨[], []⟩ (Out (.bool r) ⟨[], []⟩) := by
 delta go_text_Valid at h
 refine fnc Tryz.func212 rfl ?_
 refine b_seq ?_
 refine reg ⟨18, [(0, .int .i64 a0), (1, .str a1)]⟩ ⟨[], []⟩ ?_ ?_
 ·exact kE ⟨[], 0, [], 0⟩
 refine b_seq ?_
 refine b_seq ?_
 refine reg ⟨18, [(1, .str a1), (5, .int .i64 a0)]⟩ ⟨[], []⟩ ?_ ?_
 ·exact kE ⟨[], 0, [], 0⟩
 refine b_block ?_
 refine b_seq ?_
 refine reg ⟨18, [(1, .str a1), (5, .int .i64 a0), (6, .bool (a0 == 12))]⟩ ⟨[], []⟩ ?_ ?_
 ·exact kE ⟨[], 0, [], 0⟩
 refine bif_ (a0 == 12) (fun hb => ?_) (fun hb => ?_)
 ·replace h := ite_t hb h
  refine b_seq ?_
  obtain ⟨r4, hr4, h⟩ := bindE h
  refine reg ⟨18, [(4, .bool r4)]⟩ ⟨[], []⟩ ?_ ?_
  ·refine kC 1 ⟨[], 0, [], 0⟩ (go_text_utf_ok hr4) ?_
   exact kE ⟨[], 0, [], 0⟩
  refine b_ret ?_
  refine bk_ret ?_
  obtain rfl := Option.some.inj h
  exact rtn ⟨[], 0, [], 0⟩ (.inr rfl)
 replace h := ite_f hb h
 refine b_seq ?_
 refine reg ⟨18, [(1, .str a1), (5, .int .i64 a0), (10, .bool (a0 == 19))]⟩ ⟨[], []⟩ ?_ ?_
 ·exact kE ⟨[], 0, [], 0⟩
 refine bif_ (a0 == 19) (fun hb => ?_) (fun hb => ?_)
 ·replace h := ite_t hb h
  refine b_seq ?_
  obtain ⟨r5, hr5, h⟩ := bindE h
  refine reg ⟨18, [(4, .bool r5)]⟩ ⟨[], []⟩ ?_ ?_
  ·refine kC 1 ⟨[], 0, [], 0⟩ (go_text_all_ok hr5) ?_
   exact kE ⟨[], 0, [], 0⟩
  refine b_ret ?_
  refine bk_ret ?_
  obtain rfl := Option.some.inj h
  exact rtn ⟨[], 0, [], 0⟩ (.inr rfl)
 replace h := ite_f hb h
 refine b_seq ?_
 refine reg ⟨18, [(1, .str a1), (14, .bool (a0 == 22))]⟩ ⟨[], []⟩ ?_ ?_
 ·exact kE ⟨[], 0, [], 0⟩
 refine bif_ (a0 == 22) (fun hb => ?_) (fun hb => ?_)
 ·replace h := ite_t hb h
  refine b_seq ?_
  obtain ⟨r6, hr6, h⟩ := bindE h
  refine reg ⟨18, [(4, .bool r6)]⟩ ⟨[], []⟩ ?_ ?_
  ·refine kC 1 ⟨[], 0, [], 0⟩ (go_text_all_2_ok hr6) ?_
   exact kE ⟨[], 0, [], 0⟩
  refine b_ret ?_
  refine bk_ret ?_
  obtain rfl := Option.some.inj h
  exact rtn ⟨[], 0, [], 0⟩ (.inr rfl)
 replace h := ite_f hb h
 refine b_skip ?_
 refine bk_norm ?_
 refine b_seq ?_
 refine reg ⟨18, [(4, .bool false)]⟩ ⟨[], []⟩ ?_ ?_
 ·exact kE ⟨[], 0, [], 0⟩
 refine b_ret ?_
 obtain rfl := Option.some.inj h
 exact rtn ⟨[], 0, [], 0⟩ (.inr rfl)
def go_dname_checkRelative_l2 (n : Nat) (x402 : (List T_api_Attribute)) (x397 : T_api_Attribute) : Nat → Int → Option (Ctl Int Unit)
 | 0, _ => none
 | k + 1, v415 =>
  if (decide (v415 < (List.length x402 : Int))) = true then ((lidx x402 v415).bind fun x419 =>
  if (x419.f_Type == x397.f_Type) = true then (some (.ret 10)) else (go_dname_checkRelative_l2 n x402 x397 k (IntKind.wrap .i64 (v415 + 1)))) else (some (.nxt ()))
def go_dname_checkRelative_l1 (n : Nat) (a0 : (List T_api_Attribute)) : Nat → Int → Option (Ctl Int Unit)
 | 0, _ => none
 | k + 1, v281 =>
  if (decide (v281 < (List.length a0 : Int))) = true then ((lidx a0 v281).bind fun x397 =>
  (go_oid_Valid n x397.f_Type).bind fun r398 =>
  if (!r398) = true then (some (.ret 11)) else ((if (x397.f_Value == ([] : List UInt8)) = true then (some true) else ((go_text_Valid n x397.f_Kind x397.f_Value).bind fun r399 =>
  some (!r399))).bind fun y401 =>
  if y401 = true then (some (.ret 13)) else (if (decide ((List.length x397.f_Value : Int) > 64)) = true then (some (.ret 2)) else ((lsl a0 0 v281).bind fun x402 =>
  ctlB (go_dname_checkRelative_l2 n x402 x397 n 0) (fun r => some (.ret r)) (fun y410 =>
  go_dname_checkRelative_l1 n a0 k (IntKind.wrap .i64 (v281 + 1))))))) else (some (.nxt ()))
def go_dname_checkRelative (n : Nat) (a0 : (List T_api_Attribute)) : Option Int :=
 if ((List.length a0 : Int) == 0) = true then (some 14) else (if (decide ((List.length a0 : Int) > 4)) = true then (some 2) else (ctlB (go_dname_checkRelative_l1 n a0 n 0) (fun r => some r) (fun y209 =>
 some 0)))
theorem go_dname_checkRelative_ok {n : Nat} {a0 : (List T_api_Attribute)} {r : Int} (h : go_dname_checkRelative n a0 = some r) : ACalls Tryz.prog (gl0 mx) 160 [.sl 3 (List.map T_api_Attribute.cells a0) .none] ⟨[], []⟩ (Out (.int .i64 r) ⟨[], []⟩) := by
 delta go_dname_checkRelative at h
 refine fnc Tryz.func160 rfl ?_
 refine b_seq ?_
 refine reg ⟨54, [(0, .sl 3 (List.map T_api_Attribute.cells a0) .none)]⟩ ⟨[], []⟩ ?_ ?_
 ·exact kE ⟨[], 0, [], 0⟩
 refine b_seq ?_
 refine b_seq ?_
 refine reg ⟨54, [(0, .sl 3 (List.map T_api_Attribute.cells a0) .none), (9, .bool ((List.length a0 : Int) == 0))]⟩ ⟨[], []⟩ ?_ ?_
 ·refine kP 1 (x_len (c := T_api_Attribute.cells) (l := a0) (e := 140) (sz := 3) (sz' := 3) (b := 40) (tok := .none)) ?_
  exact kE ⟨[], 0, [], 0⟩
 refine bif_ ((List.length a0 : Int) == 0) (fun hb => ?_) (fun hb => ?_)
 ·replace h := ite_t hb h
  refine b_seq ?_
  refine reg ⟨54, [(2, .int .i64 14)]⟩ ⟨[], []⟩ ?_ ?_
  ·exact kE ⟨[], 0, [], 0⟩
  refine b_ret ?_
  obtain rfl := Option.some.inj h
  exact rtn ⟨[], 0, [], 0⟩ (.inr rfl)
 replace h := ite_f hb h
 refine b_skip ?_
 refine b_seq ?_
 refine b_seq ?_
 refine reg ⟨54, [(0, .sl 3 (List.map T_api_Attribute.cells a0) .none), (12, .bool (decide ((List.length a0 : Int) > 4)))]⟩ ⟨[], []⟩ ?_ ?_
 ·refine kP 1 (x_len (c := T_api_Attribute.cells) (l := a0) (e := 140) (sz := 3) (sz' := 3) (b := 40) (tok := .none)) ?_
  exact kE ⟨[], 0, [], 0⟩
 refine bif_ (decide ((List.length a0 : Int) > 4)) (fun hb => ?_) (fun hb => ?_)
 ·replace h := ite_t hb h
  refine b_seq ?_
  refine reg ⟨54, [(2, .int .i64 2)]⟩ ⟨[], []⟩ ?_ ?_
  ·exact kE ⟨[], 0, [], 0⟩
  refine b_ret ?_
  obtain rfl := Option.some.inj h
  exact rtn ⟨[], 0, [], 0⟩ (.inr rfl)
 replace h := ite_f hb h
 refine b_skip ?_
 refine b_seq ?_
 refine b_seq ?_
 refine reg ⟨54, [(0, .sl 3 (List.map T_api_Attribute.cells a0) .none), (13, .sl 3 (List.map T_api_Attribute.cells a0) .none), (14, .int .i64 (List.length a0 : Int)), (15, .int .i64 0)]⟩ ⟨[], []⟩ ?_ ?_
 ·refine kP 1 (x_len (c := T_api_Attribute.cells) (l := a0) (e := 140) (sz := 3) (sz' := 3) (b := 40) (tok := .none)) ?_
  exact kE ⟨[], 0, [], 0⟩
 obtain ⟨o210, hE, hr211, h⟩ := ctlE h
 refine b_blockE (Y := Unit) (fun _ => ⟨54, []⟩) (fun _ => ⟨[], []⟩) (fun z => o210 = .nxt z) ?_ cl_cons (fun y209 hy => ?_)
 ·replace h := hE
  refine b_loop (X := Int) (fun x => ⟨54, [(0, .sl 3 (List.map T_api_Attribute.cells a0) .none), (13, .sl 3 (List.map T_api_Attribute.cells a0) .none), (14, .int .i64 (List.length a0 : Int)), (15, .int .i64 x)]⟩) (fun x => ⟨[], []⟩) (fun k x => go_dname_checkRelative_l1 n a0 k x = some o210) (fun _ hx => by simp [go_dname_checkRelative_l1] at hx) n 0 h (wk ⟨[], 0, [], 0⟩) (fun k x h => ?_)
  revert h; revert x; intro v281 h
  rw [go_dname_checkRelative_l1] at h
  refine b_seq ?_
  refine reg ⟨54, [(0, .sl 3 (List.map T_api_Attribute.cells a0) .none), (13, .sl 3 (List.map T_api_Attribute.cells a0) .none), (14, .int .i64 (List.length a0 : Int)), (15, .int .i64 v281), (16, .bool (decide (v281 < (List.length a0 : Int))))]⟩ ⟨[], []⟩ ?_ ?_
  ·exact kE ⟨[], 0, [], 0⟩
  refine b_seq ?_
  refine bif_ (decide (v281 < (List.length a0 : Int))) (fun hb => ?_) (fun hb => ?_)
  ·replace h := ite_t hb h
   refine b_skip ?_
   refine b_seq ?_
   refine b_block ?_
   refine b_seq ?_
   obtain ⟨x397, hx397, h⟩ := bindE h
   refine reg ⟨54, [(0, .sl 3 (List.map T_api_Attribute.cells a0) .none), (3, .int .i64 v281), (4, .ptr 0 0), (13, .sl 3 (List.map T_api_Attribute.cells a0) .none), (14, .int .i64 (List.length a0 : Int)), (15, .int .i64 v281)]⟩ ⟨[[.str x397.f_Type, .int .i64 x397.f_Kind, .str x397.f_Value]], []⟩ ?_ ?_
   ·refine kP 1 (x_lidx (c := T_api_Attribute.cells) (e := 140) (sz := 3) (b := 40) (tok := .none) hx397) ?_
    exact kE ⟨[0], 1, [], 0⟩
   refine b_seq ?_
   refine b_seq ?_
   obtain ⟨r398, hr398, h⟩ := bindE h
   refine reg ⟨54, [(0, .sl 3 (List.map T_api_Attribute.cells a0) .none), (3, .int .i64 v281), (4, .ptr 0 0), (13, .sl 3 (List.map T_api_Attribute.cells a0) .none), (14, .int .i64 (List.length a0 : Int)), (15, .int .i64 v281), (23, .bool (!r398))]⟩ ⟨[[.str x397.f_Type, .int .i64 x397.f_Kind, .str x397.f_Value]], []⟩ ?_ ?_
   ·refine kC 2 ⟨[], 1, [], 0⟩ (go_oid_Valid_ok hr398) ?_
    exact kE ⟨[0], 1, [], 0⟩
   refine bif_ (!r398) (fun hb => ?_) (fun hb => ?_)
   ·replace h := ite_t hb h
    refine b_seq ?_
    refine reg ⟨54, [(2, .int .i64 11)]⟩ ⟨[], []⟩ ?_ ?_
    ·exact kE ⟨[], 1, [], 0⟩
    refine b_ret ?_
    refine bk_ret ?_
    refine tk_ret ?_
    replace h := hr211 _ (Option.some.inj h).symm
    refine bl_ret ?_
    obtain rfl := Option.some.inj h
    exact rtn ⟨[], 0, [], 0⟩ (.inr rfl)
   replace h := ite_f hb h
   refine b_skip ?_
   refine b_seq ?_
   refine b_seq ?_
   obtain ⟨y401, hE, h⟩ := bindE h
   refine reg ⟨54, [(0, .sl 3 (List.map T_api_Attribute.cells a0) .none), (3, .int .i64 v281), (4, .ptr 0 0), (13, .sl 3 (List.map T_api_Attribute.cells a0) .none), (14, .int .i64 (List.length a0 : Int)), (15, .int .i64 v281), (34, .bool y401)]⟩ ⟨[[.str x397.f_Type, .int .i64 x397.f_Kind, .str x397.f_Value]], []⟩ ?_ ?_
   ·replace h := hE
    refine kG 4 27 (x397.f_Value == ([] : List UInt8)) (fun hb => ?_) (fun hb => ?_)
    ·have h := ite_t hb h
     obtain rfl := Option.some.inj h
     exact kE ⟨[0], 1, [], 0⟩
    have h := ite_f hb h
    obtain ⟨r399, hr399, h⟩ := bindE h
    refine kC 8 ⟨[], 1, [], 0⟩ (go_text_Valid_ok hr399) ?_
    obtain rfl := Option.some.inj h
    exact kE ⟨[0], 1, [], 0⟩
   refine bif_ (y401) (fun hb => ?_) (fun hb => ?_)
   ·replace h := ite_t hb h
    refine b_seq ?_
    refine reg ⟨54, [(2, .int .i64 13)]⟩ ⟨[], []⟩ ?_ ?_
    ·exact kE ⟨[], 1, [], 0⟩
    refine b_ret ?_
    refine bk_ret ?_
    refine tk_ret ?_
    replace h := hr211 _ (Option.some.inj h).symm
    refine bl_ret ?_
    obtain rfl := Option.some.inj h
    exact rtn ⟨[], 0, [], 0⟩ (.inr rfl)
   replace h := ite_f hb h
   refine b_skip ?_
   refine b_seq ?_
   refine b_seq ?_
   refine reg ⟨54, [(0, .sl 3 (List.map T_api_Attribute.cells a0) .none), (3, .int .i64 v281), (4, .ptr 0 0), (13, .sl 3 (List.map T_api_Attribute.cells a0) .none), (14, .int .i64 (List.length a0 : Int)), (15, .int .i64 v281), (38, .bool (decide ((List.length x397.f_Value : Int) > 64)))]⟩ ⟨[[.str x397.f_Type, .int .i64 x397.f_Kind, .str x397.f_Value]], []⟩ ?_ ?_
   ·exact kE ⟨[0], 1, [], 0⟩
   refine bif_ (decide ((List.length x397.f_Value : Int) > 64)) (fun hb => ?_) (fun hb => ?_)
   ·replace h := ite_t hb h
    refine b_seq ?_
    refine reg ⟨54, [(2, .int .i64 2)]⟩ ⟨[], []⟩ ?_ ?_
    ·exact kE ⟨[], 1, [], 0⟩
    refine b_ret ?_
    refine bk_ret ?_
    refine tk_ret ?_
    replace h := hr211 _ (Option.some.inj h).symm
    refine bl_ret ?_
    obtain rfl := Option.some.inj h
    exact rtn ⟨[], 0, [], 0⟩ (.inr rfl)
   replace h := ite_f hb h
   refine b_skip ?_
   refine b_seq ?_
   obtain ⟨x402, hx402, h⟩ := bindE h
   refine reg ⟨54, [(0, .sl 3 (List.map T_api_Attribute.cells a0) .none), (4, .ptr 0 0), (13, .sl 3 (List.map T_api_Attribute.cells a0) .none), (14, .int .i64 (List.length a0 : Int)), (15, .int .i64 v281), (41, .sl 3 (List.map T_api_Attribute.cells x402) .none), (42, .int .i64 (List.length x402 : Int)), (43, .int .i64 0)]⟩ ⟨[[.str x397.f_Type, .int .i64 x397.f_Kind, .str x397.f_Value]], []⟩ ?_ ?_
   ·refine kP 2 (x_lsl_hi (k := .i64) (c := T_api_Attribute.cells) (e := 140) (sz := 3) (b := 40) (tok := .none) hx402) ?_
    refine kP 3 (x_len (c := T_api_Attribute.cells) (l := x402) (e := 140) (sz := 3) (sz' := 3) (b := 40) (tok := .none)) ?_
    exact kE ⟨[0], 1, [], 0⟩
   obtain ⟨o411, hE, hr412, h⟩ := ctlE h
   refine b_blockE (Y := Unit) (fun _ => ⟨54, [(0, .sl 3 (List.map T_api_Attribute.cells a0) .none), (13, .sl 3 (List.map T_api_Attribute.cells a0) .none), (14, .int .i64 (List.length a0 : Int)), (15, .int .i64 v281)]⟩) (fun _ => ⟨[], []⟩) (fun z => o411 = .nxt z) ?_ (cl_nil (P := Tryz.prog) (gl := gl0 mx) cl_cons) (fun y410 hy => ?_)
   ·replace h := hE
    refine b_loop (X := Int) (fun x => ⟨54, [(0, .sl 3 (List.map T_api_Attribute.cells a0) .none), (4, .ptr 0 0), (13, .sl 3 (List.map T_api_Attribute.cells a0) .none), (14, .int .i64 (List.length a0 : Int)), (15, .int .i64 v281), (41, .sl 3 (List.map T_api_Attribute.cells x402) .none), (42, .int .i64 (List.length x402 : Int)), (43, .int .i64 x)]⟩) (fun x => ⟨[[.str x397.f_Type, .int .i64 x397.f_Kind, .str x397.f_Value]], []⟩) (fun k x => go_dname_checkRelative_l2 n x402 x397 k x = some o411) (fun _ hx => by simp [go_dname_checkRelative_l2] at hx) n 0 h (wk ⟨[0], 1, [], 0⟩) (fun k x h => ?_)
    revert h; revert x; intro v415 h
    rw [go_dname_checkRelative_l2] at h
    refine b_seq ?_
    refine reg ⟨54, [(0, .sl 3 (List.map T_api_Attribute.cells a0) .none), (4, .ptr 0 0), (13, .sl 3 (List.map T_api_Attribute.cells a0) .none), (14, .int .i64 (List.length a0 : Int)), (15, .int .i64 v281), (41, .sl 3 (List.map T_api_Attribute.cells x402) .none), (42, .int .i64 (List.length x402 : Int)), (43, .int .i64 v415), (44, .bool (decide (v415 < (List.length x402 : Int))))]⟩ ⟨[[.str x397.f_Type, .int .i64 x397.f_Kind, .str x397.f_Value]], []⟩ ?_ ?_
    ·exact kE ⟨[0], 1, [], 0⟩
    refine b_seq ?_
    refine bif_ (decide (v415 < (List.length x402 : Int))) (fun hb => ?_) (fun hb => ?_)
    ·replace h := ite_t hb h
     refine b_skip ?_
     refine b_seq ?_
     refine b_block ?_
     refine b_seq ?_
     obtain ⟨x419, hx419, h⟩ := bindE h
     refine reg ⟨54, [(0, .sl 3 (List.map T_api_Attribute.cells a0) .none), (4, .ptr 0 0), (6, .ptr 1 0), (13, .sl 3 (List.map T_api_Attribute.cells a0) .none), (14, .int .i64 (List.length a0 : Int)), (15, .int .i64 v281), (41, .sl 3 (List.map T_api_Attribute.cells x402) .none), (42, .int .i64 (List.length x402 : Int)), (43, .int .i64 v415)]⟩ ⟨[[.str x397.f_Type, .int .i64 x397.f_Kind, .str x397.f_Value], [.str x419.f_Type, .int .i64 x419.f_Kind, .str x419.f_Value]], []⟩ ?_ ?_
     ·refine kP 0 (x_lidx (c := T_api_Attribute.cells) (e := 140) (sz := 3) (b := 40) (tok := .none) hx419) ?_
      exact kE ⟨[0, 1], 2, [], 0⟩
     refine b_seq ?_
     refine reg ⟨54, [(0, .sl 3 (List.map T_api_Attribute.cells a0) .none), (4, .ptr 0 0), (13, .sl 3 (List.map T_api_Attribute.cells a0) .none), (14, .int .i64 (List.length a0 : Int)), (15, .int .i64 v281), (41, .sl 3 (List.map T_api_Attribute.cells x402) .none), (42, .int .i64 (List.length x402 : Int)), (43, .int .i64 v415), (51, .bool (x419.f_Type == x397.f_Type))]⟩ ⟨[[.str x397.f_Type, .int .i64 x397.f_Kind, .str x397.f_Value]], []⟩ ?_ ?_
     ·exact kE ⟨[0], 2, [], 0⟩
     refine bif_ (x419.f_Type == x397.f_Type) (fun hb => ?_) (fun hb => ?_)
     ·replace h := ite_t hb h
      refine b_seq ?_
      refine reg ⟨54, [(2, .int .i64 10)]⟩ ⟨[], []⟩ ?_ ?_
      ·exact kE ⟨[], 1, [], 0⟩
      refine b_ret ?_
      refine bk_ret ?_
      refine tk_ret ?_
      replace h := hr412 _ (Option.some.inj h).symm
      refine bl_ret ?_
      refine bk_ret ?_
      refine tk_ret ?_
      replace h := hr211 _ (Option.some.inj h).symm
      refine bl_ret ?_
      obtain rfl := Option.some.inj h
      exact rtn ⟨[], 0, [], 0⟩ (.inr rfl)
     replace h := ite_f hb h
     refine b_skip ?_
     refine bk_norm ?_
     refine regN ⟨54, [(0, .sl 3 (List.map T_api_Attribute.cells a0) .none), (4, .ptr 0 0), (13, .sl 3 (List.map T_api_Attribute.cells a0) .none), (14, .int .i64 (List.length a0 : Int)), (15, .int .i64 v281), (41, .sl 3 (List.map T_api_Attribute.cells x402) .none), (42, .int .i64 (List.length x402 : Int)), (43, .int .i64 (IntKind.wrap .i64 (v415 + 1)))]⟩ ⟨[[.str x397.f_Type, .int .i64 x397.f_Kind, .str x397.f_Value]], []⟩ cl_loopT ?_ ?_
     ·exact kE ⟨[0], 1, [], 0⟩
     exact ⟨IntKind.wrap .i64 (v415 + 1), h, wk ⟨[0], 1, [], 0⟩⟩
    replace h := ite_f hb h
    refine b_exit ?_
    refine tk_exit ?_
    refine bl_exit ?_
    exact ⟨(), (Option.some.inj h).symm, wk ⟨[], 1, [], 0⟩⟩
   replace h := h _ hy
   refine bk_norm ?_
   refine regN ⟨54, [(0, .sl 3 (List.map T_api_Attribute.cells a0) .none), (13, .sl 3 (List.map T_api_Attribute.cells a0) .none), (14, .int .i64 (List.length a0 : Int)), (15, .int .i64 (IntKind.wrap .i64 (v281 + 1)))]⟩ ⟨[], []⟩ cl_loopT ?_ ?_
   ·exact kE ⟨[], 0, [], 0⟩
   exact ⟨IntKind.wrap .i64 (v281 + 1), h, wk ⟨[], 0, [], 0⟩⟩
  replace h := ite_f hb h
  refine b_exit ?_
  refine tk_exit ?_
  refine bl_exit ?_
  exact ⟨(), (Option.some.inj h).symm, wk ⟨[], 0, [], 0⟩⟩
 replace h := h _ hy
 refine b_seq ?_
 refine reg ⟨54, [(2, .int .i64 0)]⟩ ⟨[], []⟩ ?_ ?_
 ·exact kE ⟨[], 0, [], 0⟩
 refine b_ret ?_
 obtain rfl := Option.some.inj h
 exact rtn ⟨[], 0, [], 0⟩ (.inr rfl)
def go_dname_Check_l1 (n : Nat) (a0 : T_api_Name) : Nat → Int → Option (Ctl Int Unit)
 | 0, _ => none
 | k + 1, v21 =>
  if (decide (v21 < (List.length a0.f_RDNs : Int))) = true then ((lidx a0.f_RDNs v21).bind fun x28 =>
  (go_dname_checkRelative n x28).bind fun r29 =>
  if (r29 != 0) = true then (some (.ret r29)) else (go_dname_Check_l1 n a0 k (IntKind.wrap .i64 (v21 + 1)))) else (some (.nxt ()))
def go_dname_Check (n : Nat) (a0 : T_api_Name) : Option Int :=
 if (decide ((List.length a0.f_RDNs : Int) > 8)) = true then (some 2) else (ctlB (go_dname_Check_l1 n a0 n 0) (fun r => some r) (fun y14 =>
 some 0))
theorem go_dname_Check_ok {n : Nat} {a0 : T_api_Name} {r : Int} (h : go_dname_Check n a0 = some r) : ACalls Tryz.prog (gl0 mx) 102 [.agg [.sl 1 (List.map (cL 3 T_api_Attribute.cells) a0.f_RDNs) .none]] ⟨[], []⟩ (Out (.int .i64 r) ⟨[], []⟩) := by
 delta go_dname_Check at h
 refine fnc Tryz.func102 rfl ?_
 refine b_seq ?_
 refine reg ⟨23, [(1, .ptr 0 0)]⟩ ⟨[[.sl 1 (List.map (cL 3 T_api_Attribute.cells) a0.f_RDNs) .none]], []⟩ ?_ ?_
 ·exact kE ⟨[0], 1, [], 0⟩
 refine b_seq ?_
 refine b_seq ?_
 refine reg ⟨23, [(1, .ptr 0 0), (9, .bool (decide ((List.length a0.f_RDNs : Int) > 8)))]⟩ ⟨[[.sl 1 (List.map (cL 3 T_api_Attribute.cells) a0.f_RDNs) .none]], []⟩ ?_ ?_
 ·refine kP 2 (x_len (c := (cL 3 T_api_Attribute.cells)) (l := a0.f_RDNs) (e := 141) (sz := 1) (sz' := 1) (b := 24) (tok := .none)) ?_
  exact kE ⟨[0], 1, [], 0⟩
 refine bif_ (decide ((List.length a0.f_RDNs : Int) > 8)) (fun hb => ?_) (fun hb => ?_)
 ·replace h := ite_t hb h
  refine b_seq ?_
  refine reg ⟨23, [(2, .int .i64 2)]⟩ ⟨[], []⟩ ?_ ?_
  ·exact kE ⟨[], 1, [], 0⟩
  refine b_ret ?_
  obtain rfl := Option.some.inj h
  exact rtn ⟨[], 0, [], 0⟩ (.inr rfl)
 replace h := ite_f hb h
 refine b_skip ?_
 refine b_seq ?_
 refine b_seq ?_
 refine reg ⟨23, [(11, .sl 1 (List.map (cL 3 T_api_Attribute.cells) a0.f_RDNs) .none), (12, .int .i64 (List.length a0.f_RDNs : Int)), (13, .int .i64 0)]⟩ ⟨[], []⟩ ?_ ?_
 ·refine kP 2 (x_len (c := (cL 3 T_api_Attribute.cells)) (l := a0.f_RDNs) (e := 141) (sz := 1) (sz' := 1) (b := 24) (tok := .none)) ?_
  exact kE ⟨[], 1, [], 0⟩
 obtain ⟨o15, hE, hr16, h⟩ := ctlE h
 refine b_blockE (Y := Unit) (fun _ => ⟨23, []⟩) (fun _ => ⟨[], []⟩) (fun z => o15 = .nxt z) ?_ cl_cons (fun y14 hy => ?_)
 ·replace h := hE
  refine b_loop (X := Int) (fun x => ⟨23, [(11, .sl 1 (List.map (cL 3 T_api_Attribute.cells) a0.f_RDNs) .none), (12, .int .i64 (List.length a0.f_RDNs : Int)), (13, .int .i64 x)]⟩) (fun x => ⟨[], []⟩) (fun k x => go_dname_Check_l1 n a0 k x = some o15) (fun _ hx => by simp [go_dname_Check_l1] at hx) n 0 h (wk ⟨[], 0, [], 0⟩) (fun k x h => ?_)
  revert h; revert x; intro v21 h
  rw [go_dname_Check_l1] at h
  refine b_seq ?_
  refine reg ⟨23, [(11, .sl 1 (List.map (cL 3 T_api_Attribute.cells) a0.f_RDNs) .none), (12, .int .i64 (List.length a0.f_RDNs : Int)), (13, .int .i64 v21), (14, .bool (decide (v21 < (List.length a0.f_RDNs : Int))))]⟩ ⟨[], []⟩ ?_ ?_
  ·exact kE ⟨[], 0, [], 0⟩
  refine b_seq ?_
  refine bif_ (decide (v21 < (List.length a0.f_RDNs : Int))) (fun hb => ?_) (fun hb => ?_)
  ·replace h := ite_t hb h
   refine b_skip ?_
   refine b_seq ?_
   refine b_block ?_
   refine b_seq ?_
   obtain ⟨x28, hx28, h⟩ := bindE h
   refine reg ⟨23, [(4, .sl 3 (List.map T_api_Attribute.cells x28) .none), (11, .sl 1 (List.map (cL 3 T_api_Attribute.cells) a0.f_RDNs) .none), (12, .int .i64 (List.length a0.f_RDNs : Int)), (13, .int .i64 v21)]⟩ ⟨[], []⟩ ?_ ?_
   ·refine kP 0 (x_lidx (c := (cL 3 T_api_Attribute.cells)) (e := 141) (sz := 1) (b := 24) (tok := .none) hx28) ?_
    exact kE ⟨[], 0, [], 0⟩
   refine b_seq ?_
   obtain ⟨r29, hr29, h⟩ := bindE h
   refine reg ⟨23, [(5, .int .i64 r29), (11, .sl 1 (List.map (cL 3 T_api_Attribute.cells) a0.f_RDNs) .none), (12, .int .i64 (List.length a0.f_RDNs : Int)), (13, .int .i64 v21)]⟩ ⟨[], []⟩ ?_ ?_
   ·refine kC 1 ⟨[], 0, [], 0⟩ (go_dname_checkRelative_ok hr29) ?_
    exact kE ⟨[], 0, [], 0⟩
   refine b_seq ?_
   refine reg ⟨23, [(5, .int .i64 r29), (11, .sl 1 (List.map (cL 3 T_api_Attribute.cells) a0.f_RDNs) .none), (12, .int .i64 (List.length a0.f_RDNs : Int)), (13, .int .i64 v21), (20, .bool (r29 != 0))]⟩ ⟨[], []⟩ ?_ ?_
   ·exact kE ⟨[], 0, [], 0⟩
   refine bif_ (r29 != 0) (fun hb => ?_) (fun hb => ?_)
   ·replace h := ite_t hb h
    refine b_seq ?_
    refine reg ⟨23, [(2, .int .i64 r29)]⟩ ⟨[], []⟩ ?_ ?_
    ·exact kE ⟨[], 0, [], 0⟩
    refine b_ret ?_
    refine bk_ret ?_
    refine tk_ret ?_
    replace h := hr16 _ (Option.some.inj h).symm
    refine bl_ret ?_
    obtain rfl := Option.some.inj h
    exact rtn ⟨[], 0, [], 0⟩ (.inr rfl)
   replace h := ite_f hb h
   refine b_skip ?_
   refine bk_norm ?_
   refine regN ⟨23, [(11, .sl 1 (List.map (cL 3 T_api_Attribute.cells) a0.f_RDNs) .none), (12, .int .i64 (List.length a0.f_RDNs : Int)), (13, .int .i64 (IntKind.wrap .i64 (v21 + 1)))]⟩ ⟨[], []⟩ cl_loopT ?_ ?_
   ·exact kE ⟨[], 0, [], 0⟩
   exact ⟨IntKind.wrap .i64 (v21 + 1), h, wk ⟨[], 0, [], 0⟩⟩
  replace h := ite_f hb h
  refine b_exit ?_
  refine tk_exit ?_
  refine bl_exit ?_
  exact ⟨(), (Option.some.inj h).symm, wk ⟨[], 0, [], 0⟩⟩
 replace h := h _ hy
 refine b_seq ?_
 refine reg ⟨23, [(2, .int .i64 0)]⟩ ⟨[], []⟩ ?_ ?_
 ·exact kE ⟨[], 0, [], 0⟩
 refine b_ret ?_
 obtain rfl := Option.some.inj h
 exact rtn ⟨[], 0, [], 0⟩ (.inr rfl)
def go_internal_stringslite_Cut (n : Nat) (a0 : (List UInt8)) (a1 : (List UInt8)) : Option ((List UInt8) × (List UInt8) × Bool) :=
 (ct_lIndex n a0 a1).bind fun r1 =>
 if (decide (r1 ≥ 0)) = true then ((ssl a0 0 r1).bind fun x2 =>
 (ssl a0 (IntKind.wrap .i64 (r1 + (List.length a1 : Int))) (List.length a0)).bind fun x3 =>
 some (x2, x3, true)) else (some (a0, ([] : List UInt8), false))
theorem go_internal_stringslite_Cut_ok {n : Nat} {a0 : (List UInt8)} {a1 : (List UInt8)} {r : ((List UInt8) × (List UInt8) × Bool)} (h : go_internal_stringslite_Cut n a0 a1 = some r) : ACalls Tryz.prog (gl0 mx) 274 [.str a0, .str a1] ⟨[], []⟩ (Out (.tuple [.str r.1, .str r.2.1, .bool r.2.2]) ⟨[], []⟩) := by
 delta go_internal_stringslite_Cut at h
 refine fnc Tryz.func274 rfl ?_
 refine b_seq ?_
 refine reg ⟨23, [(0, .str a0), (1, .str a1)]⟩ ⟨[], []⟩ ?_ ?_
 ·exact kE ⟨[], 0, [], 0⟩
 refine b_seq ?_
 refine b_seq ?_
 obtain ⟨r1, hr1, h⟩ := bindE h
 refine reg ⟨23, [(0, .str a0), (1, .str a1), (7, .int .i64 r1)]⟩ ⟨[], []⟩ ?_ ?_
 ·refine kC 2 ⟨[], 0, [], 0⟩ (ct_lIndex_ok hr1) ?_
  exact kE ⟨[], 0, [], 0⟩
 refine b_seq ?_
 refine reg ⟨23, [(0, .str a0), (1, .str a1), (7, .int .i64 r1), (12, .bool (decide (r1 ≥ 0)))]⟩ ⟨[], []⟩ ?_ ?_
 ·exact kE ⟨[], 0, [], 0⟩
 refine bif_ (decide (r1 ≥ 0)) (fun hb => ?_) (fun hb => ?_)
 ·replace h := ite_t hb h
  refine b_seq ?_
  obtain ⟨x2, hx2, h⟩ := bindE h
  obtain ⟨x3, hx3, h⟩ := bindE h
  refine drw [0, 1, 2, 3, 4, 5, 6, 7, 8, 9, 10, 11] [] [[], [], [0, 1], [], [], [], [5], [4, 5, 6], [3, 4, 5, 6, 7], [0, 1, 2], [0, 1, 2, 3, 4, 5, 6, 7, 8, 9], [0, 1, 2, 3, 4, 5, 6, 7, 8, 9, 10]] ⟨23, [(4, .str x2), (5, .str x3), (6, .bool true)]⟩ ⟨[], []⟩ ?_ ?_
  ·refine dS [0, 1] ?_
   refine dP (x_ssl_hi (k := .i64) hx2) ?_
   refine dS [3, 4, 5, 6, 7] ?_
   refine dP (x_ssl_lo (k := .i64) hx3) ?_
   refine dS [9, 10, 11] ?_
   exact dE ⟨[], 0, [], 0⟩
  refine b_ret ?_
  obtain rfl := Option.some.inj h
  exact rtn ⟨[], 0, [], 0⟩ (.inr rfl)
 replace h := ite_f hb h
 refine b_skip ?_
 refine b_seq ?_
 refine reg ⟨23, [(4, .str a0), (5, .str ([] : List UInt8)), (6, .bool false)]⟩ ⟨[], []⟩ ?_ ?_
 ·exact kE ⟨[], 0, [], 0⟩
 refine b_ret ?_
 obtain rfl := Option.some.inj h
 exact rtn ⟨[], 0, [], 0⟩ (.inr rfl)
def go_strings_Cut (n : Nat) (a0 : (List UInt8)) (a1 : (List UInt8)) : Option ((List UInt8) × (List UInt8) × Bool) :=
 (go_internal_stringslite_Cut n a0 a1).bind fun r1 =>
 some (r1.1, r1.2.1, r1.2.2)
theorem go_strings_Cut_ok {n : Nat} {a0 : (List UInt8)} {a1 : (List UInt8)} {r : ((List UInt8) × (List UInt8) × Bool)} (h : go_strings_Cut n a0 a1 = some r) : ACalls Tryz.prog (gl0 mx) 253 [.str a0, .str a1] ⟨[], []⟩ (Out (.tuple [.str r.1, .str r.2.1, .bool r.2.2]) ⟨[], []⟩) := by
 delta go_strings_Cut at h
 refine fnc Tryz.func253 rfl ?_
 refine b_seq ?_
 refine reg ⟨13, [(0, .str a0), (1, .str a1)]⟩ ⟨[], []⟩ ?_ ?_
 ·exact kE ⟨[], 0, [], 0⟩
 refine b_seq ?_
 obtain ⟨r1, hr1, h⟩ := bindE h
 refine reg ⟨13, [(4, .str r1.1), (5, .str r1.2.1), (6, .bool r1.2.2)]⟩ ⟨[], []⟩ ?_ ?_
 ·refine kC 2 ⟨[], 0, [], 0⟩ (go_internal_stringslite_Cut_ok hr1) ?_
  exact kE ⟨[], 0, [], 0⟩
 refine b_ret ?_
 obtain rfl := Option.some.inj h
 exact rtn ⟨[], 0, [], 0⟩ (.inr rfl)
def go_strings_Contains (n : Nat) (a0 : (List UInt8)) (a1 : (List UInt8)) : Option Bool :=
 (ct_Index n a0 a1).bind fun r1 =>
 some (decide (r1 ≥ 0))
theorem go_strings_Contains_ok {n : Nat} {a0 : (List UInt8)} {a1 : (List UInt8)} {r : Bool} (h : go_strings_Contains n a0 a1 = some r) : ACalls Tryz.prog (gl0 mx) 256 [.str a0, .str a1] ⟨[], []⟩ (Out (.bool r) ⟨[], []⟩) := by
 delta go_strings_Contains at h
 refine fnc Tryz.func256 rfl ?_
 refine b_seq ?_
 refine reg ⟨9, [(0, .str a0), (1, .str a1)]⟩ ⟨[], []⟩ ?_ ?_
 ·exact kE ⟨[], 0, [], 0⟩
 refine b_seq ?_
 obtain ⟨r1, hr1, h⟩ := bindE h
 refine reg ⟨9, [(4, .bool (decide (r1 ≥ 0)))]⟩ ⟨[], []⟩ ?_ ?_
 ·refine kC 2 ⟨[], 0, [], 0⟩ (ct_Index_ok hr1) ?_
  exact kE ⟨[], 0, [], 0⟩
 refine b_ret ?_
 obtain rfl := Option.some.inj h
 exact rtn ⟨[], 0, [], 0⟩ (.inr rfl)
def go_host_letter (n : Nat) (a0 : Int) : Option Bool :=
 (if (decide (a0 ≥ 97)) = true then (if (decide (a0 ≤ 122)) = true then (some true) else (if (decide (a0 ≥ 65)) = true then (some (decide (a0 ≤ 90))) else (some false))) else (if (decide (a0 ≥ 65)) = true then (some (decide (a0 ≤ 90))) else (some false))).bind fun y2 =>
 some y2
theorem go_host_letter_ok {n : Nat} {a0 : Int} {r : Bool} (h : go_host_letter n a0 = some r) : ACalls Tryz.prog (gl0 mx) 275 [.int .u8 a0] ⟨[], []⟩ (Out (.bool r) ⟨[], []⟩) := by
 delta go_host_letter at h
 refine fnc Tryz.func275 rfl ?_
 refine b_seq ?_
 refine reg ⟨17, [(0, .int .u8 a0)]⟩ ⟨[], []⟩ ?_ ?_
 ·exact kE ⟨[], 0, [], 0⟩
 refine b_seq ?_
 obtain ⟨y2, hE, h⟩ := bindE h
 refine reg ⟨17, [(2, .bool y2)]⟩ ⟨[], []⟩ ?_ ?_
 ·replace h := hE
  refine kG 3 5 (decide (a0 ≥ 97)) (fun hb => ?_) (fun hb => ?_)
  ·have h := ite_t hb h
   refine kG 7 9 (decide (a0 ≤ 122)) (fun hb => ?_) (fun hb => ?_)
   ·have h := ite_t hb h
    obtain rfl := Option.some.inj h
    exact kE ⟨[], 0, [], 0⟩
   have h := ite_f hb h
   refine kG 10 12 (decide (a0 ≥ 65)) (fun hb => ?_) (fun hb => ?_)
   ·have h := ite_t hb h
    obtain rfl := Option.some.inj h
    exact kE ⟨[], 0, [], 0⟩
   have h := ite_f hb h
   obtain rfl := Option.some.inj h
   exact kE ⟨[], 0, [], 0⟩
  have h := ite_f hb h
  refine kG 10 12 (decide (a0 ≥ 65)) (fun hb => ?_) (fun hb => ?_)
  ·have h := ite_t hb h
   obtain rfl := Option.some.inj h
   exact kE ⟨[], 0, [], 0⟩
  have h := ite_f hb h
  obtain rfl := Option.some.inj h
  exact kE ⟨[], 0, [], 0⟩
 refine b_ret ?_
 obtain rfl := Option.some.inj h
 exact rtn ⟨[], 0, [], 0⟩ (.inr rfl)
def go_host_digit (n : Nat) (a0 : Int) : Option Bool :=
 (if (decide (a0 ≥ 48)) = true then (some (decide (a0 ≤ 57))) else (some false)).bind fun y2 =>
 some y2
theorem go_host_digit_ok {n : Nat} {a0 : Int} {r : Bool} (h : go_host_digit n a0 = some r) : ACalls Tryz.prog (gl0 mx) 276 [.int .u8 a0] ⟨[], []⟩ (Out (.bool r) ⟨[], []⟩) := by
 delta go_host_digit at h
 refine fnc Tryz.func276 rfl ?_
 refine b_seq ?_
 refine reg ⟨9, [(0, .int .u8 a0)]⟩ ⟨[], []⟩ ?_ ?_
 ·exact kE ⟨[], 0, [], 0⟩
 refine b_seq ?_
 obtain ⟨y2, hE, h⟩ := bindE h
 refine reg ⟨9, [(2, .bool y2)]⟩ ⟨[], []⟩ ?_ ?_
 ·replace h := hE
  refine kG 3 5 (decide (a0 ≥ 48)) (fun hb => ?_) (fun hb => ?_)
  ·have h := ite_t hb h
   obtain rfl := Option.some.inj h
   exact kE ⟨[], 0, [], 0⟩
  have h := ite_f hb h
  obtain rfl := Option.some.inj h
  exact kE ⟨[], 0, [], 0⟩
 refine b_ret ?_
 obtain rfl := Option.some.inj h
 exact rtn ⟨[], 0, [], 0⟩ (.inr rfl)
def go_host_local_l1 (n : Nat) (a0 : (List UInt8)) : Nat → Int → Option (Ctl Bool Unit)
 | 0, _ => none
 | k + 1, v114 =>
  if (decide (v114 < (List.length (s2b a0) : Int))) = true then ((lidx (s2b a0) v114).bind fun x154 =>
  ((go_host_letter n x154).bind fun r164 =>
  if r164 = true then (some true) else ((go_host_digit n x154).bind fun r165 =>
  if r165 = true then (some true) else ((ct_IndexByte n ([33, 35, 36, 37, 38, 39, 42, 43, 45, 47, 61, 63, 94, 95, 96, 123, 124, 125, 126, 46] : List UInt8) x154).bind fun r166 =>
  some (decide (r166 ≥ 0))))).bind fun y162 =>
  if (!y162) = true then (some (.ret false)) else (go_host_local_l1 n a0 k (IntKind.wrap .i64 (v114 + 1)))) else (some (.nxt ()))
def go_host_local (n : Nat) (a0 : (List UInt8)) : Option Bool :=
 (if (decide ((List.length a0 : Int) < 1)) = true then (some true) else (if (decide ((List.length a0 : Int) > 64)) = true then (some true) else ((bidx a0 0).bind fun x1 =>
 if (x1 == 46) = true then (some true) else ((bidx a0 (IntKind.wrap .i64 ((List.length a0 : Int) - 1))).bind fun x2 =>
 if (x2 == 46) = true then (some true) else ((go_strings_Contains n a0 ([46, 46] : List UInt8)).bind fun r3 =>
 some r3))))).bind fun y5 =>
 if y5 = true then (some false) else (ctlB (go_host_local_l1 n a0 n 0) (fun r => some r) (fun y85 =>
 some true))
theorem go_host_local_ok {n : Nat} {a0 : (List UInt8)} {r : Bool} (h : go_host_local n a0 = some r) : ACalls Tryz.prog (gl0 mx) 254 [.str a0] ⟨[], []⟩ (Out (.bool r) ⟨[], []⟩) := by
 delta go_host_local at h
 refine fnc Tryz.func254 rfl ?_
 refine b_seq ?_
 refine reg ⟨50, [(0, .str a0)]⟩ ⟨[], []⟩ ?_ ?_
 ·exact kE ⟨[], 0, [], 0⟩
 refine b_seq ?_
 refine b_seq ?_
 obtain ⟨y5, hE, h⟩ := bindE h
 refine reg ⟨50, [(0, .str a0), (30, .bool y5)]⟩ ⟨[], []⟩ ?_ ?_
 ·replace h := hE
  refine kG 4 9 (decide ((List.length a0 : Int) < 1)) (fun hb => ?_) (fun hb => ?_)
  ·have h := ite_t hb h
   obtain rfl := Option.some.inj h
   exact kE ⟨[], 0, [], 0⟩
  have h := ite_f hb h
  refine kG 9 14 (decide ((List.length a0 : Int) > 64)) (fun hb => ?_) (fun hb => ?_)
  ·have h := ite_t hb h
   obtain rfl := Option.some.inj h
   exact kE ⟨[], 0, [], 0⟩
  have h := ite_f hb h
  obtain ⟨x1, hx1, h⟩ := bindE h
  refine kP 10 (x_bidx hx1) ?_
  refine kG 14 19 (x1 == 46) (fun hb => ?_) (fun hb => ?_)
  ·have h := ite_t hb h
   obtain rfl := Option.some.inj h
   exact kE ⟨[], 0, [], 0⟩
  have h := ite_f hb h
  obtain ⟨x2, hx2, h⟩ := bindE h
  refine kP 18 (x_bidx hx2) ?_
  refine kG 22 27 (x2 == 46) (fun hb => ?_) (fun hb => ?_)
  ·have h := ite_t hb h
   obtain rfl := Option.some.inj h
   exact kE ⟨[], 0, [], 0⟩
  have h := ite_f hb h
  obtain ⟨r3, hr3, h⟩ := bindE h
  refine kC 23 ⟨[], 0, [], 0⟩ (go_strings_Contains_ok hr3) ?_
  obtain rfl := Option.some.inj h
  exact kE ⟨[], 0, [], 0⟩
 refine bif_ (y5) (fun hb => ?_) (fun hb => ?_)
 ·replace h := ite_t hb h
  refine b_seq ?_
  refine reg ⟨50, [(2, .bool false)]⟩ ⟨[], []⟩ ?_ ?_
  ·exact kE ⟨[], 0, [], 0⟩
  refine b_ret ?_
  obtain rfl := Option.some.inj h
  exact rtn ⟨[], 0, [], 0⟩ (.inr rfl)
 replace h := ite_f hb h
 refine b_skip ?_
 refine b_seq ?_
 refine b_seq ?_
 refine reg ⟨50, [(32, .sl 1 (List.map (cI .u8) (s2b a0)) .none), (33, .int .i64 (List.length (s2b a0) : Int)), (34, .int .i64 0)]⟩ ⟨[], []⟩ ?_ ?_
 ·refine kS 1 a0 ?_
  refine kP 2 (x_len (c := (cI .u8)) (l := s2b a0) (e := 5) (sz := 1) (sz' := 1) (b := 1) (tok := .none)) ?_
  exact kE ⟨[], 0, [], 0⟩
 obtain ⟨o86, hE, hr87, h⟩ := ctlE h
 refine b_blockE (Y := Unit) (fun _ => ⟨50, []⟩) (fun _ => ⟨[], []⟩) (fun z => o86 = .nxt z) ?_ cl_cons (fun y85 hy => ?_)
 ·replace h := hE
  refine b_loop (X := Int) (fun x => ⟨50, [(32, .sl 1 (List.map (cI .u8) (s2b a0)) .none), (33, .int .i64 (List.length (s2b a0) : Int)), (34, .int .i64 x)]⟩) (fun x => ⟨[], []⟩) (fun k x => go_host_local_l1 n a0 k x = some o86) (fun _ hx => by simp [go_host_local_l1] at hx) n 0 h (wk ⟨[], 0, [], 0⟩) (fun k x h => ?_)
  revert h; revert x; intro v114 h
  rw [go_host_local_l1] at h
  refine b_seq ?_
  refine reg ⟨50, [(32, .sl 1 (List.map (cI .u8) (s2b a0)) .none), (33, .int .i64 (List.length (s2b a0) : Int)), (34, .int .i64 v114), (35, .bool (decide (v114 < (List.length (s2b a0) : Int))))]⟩ ⟨[], []⟩ ?_ ?_
  ·exact kE ⟨[], 0, [], 0⟩
  refine b_seq ?_
  refine bif_ (decide (v114 < (List.length (s2b a0) : Int))) (fun hb => ?_) (fun hb => ?_)
  ·replace h := ite_t hb h
   refine b_skip ?_
   refine b_seq ?_
   refine b_block ?_
   refine b_seq ?_
   obtain ⟨x154, hx154, h⟩ := bindE h
   refine reg ⟨50, [(4, .int .u8 x154), (32, .sl 1 (List.map (cI .u8) (s2b a0)) .none), (33, .int .i64 (List.length (s2b a0) : Int)), (34, .int .i64 v114)]⟩ ⟨[], []⟩ ?_ ?_
   ·refine kP 0 (x_lidx (c := (cI .u8)) (e := 5) (sz := 1) (b := 1) (tok := .none) hx154) ?_
    exact kE ⟨[], 0, [], 0⟩
   refine b_seq ?_
   refine reg ⟨50, [(4, .int .u8 x154), (32, .sl 1 (List.map (cI .u8) (s2b a0)) .none), (33, .int .i64 (List.length (s2b a0) : Int)), (34, .int .i64 v114)]⟩ ⟨[], []⟩ ?_ ?_
   ·exact kE ⟨[], 0, [], 0⟩
   refine b_seq ?_
   obtain ⟨y162, hE, h⟩ := bindE h
   refine b_blockE (Y := Bool) (fun y162 => ⟨50, [(5, .bool y162), (32, .sl 1 (List.map (cI .u8) (s2b a0)) .none), (33, .int .i64 (List.length (s2b a0) : Int)), (34, .int .i64 v114)]⟩) (fun y162 => ⟨[], []⟩) (fun z => y162 = z) ?_ cl_cons (fun z hz => ?_)
   ·replace h := hE
    refine b_seq ?_
    refine b_block ?_
    refine b_seq ?_
    refine b_block ?_
    refine b_block ?_
    refine b_seq ?_
    refine b_seq ?_
    refine b_seq ?_
    obtain ⟨r164, hr164, h⟩ := bindE h
    refine reg ⟨50, [(4, .int .u8 x154), (32, .sl 1 (List.map (cI .u8) (s2b a0)) .none), (33, .int .i64 (List.length (s2b a0) : Int)), (34, .int .i64 v114), (38, .bool r164)]⟩ ⟨[], []⟩ ?_ ?_
    ·refine kC 1 ⟨[], 0, [], 0⟩ (go_host_letter_ok hr164) ?_
     exact kE ⟨[], 0, [], 0⟩
    refine bif_ (r164) (fun hb => ?_) (fun hb => ?_)
    ·replace h := ite_t hb h
     refine b_exit ?_
     refine bk_exit ?_
     refine bk_norm ?_
     refine b_seq ?_
     refine reg ⟨50, [(5, .bool true), (32, .sl 1 (List.map (cI .u8) (s2b a0)) .none), (33, .int .i64 (List.length (s2b a0) : Int)), (34, .int .i64 v114)]⟩ ⟨[], []⟩ ?_ ?_
     ·exact kE ⟨[], 0, [], 0⟩
     refine b_exit ?_
     refine bk_other (by kernel_rfl) ?_
     refine bl_exit ?_
     exact ⟨true, (Option.some.inj h).symm, wk ⟨[], 0, [], 0⟩⟩
    replace h := ite_f hb h
    refine b_skip ?_
    refine b_seq ?_
    obtain ⟨r165, hr165, h⟩ := bindE h
    refine reg ⟨50, [(4, .int .u8 x154), (32, .sl 1 (List.map (cI .u8) (s2b a0)) .none), (33, .int .i64 (List.length (s2b a0) : Int)), (34, .int .i64 v114), (41, .bool r165)]⟩ ⟨[], []⟩ ?_ ?_
    ·refine kC 1 ⟨[], 0, [], 0⟩ (go_host_digit_ok hr165) ?_
     exact kE ⟨[], 0, [], 0⟩
    refine bif_ (r165) (fun hb => ?_) (fun hb => ?_)
    ·replace h := ite_t hb h
     refine b_exit ?_
     refine bk_other (by kernel_rfl) ?_
     refine bk_exit ?_
     refine b_seq ?_
     refine reg ⟨50, [(5, .bool true), (32, .sl 1 (List.map (cI .u8) (s2b a0)) .none), (33, .int .i64 (List.length (s2b a0) : Int)), (34, .int .i64 v114)]⟩ ⟨[], []⟩ ?_ ?_
     ·exact kE ⟨[], 0, [], 0⟩
     refine b_exit ?_
     refine bk_other (by kernel_rfl) ?_
     refine bl_exit ?_
     exact ⟨true, (Option.some.inj h).symm, wk ⟨[], 0, [], 0⟩⟩
    replace h := ite_f hb h
    refine b_skip ?_
    refine b_exit ?_
    refine bk_other (by kernel_rfl) ?_
    refine bk_other (by kernel_rfl) ?_
    refine bk_exit ?_
    refine b_seq ?_
    obtain ⟨r166, hr166, h⟩ := bindE h
    refine reg ⟨50, [(5, .bool (decide (r166 ≥ 0))), (32, .sl 1 (List.map (cI .u8) (s2b a0)) .none), (33, .int .i64 (List.length (s2b a0) : Int)), (34, .int .i64 v114)]⟩ ⟨[], []⟩ ?_ ?_
    ·refine kC 1 ⟨[], 0, [], 0⟩ (ct_IndexByte_ok hr166) ?_
     exact kE ⟨[], 0, [], 0⟩
    refine b_exit ?_
    refine bl_exit ?_
    exact ⟨decide (r166 ≥ 0), (Option.some.inj h).symm, wk ⟨[], 0, [], 0⟩⟩
   subst hz
   refine b_seq ?_
   refine reg ⟨50, [(32, .sl 1 (List.map (cI .u8) (s2b a0)) .none), (33, .int .i64 (List.length (s2b a0) : Int)), (34, .int .i64 v114), (48, .bool (!y162))]⟩ ⟨[], []⟩ ?_ ?_
   ·exact kE ⟨[], 0, [], 0⟩
   refine bif_ (!y162) (fun hb => ?_) (fun hb => ?_)
   ·replace h := ite_t hb h
    refine b_seq ?_
    refine reg ⟨50, [(2, .bool false)]⟩ ⟨[], []⟩ ?_ ?_
    ·exact kE ⟨[], 0, [], 0⟩
    refine b_ret ?_
    refine bk_ret ?_
    refine tk_ret ?_
    replace h := hr87 _ (Option.some.inj h).symm
    refine bl_ret ?_
    obtain rfl := Option.some.inj h
    exact rtn ⟨[], 0, [], 0⟩ (.inr rfl)
   replace h := ite_f hb h
   refine b_skip ?_
   refine bk_norm ?_
   refine regN ⟨50, [(32, .sl 1 (List.map (cI .u8) (s2b a0)) .none), (33, .int .i64 (List.length (s2b a0) : Int)), (34, .int .i64 (IntKind.wrap .i64 (v114 + 1)))]⟩ ⟨[], []⟩ cl_loopT ?_ ?_
   ·exact kE ⟨[], 0, [], 0⟩
   exact ⟨IntKind.wrap .i64 (v114 + 1), h, wk ⟨[], 0, [], 0⟩⟩
  replace h := ite_f hb h
  refine b_exit ?_
  refine tk_exit ?_
  refine bl_exit ?_
  exact ⟨(), (Option.some.inj h).symm, wk ⟨[], 0, [], 0⟩⟩
 replace h := h _ hy
 refine b_seq ?_
 refine reg ⟨50, [(2, .bool true)]⟩ ⟨[], []⟩ ?_ ?_
 ·exact kE ⟨[], 0, [], 0⟩
 refine b_ret ?_
 obtain rfl := Option.some.inj h
 exact rtn ⟨[], 0, [], 0⟩ (.inr rfl)
def go_host_label_l1 (n : Nat) (a0 : (List UInt8)) : Nat → Int → Option (Ctl Bool Unit)
 | 0, _ => none
 | k + 1, v49 =>
  if (decide (v49 < (List.length (s2b a0) : Int))) = true then ((lidx (s2b a0) v49).bind fun x65 =>
  ((go_host_letter n x65).bind fun r66 =>
  if (!r66) = true then ((go_host_digit n x65).bind fun r67 =>
  if (!r67) = true then (some (x65 != 45)) else (some false)) else (some false)).bind fun y69 =>
  if y69 = true then (some (.ret false)) else (go_host_label_l1 n a0 k (IntKind.wrap .i64 (v49 + 1)))) else (some (.nxt ()))
def go_host_label (n : Nat) (a0 : (List UInt8)) : Option Bool :=
 (if (decide ((List.length a0 : Int) < 1)) = true then (some true) else (if (decide ((List.length a0 : Int) > 63)) = true then (some true) else ((bidx a0 0).bind fun x1 =>
 if (x1 == 45) = true then (some true) else ((bidx a0 (IntKind.wrap .i64 ((List.length a0 : Int) - 1))).bind fun x2 =>
 some (x2 == 45))))).bind fun y4 =>
 if y4 = true then (some false) else (ctlB (go_host_label_l1 n a0 n 0) (fun r => some r) (fun y36 =>
 some true))
theorem go_host_label_ok {n : Nat} {a0 : (List UInt8)} {r : Bool} (h : go_host_label n a0 = some r) : ACalls Tryz.prog (gl0 mx) 272 [.str a0] ⟨[], []⟩ (Out (.bool r) ⟨[], []⟩) := by
 delta go_host_label at h
 refine fnc Tryz.func272 rfl ?_
 refine b_seq ?_
 refine reg ⟨46, [(0, .str a0)]⟩ ⟨[], []⟩ ?_ ?_
 ·exact kE ⟨[], 0, [], 0⟩
 refine b_seq ?_
 refine b_seq ?_
 obtain ⟨y4, hE, h⟩ := bindE h
 refine reg ⟨46, [(0, .str a0), (25, .bool y4)]⟩ ⟨[], []⟩ ?_ ?_
 ·replace h := hE
  refine kG 4 8 (decide ((List.length a0 : Int) < 1)) (fun hb => ?_) (fun hb => ?_)
  ·have h := ite_t hb h
   obtain rfl := Option.some.inj h
   exact kE ⟨[], 0, [], 0⟩
  have h := ite_f hb h
  refine kG 9 13 (decide ((List.length a0 : Int) > 63)) (fun hb => ?_) (fun hb => ?_)
  ·have h := ite_t hb h
   obtain rfl := Option.some.inj h
   exact kE ⟨[], 0, [], 0⟩
  have h := ite_f hb h
  obtain ⟨x1, hx1, h⟩ := bindE h
  refine kP 10 (x_bidx hx1) ?_
  refine kG 14 18 (x1 == 45) (fun hb => ?_) (fun hb => ?_)
  ·have h := ite_t hb h
   obtain rfl := Option.some.inj h
   exact kE ⟨[], 0, [], 0⟩
  have h := ite_f hb h
  obtain ⟨x2, hx2, h⟩ := bindE h
  refine kP 18 (x_bidx hx2) ?_
  obtain rfl := Option.some.inj h
  exact kE ⟨[], 0, [], 0⟩
 refine bif_ (y4) (fun hb => ?_) (fun hb => ?_)
 ·replace h := ite_t hb h
  refine b_seq ?_
  refine reg ⟨46, [(2, .bool false)]⟩ ⟨[], []⟩ ?_ ?_
  ·exact kE ⟨[], 0, [], 0⟩
  refine b_ret ?_
  obtain rfl := Option.some.inj h
  exact rtn ⟨[], 0, [], 0⟩ (.inr rfl)
 replace h := ite_f hb h
 refine b_skip ?_
 refine b_seq ?_
 refine b_seq ?_
 refine reg ⟨46, [(27, .sl 1 (List.map (cI .u8) (s2b a0)) .none), (28, .int .i64 (List.length (s2b a0) : Int)), (29, .int .i64 0)]⟩ ⟨[], []⟩ ?_ ?_
 ·refine kS 1 a0 ?_
  refine kP 2 (x_len (c := (cI .u8)) (l := s2b a0) (e := 5) (sz := 1) (sz' := 1) (b := 1) (tok := .none)) ?_
  exact kE ⟨[], 0, [], 0⟩
 obtain ⟨o37, hE, hr38, h⟩ := ctlE h
 refine b_blockE (Y := Unit) (fun _ => ⟨46, []⟩) (fun _ => ⟨[], []⟩) (fun z => o37 = .nxt z) ?_ cl_cons (fun y36 hy => ?_)
 ·replace h := hE
  refine b_loop (X := Int) (fun x => ⟨46, [(27, .sl 1 (List.map (cI .u8) (s2b a0)) .none), (28, .int .i64 (List.length (s2b a0) : Int)), (29, .int .i64 x)]⟩) (fun x => ⟨[], []⟩) (fun k x => go_host_label_l1 n a0 k x = some o37) (fun _ hx => by simp [go_host_label_l1] at hx) n 0 h (wk ⟨[], 0, [], 0⟩) (fun k x h => ?_)
  revert h; revert x; intro v49 h
  rw [go_host_label_l1] at h
  refine b_seq ?_
  refine reg ⟨46, [(27, .sl 1 (List.map (cI .u8) (s2b a0)) .none), (28, .int .i64 (List.length (s2b a0) : Int)), (29, .int .i64 v49), (30, .bool (decide (v49 < (List.length (s2b a0) : Int))))]⟩ ⟨[], []⟩ ?_ ?_
  ·exact kE ⟨[], 0, [], 0⟩
  refine b_seq ?_
  refine bif_ (decide (v49 < (List.length (s2b a0) : Int))) (fun hb => ?_) (fun hb => ?_)
  ·replace h := ite_t hb h
   refine b_skip ?_
   refine b_seq ?_
   refine b_block ?_
   refine b_seq ?_
   obtain ⟨x65, hx65, h⟩ := bindE h
   refine reg ⟨46, [(4, .int .u8 x65), (27, .sl 1 (List.map (cI .u8) (s2b a0)) .none), (28, .int .i64 (List.length (s2b a0) : Int)), (29, .int .i64 v49)]⟩ ⟨[], []⟩ ?_ ?_
   ·refine kP 0 (x_lidx (c := (cI .u8)) (e := 5) (sz := 1) (b := 1) (tok := .none) hx65) ?_
    exact kE ⟨[], 0, [], 0⟩
   refine b_seq ?_
   obtain ⟨y69, hE, h⟩ := bindE h
   refine reg ⟨46, [(27, .sl 1 (List.map (cI .u8) (s2b a0)) .none), (28, .int .i64 (List.length (s2b a0) : Int)), (29, .int .i64 v49), (44, .bool y69)]⟩ ⟨[], []⟩ ?_ ?_
   ·replace h := hE
    obtain ⟨r66, hr66, h⟩ := bindE h
    refine kC 1 ⟨[], 0, [], 0⟩ (go_host_letter_ok hr66) ?_
    refine kG 4 36 (!r66) (fun hb => ?_) (fun hb => ?_)
    ·have h := ite_t hb h
     obtain ⟨r67, hr67, h⟩ := bindE h
     refine kC 5 ⟨[], 0, [], 0⟩ (go_host_digit_ok hr67) ?_
     refine kG 9 41 (!r67) (fun hb => ?_) (fun hb => ?_)
     ·have h := ite_t hb h
      obtain rfl := Option.some.inj h
      exact kE ⟨[], 0, [], 0⟩
     have h := ite_f hb h
     obtain rfl := Option.some.inj h
     exact kE ⟨[], 0, [], 0⟩
    have h := ite_f hb h
    obtain rfl := Option.some.inj h
    exact kE ⟨[], 0, [], 0⟩
   refine bif_ (y69) (fun hb => ?_) (fun hb => ?_)
   ·replace h := ite_t hb h
    refine b_seq ?_
    refine reg ⟨46, [(2, .bool false)]⟩ ⟨[], []⟩ ?_ ?_
    ·exact kE ⟨[], 0, [], 0⟩
    refine b_ret ?_
    refine bk_ret ?_
    refine tk_ret ?_
    replace h := hr38 _ (Option.some.inj h).symm
    refine bl_ret ?_
    obtain rfl := Option.some.inj h
    exact rtn ⟨[], 0, [], 0⟩ (.inr rfl)
   replace h := ite_f hb h
   refine b_skip ?_
   refine bk_norm ?_
   refine regN ⟨46, [(27, .sl 1 (List.map (cI .u8) (s2b a0)) .none), (28, .int .i64 (List.length (s2b a0) : Int)), (29, .int .i64 (IntKind.wrap .i64 (v49 + 1)))]⟩ ⟨[], []⟩ cl_loopT ?_ ?_
   ·exact kE ⟨[], 0, [], 0⟩
   exact ⟨IntKind.wrap .i64 (v49 + 1), h, wk ⟨[], 0, [], 0⟩⟩
  replace h := ite_f hb h
  refine b_exit ?_
  refine tk_exit ?_
  refine bl_exit ?_
  exact ⟨(), (Option.some.inj h).symm, wk ⟨[], 0, [], 0⟩⟩
 replace h := h _ hy
 refine b_seq ?_
 refine reg ⟨46, [(2, .bool true)]⟩ ⟨[], []⟩ ?_ ?_
 ·exact kE ⟨[], 0, [], 0⟩
 refine b_ret ?_
 obtain rfl := Option.some.inj h
 exact rtn ⟨[], 0, [], 0⟩ (.inr rfl)
def go_host_DNS_l1 (n : Nat) (r1 : (List (List UInt8))) : Nat → Int → Option (Ctl Bool Unit)
 | 0, _ => none
 | k + 1, v22 =>
  if (decide (v22 < (List.length r1 : Int))) = true then ((lidx r1 v22).bind fun x29 =>
  (go_host_label n x29).bind fun r30 =>
  if (!r30) = true then (some (.ret false)) else (go_host_DNS_l1 n r1 k (IntKind.wrap .i64 (v22 + 1)))) else (some (.nxt ()))
def go_host_DNS (n : Nat) (a0 : (List UInt8)) : Option Bool :=
 if (decide ((List.length a0 : Int) > 128)) = true then (some false) else ((go_strings_Split n a0 ([46] : List UInt8)).bind fun r1 =>
 ctlB (go_host_DNS_l1 n r1 n 0) (fun r => some r) (fun y15 =>
 some true))
theorem go_host_DNS_ok {n : Nat} {a0 : (List UInt8)} {r : Bool} (h : go_host_DNS n a0 = some r) : ACalls Tryz.prog (gl0 mx) 251 [.str a0] ⟨[], []⟩ (Out (.bool r) ⟨[], []⟩) := by
 delta go_host_DNS at h
 refine fnc Tryz.func251 rfl ?_
 refine b_seq ?_
 refine reg ⟨19, [(0, .str a0)]⟩ ⟨[], []⟩ ?_ ?_
 ·exact kE ⟨[], 0, [], 0⟩
 refine b_seq ?_
 refine b_seq ?_
 refine reg ⟨19, [(0, .str a0), (7, .bool (decide ((List.length a0 : Int) > 128)))]⟩ ⟨[], []⟩ ?_ ?_
 ·exact kE ⟨[], 0, [], 0⟩
 refine bif_ (decide ((List.length a0 : Int) > 128)) (fun hb => ?_) (fun hb => ?_)
 ·replace h := ite_t hb h
  refine b_seq ?_
  refine reg ⟨19, [(2, .bool false)]⟩ ⟨[], []⟩ ?_ ?_
  ·exact kE ⟨[], 0, [], 0⟩
  refine b_ret ?_
  obtain rfl := Option.some.inj h
  exact rtn ⟨[], 0, [], 0⟩ (.inr rfl)
 replace h := ite_f hb h
 refine b_skip ?_
 refine b_seq ?_
 refine b_seq ?_
 obtain ⟨r1, hr1, h⟩ := bindE h
 refine reg ⟨19, [(9, .sl 1 (List.map cS r1) .none), (10, .int .i64 (List.length r1 : Int)), (11, .int .i64 0)]⟩ ⟨[], []⟩ ?_ ?_
 ·refine kC 1 ⟨[], 0, [], 0⟩ (go_strings_Split_ok hr1) ?_
  refine kP 2 (x_len (c := cS) (l := r1) (e := 9) (sz := 1) (sz' := 1) (b := 16) (tok := .none)) ?_
  exact kE ⟨[], 0, [], 0⟩
 obtain ⟨o16, hE, hr17, h⟩ := ctlE h
 refine b_blockE (Y := Unit) (fun _ => ⟨19, []⟩) (fun _ => ⟨[], []⟩) (fun z => o16 = .nxt z) ?_ cl_cons (fun y15 hy => ?_)
 ·replace h := hE
  refine b_loop (X := Int) (fun x => ⟨19, [(9, .sl 1 (List.map cS r1) .none), (10, .int .i64 (List.length r1 : Int)), (11, .int .i64 x)]⟩) (fun x => ⟨[], []⟩) (fun k x => go_host_DNS_l1 n r1 k x = some o16) (fun _ hx => by simp [go_host_DNS_l1] at hx) n 0 h (wk ⟨[], 0, [], 0⟩) (fun k x h => ?_)
  revert h; revert x; intro v22 h
  rw [go_host_DNS_l1] at h
  refine b_seq ?_
  refine reg ⟨19, [(9, .sl 1 (List.map cS r1) .none), (10, .int .i64 (List.length r1 : Int)), (11, .int .i64 v22), (12, .bool (decide (v22 < (List.length r1 : Int))))]⟩ ⟨[], []⟩ ?_ ?_
  ·exact kE ⟨[], 0, [], 0⟩
  refine b_seq ?_
  refine bif_ (decide (v22 < (List.length r1 : Int))) (fun hb => ?_) (fun hb => ?_)
  ·replace h := ite_t hb h
   refine b_skip ?_
   refine b_seq ?_
   refine b_block ?_
   refine b_seq ?_
   obtain ⟨x29, hx29, h⟩ := bindE h
   refine reg ⟨19, [(4, .str x29), (9, .sl 1 (List.map cS r1) .none), (10, .int .i64 (List.length r1 : Int)), (11, .int .i64 v22)]⟩ ⟨[], []⟩ ?_ ?_
   ·refine kP 0 (x_lidx (c := cS) (e := 9) (sz := 1) (b := 16) (tok := .none) hx29) ?_
    exact kE ⟨[], 0, [], 0⟩
   refine b_seq ?_
   obtain ⟨r30, hr30, h⟩ := bindE h
   refine reg ⟨19, [(9, .sl 1 (List.map cS r1) .none), (10, .int .i64 (List.length r1 : Int)), (11, .int .i64 v22), (17, .bool (!r30))]⟩ ⟨[], []⟩ ?_ ?_
   ·refine kC 1 ⟨[], 0, [], 0⟩ (go_host_label_ok hr30) ?_
    exact kE ⟨[], 0, [], 0⟩
   refine bif_ (!r30) (fun hb => ?_) (fun hb => ?_)
   ·replace h := ite_t hb h
    refine b_seq ?_
    refine reg ⟨19, [(2, .bool false)]⟩ ⟨[], []⟩ ?_ ?_
    ·exact kE ⟨[], 0, [], 0⟩
    refine b_ret ?_
    refine bk_ret ?_
    refine tk_ret ?_
    replace h := hr17 _ (Option.some.inj h).symm
    refine bl_ret ?_
    obtain rfl := Option.some.inj h
    exact rtn ⟨[], 0, [], 0⟩ (.inr rfl)
   replace h := ite_f hb h
   refine b_skip ?_
   refine bk_norm ?_
   refine regN ⟨19, [(9, .sl 1 (List.map cS r1) .none), (10, .int .i64 (List.length r1 : Int)), (11, .int .i64 (IntKind.wrap .i64 (v22 + 1)))]⟩ ⟨[], []⟩ cl_loopT ?_ ?_
   ·exact kE ⟨[], 0, [], 0⟩
   exact ⟨IntKind.wrap .i64 (v22 + 1), h, wk ⟨[], 0, [], 0⟩⟩
  replace h := ite_f hb h
  refine b_exit ?_
  refine tk_exit ?_
  refine bl_exit ?_
  exact ⟨(), (Option.some.inj h).symm, wk ⟨[], 0, [], 0⟩⟩
 replace h := h _ hy
 refine b_seq ?_
 refine reg ⟨19, [(2, .bool true)]⟩ ⟨[], []⟩ ?_ ?_
 ·exact kE ⟨[], 0, [], 0⟩
 refine b_ret ?_
 obtain rfl := Option.some.inj h
 exact rtn ⟨[], 0, [], 0⟩ (.inr rfl)
def go_host_Mail (n : Nat) (a0 : (List UInt8)) : Option Bool :=
 (go_strings_Cut n a0 ([64] : List UInt8)).bind fun r1 =>
 (if r1.2.2 = true then (if (decide ((List.length a0 : Int) ≤ 128)) = true then ((go_host_local n r1.1).bind fun r2 =>
 if r2 = true then ((go_host_DNS n r1.2.1).bind fun r3 =>
 some r3) else (some false)) else (some false)) else (some false)).bind fun y5 =>
 some y5
theorem go_host_Mail_ok {n : Nat} {a0 : (List UInt8)} {r : Bool} (h : go_host_Mail n a0 = some r) : ACalls Tryz.prog (gl0 mx) 222 [.str a0] ⟨[], []⟩ (Out (.bool r) ⟨[], []⟩) := by
 delta go_host_Mail at h
 refine fnc Tryz.func222 rfl ?_
 refine b_seq ?_
 refine reg ⟨26, [(0, .str a0)]⟩ ⟨[], []⟩ ?_ ?_
 ·exact kE ⟨[], 0, [], 0⟩
 refine b_seq ?_
 obtain ⟨r1, hr1, h⟩ := bindE h
 refine reg ⟨26, [(0, .str a0), (3, .str r1.1), (4, .str r1.2.1), (5, .bool r1.2.2)]⟩ ⟨[], []⟩ ?_ ?_
 ·refine kC 1 ⟨[], 0, [], 0⟩ (go_strings_Cut_ok hr1) ?_
  exact kE ⟨[], 0, [], 0⟩
 refine b_seq ?_
 obtain ⟨y5, hE, h⟩ := bindE h
 refine reg ⟨26, [(2, .bool y5)]⟩ ⟨[], []⟩ ?_ ?_
 ·replace h := hE
  refine kG 2 13 (r1.2.2) (fun hb => ?_) (fun hb => ?_)
  ·have h := ite_t hb h
   refine kG 7 18 (decide ((List.length a0 : Int) ≤ 128)) (fun hb => ?_) (fun hb => ?_)
   ·have h := ite_t hb h
    obtain ⟨r2, hr2, h⟩ := bindE h
    refine kC 8 ⟨[], 0, [], 0⟩ (go_host_local_ok hr2) ?_
    refine kG 11 22 (r2) (fun hb => ?_) (fun hb => ?_)
    ·have h := ite_t hb h
     obtain ⟨r3, hr3, h⟩ := bindE h
     refine kC 12 ⟨[], 0, [], 0⟩ (go_host_DNS_ok hr3) ?_
     obtain rfl := Option.some.inj h
     exact kE ⟨[], 0, [], 0⟩
    have h := ite_f hb h
    obtain rfl := Option.some.inj h
    exact kE ⟨[], 0, [], 0⟩
   have h := ite_f hb h
   obtain rfl := Option.some.inj h
   exact kE ⟨[], 0, [], 0⟩
  have h := ite_f hb h
  obtain rfl := Option.some.inj h
  exact kE ⟨[], 0, [], 0⟩
 refine b_ret ?_
 obtain rfl := Option.some.inj h
 exact rtn ⟨[], 0, [], 0⟩ (.inr rfl)
def go_internal_stringslite_TrimPrefix (n : Nat) (a0 : (List UInt8)) (a1 : (List UInt8)) : Option (List UInt8) :=
 (go_internal_stringslite_HasPrefix n a0 a1).bind fun r1 =>
 if r1 = true then ((ssl a0 (List.length a1 : Int) (List.length a0)).bind fun x2 =>
 some x2) else (some a0)
theorem go_internal_stringslite_TrimPrefix_ok {n : Nat} {a0 : (List UInt8)} {a1 : (List UInt8)} {r : (List UInt8)} (h : go_internal_stringslite_TrimPrefix n a0 a1 = some r) : ACalls Tryz.prog (gl0 mx) 273 [.str a0, .str a1] ⟨[], []⟩ (Out (.str r) ⟨[], []⟩) := by
 delta go_internal_stringslite_TrimPrefix at h
 refine fnc Tryz.func273 rfl ?_
 refine b_seq ?_
 refine reg ⟨13, [(0, .str a0), (1, .str a1)]⟩ ⟨[], []⟩ ?_ ?_
 ·exact kE ⟨[], 0, [], 0⟩
 refine b_seq ?_
 refine b_seq ?_
 obtain ⟨r1, hr1, h⟩ := bindE h
 refine reg ⟨13, [(0, .str a0), (1, .str a1), (7, .bool r1)]⟩ ⟨[], []⟩ ?_ ?_
 ·refine kC 2 ⟨[], 0, [], 0⟩ (go_internal_stringslite_HasPrefix_ok hr1) ?_
  exact kE ⟨[], 0, [], 0⟩
 refine bif_ (r1) (fun hb => ?_) (fun hb => ?_)
 ·replace h := ite_t hb h
  refine b_seq ?_
  obtain ⟨x2, hx2, h⟩ := bindE h
  refine reg ⟨13, [(4, .str x2)]⟩ ⟨[], []⟩ ?_ ?_
  ·refine kP 3 (x_ssl_lo (k := .i64) hx2) ?_
   exact kE ⟨[], 0, [], 0⟩
  refine b_ret ?_
  obtain rfl := Option.some.inj h
  exact rtn ⟨[], 0, [], 0⟩ (.inr rfl)
 replace h := ite_f hb h
 refine b_skip ?_
 refine b_seq ?_
 refine reg ⟨13, [(4, .str a0)]⟩ ⟨[], []⟩ ?_ ?_
 ·exact kE ⟨[], 0, [], 0⟩
 refine b_ret ?_
 obtain rfl := Option.some.inj h
 exact rtn ⟨[], 0, [], 0⟩ (.inr rfl)
def go_strings_TrimPrefix (n : Nat) (a0 : (List UInt8)) (a1 : (List UInt8)) : Option (List UInt8) :=
 (go_internal_stringslite_TrimPrefix n a0 a1).bind fun r1 =>
 some r1
theorem go_strings_TrimPrefix_ok {n : Nat} {a0 : (List UInt8)} {a1 : (List UInt8)} {r : (List UInt8)} (h : go_strings_TrimPrefix n a0 a1 = some r) : ACalls Tryz.prog (gl0 mx) 252 [.str a0, .str a1] ⟨[], []⟩ (Out (.str r) ⟨[], []⟩) := by
 delta go_strings_TrimPrefix at h
 refine fnc Tryz.func252 rfl ?_
 refine b_seq ?_
 refine reg ⟨8, [(0, .str a0), (1, .str a1)]⟩ ⟨[], []⟩ ?_ ?_
 ·exact kE ⟨[], 0, [], 0⟩
 refine b_seq ?_
 obtain ⟨r1, hr1, h⟩ := bindE h
 refine reg ⟨8, [(4, .str r1)]⟩ ⟨[], []⟩ ?_ ?_
 ·refine kC 2 ⟨[], 0, [], 0⟩ (go_internal_stringslite_TrimPrefix_ok hr1) ?_
  exact kE ⟨[], 0, [], 0⟩
 refine b_ret ?_
 obtain rfl := Option.some.inj h
 exact rtn ⟨[], 0, [], 0⟩ (.inr rfl)
def go_host_MailBase (n : Nat) (a0 : (List UInt8)) : Option Bool :=
 (if (decide ((List.length a0 : Int) ≤ 128)) = true then ((go_host_Mail n a0).bind fun r1 =>
 if r1 = true then (some true) else ((go_strings_TrimPrefix n a0 ([46] : List UInt8)).bind fun r2 =>
 (go_host_DNS n r2).bind fun r3 =>
 some r3)) else (some false)).bind fun y5 =>
 some y5
theorem go_host_MailBase_ok {n : Nat} {a0 : (List UInt8)} {r : Bool} (h : go_host_MailBase n a0 = some r) : ACalls Tryz.prog (gl0 mx) 221 [.str a0] ⟨[], []⟩ (Out (.bool r) ⟨[], []⟩) := by
 delta go_host_MailBase at h
 refine fnc Tryz.func221 rfl ?_
 refine b_seq ?_
 refine reg ⟨15, [(0, .str a0)]⟩ ⟨[], []⟩ ?_ ?_
 ·exact kE ⟨[], 0, [], 0⟩
 refine b_seq ?_
 obtain ⟨y5, hE, h⟩ := bindE h
 refine reg ⟨15, [(2, .bool y5)]⟩ ⟨[], []⟩ ?_ ?_
 ·replace h := hE
  refine kG 4 6 (decide ((List.length a0 : Int) ≤ 128)) (fun hb => ?_) (fun hb => ?_)
  ·have h := ite_t hb h
   obtain ⟨r1, hr1, h⟩ := bindE h
   refine kC 5 ⟨[], 0, [], 0⟩ (go_host_Mail_ok hr1) ?_
   refine kG 7 9 (r1) (fun hb => ?_) (fun hb => ?_)
   ·have h := ite_t hb h
    obtain rfl := Option.some.inj h
    exact kE ⟨[], 0, [], 0⟩
   have h := ite_f hb h
   obtain ⟨r2, hr2, h⟩ := bindE h
   obtain ⟨r3, hr3, h⟩ := bindE h
   refine kC 8 ⟨[], 0, [], 0⟩ (go_strings_TrimPrefix_ok hr2) ?_
   refine kC 9 ⟨[], 0, [], 0⟩ (go_host_DNS_ok hr3) ?_
   obtain rfl := Option.some.inj h
   exact kE ⟨[], 0, [], 0⟩
  have h := ite_f hb h
  obtain rfl := Option.some.inj h
  exact kE ⟨[], 0, [], 0⟩
 refine b_ret ?_
 obtain rfl := Option.some.inj h
 exact rtn ⟨[], 0, [], 0⟩ (.inr rfl)
def go_host_Base (n : Nat) (a0 : (List UInt8)) : Option Bool :=
 (if (a0 == ([] : List UInt8)) = true then (some true) else ((go_host_DNS n a0).bind fun r1 =>
 some r1)).bind fun y3 =>
 some y3
theorem go_host_Base_ok {n : Nat} {a0 : (List UInt8)} {r : Bool} (h : go_host_Base n a0 = some r) : ACalls Tryz.prog (gl0 mx) 223 [.str a0] ⟨[], []⟩ (Out (.bool r) ⟨[], []⟩) := by
 delta go_host_Base at h
 refine fnc Tryz.func223 rfl ?_
 refine b_seq ?_
 refine reg ⟨9, [(0, .str a0)]⟩ ⟨[], []⟩ ?_ ?_
 ·exact kE ⟨[], 0, [], 0⟩
 refine b_seq ?_
 obtain ⟨y3, hE, h⟩ := bindE h
 refine reg ⟨9, [(2, .bool y3)]⟩ ⟨[], []⟩ ?_ ?_
 ·replace h := hE
  refine kG 3 5 (a0 == ([] : List UInt8)) (fun hb => ?_) (fun hb => ?_)
  ·have h := ite_t hb h
   obtain rfl := Option.some.inj h
   exact kE ⟨[], 0, [], 0⟩
  have h := ite_f hb h
  obtain ⟨r1, hr1, h⟩ := bindE h
  refine kC 4 ⟨[], 0, [], 0⟩ (go_host_DNS_ok hr1) ?_
  obtain rfl := Option.some.inj h
  exact kE ⟨[], 0, [], 0⟩
 refine b_ret ?_
 obtain rfl := Option.some.inj h
 exact rtn ⟨[], 0, [], 0⟩ (.inr rfl)
def go_internal_stringslite_CutPrefix (n : Nat) (a0 : (List UInt8)) (a1 : (List UInt8)) : Option ((List UInt8) × Bool) :=
 (go_internal_stringslite_HasPrefix n a0 a1).bind fun r1 =>
 if (!r1) = true then (some (a0, false)) else ((ssl a0 (List.length a1 : Int) (List.length a0)).bind fun x2 =>
 some (x2, true))
theorem go_internal_stringslite_CutPrefix_ok {n : Nat} {a0 : (List UInt8)} {a1 : (List UInt8)} {r : ((List UInt8) × Bool)} (h : go_internal_stringslite_CutPrefix n a0 a1 = some r) : ACalls Tryz.prog (gl0 mx) 277 [.str a0, .str a1] ⟨[], []⟩ (Out (.tuple [.str r.1, .bool r.2]) ⟨[], []⟩) := by
 delta go_internal_stringslite_CutPrefix at h
 refine fnc Tryz.func277 rfl ?_
 refine b_seq ?_
 refine reg ⟨15, [(0, .str a0), (1, .str a1)]⟩ ⟨[], []⟩ ?_ ?_
 ·exact kE ⟨[], 0, [], 0⟩
 refine b_seq ?_
 refine b_seq ?_
 obtain ⟨r1, hr1, h⟩ := bindE h
 refine reg ⟨15, [(0, .str a0), (1, .str a1), (9, .bool (!r1))]⟩ ⟨[], []⟩ ?_ ?_
 ·refine kC 2 ⟨[], 0, [], 0⟩ (go_internal_stringslite_HasPrefix_ok hr1) ?_
  exact kE ⟨[], 0, [], 0⟩
 refine bif_ (!r1) (fun hb => ?_) (fun hb => ?_)
 ·replace h := ite_t hb h
  refine b_seq ?_
  refine reg ⟨15, [(4, .str a0), (5, .bool false)]⟩ ⟨[], []⟩ ?_ ?_
  ·exact kE ⟨[], 0, [], 0⟩
  refine b_ret ?_
  obtain rfl := Option.some.inj h
  exact rtn ⟨[], 0, [], 0⟩ (.inr rfl)
 replace h := ite_f hb h
 refine b_skip ?_
 refine b_seq ?_
 obtain ⟨x2, hx2, h⟩ := bindE h
 refine reg ⟨15, [(4, .str x2), (5, .bool true)]⟩ ⟨[], []⟩ ?_ ?_
 ·refine kP 3 (x_ssl_lo (k := .i64) hx2) ?_
  exact kE ⟨[], 0, [], 0⟩
 refine b_ret ?_
 obtain rfl := Option.some.inj h
 exact rtn ⟨[], 0, [], 0⟩ (.inr rfl)
def go_strings_CutPrefix (n : Nat) (a0 : (List UInt8)) (a1 : (List UInt8)) : Option ((List UInt8) × Bool) :=
 (go_internal_stringslite_CutPrefix n a0 a1).bind fun r1 =>
 some (r1.1, r1.2)
theorem go_strings_CutPrefix_ok {n : Nat} {a0 : (List UInt8)} {a1 : (List UInt8)} {r : ((List UInt8) × Bool)} (h : go_strings_CutPrefix n a0 a1 = some r) : ACalls Tryz.prog (gl0 mx) 255 [.str a0, .str a1] ⟨[], []⟩ (Out (.tuple [.str r.1, .bool r.2]) ⟨[], []⟩) := by
 delta go_strings_CutPrefix at h
 refine fnc Tryz.func255 rfl ?_
 refine b_seq ?_
 refine reg ⟨11, [(0, .str a0), (1, .str a1)]⟩ ⟨[], []⟩ ?_ ?_
 ·exact kE ⟨[], 0, [], 0⟩
 refine b_seq ?_
 obtain ⟨r1, hr1, h⟩ := bindE h
 refine reg ⟨11, [(4, .str r1.1), (5, .bool r1.2)]⟩ ⟨[], []⟩ ?_ ?_
 ·refine kC 2 ⟨[], 0, [], 0⟩ (go_internal_stringslite_CutPrefix_ok hr1) ?_
  exact kE ⟨[], 0, [], 0⟩
 refine b_ret ?_
 obtain rfl := Option.some.inj h
 exact rtn ⟨[], 0, [], 0⟩ (.inr rfl)
def go_host_Pattern (n : Nat) (a0 : (List UInt8)) : Option Bool :=
 (go_strings_CutPrefix n a0 ([42, 46] : List UInt8)).bind fun r1 =>
 if r1.2 = true then ((if (decide ((List.length a0 : Int) ≤ 128)) = true then ((go_host_DNS n r1.1).bind fun r2 =>
 if r2 = true then ((go_strings_Contains n r1.1 ([46] : List UInt8)).bind fun r3 =>
 some r3) else (some false)) else (some false)).bind fun y5 =>
 some y5) else ((go_host_DNS n a0).bind fun r6 =>
 some r6)
theorem go_host_Pattern_ok {n : Nat} {a0 : (List UInt8)} {r : Bool} (h : go_host_Pattern n a0 = some r) : ACalls Tryz.prog (gl0 mx) 224 [.str a0] ⟨[], []⟩ (Out (.bool r) ⟨[], []⟩) := by
 delta go_host_Pattern at h
 refine fnc Tryz.func224 rfl ?_
 refine b_seq ?_
 refine reg ⟨24, [(0, .str a0)]⟩ ⟨[], []⟩ ?_ ?_
 ·exact kE ⟨[], 0, [], 0⟩
 refine b_seq ?_
 refine b_seq ?_
 obtain ⟨r1, hr1, h⟩ := bindE h
 refine reg ⟨24, [(0, .str a0), (3, .str r1.1), (4, .bool r1.2)]⟩ ⟨[], []⟩ ?_ ?_
 ·refine kC 1 ⟨[], 0, [], 0⟩ (go_strings_CutPrefix_ok hr1) ?_
  exact kE ⟨[], 0, [], 0⟩
 refine b_seq ?_
 refine reg ⟨24, [(0, .str a0), (3, .str r1.1), (10, .bool r1.2)]⟩ ⟨[], []⟩ ?_ ?_
 ·exact kE ⟨[], 0, [], 0⟩
 refine bif_ (r1.2) (fun hb => ?_) (fun hb => ?_)
 ·replace h := ite_t hb h
  refine b_seq ?_
  obtain ⟨y5, hE, h⟩ := bindE h
  refine reg ⟨24, [(2, .bool y5)]⟩ ⟨[], []⟩ ?_ ?_
  ·replace h := hE
   refine kG 4 14 (decide ((List.length a0 : Int) ≤ 128)) (fun hb => ?_) (fun hb => ?_)
   ·have h := ite_t hb h
    obtain ⟨r2, hr2, h⟩ := bindE h
    refine kC 5 ⟨[], 0, [], 0⟩ (go_host_DNS_ok hr2) ?_
    refine kG 8 18 (r2) (fun hb => ?_) (fun hb => ?_)
    ·have h := ite_t hb h
     obtain ⟨r3, hr3, h⟩ := bindE h
     refine kC 9 ⟨[], 0, [], 0⟩ (go_strings_Contains_ok hr3) ?_
     obtain rfl := Option.some.inj h
     exact kE ⟨[], 0, [], 0⟩
    have h := ite_f hb h
    obtain rfl := Option.some.inj h
    exact kE ⟨[], 0, [], 0⟩
   have h := ite_f hb h
   obtain rfl := Option.some.inj h
   exact kE ⟨[], 0, [], 0⟩
  refine b_ret ?_
  obtain rfl := Option.some.inj h
  exact rtn ⟨[], 0, [], 0⟩ (.inr rfl)
 replace h := ite_f hb h
 refine b_skip ?_
 refine b_seq ?_
 obtain ⟨r6, hr6, h⟩ := bindE h
 refine reg ⟨24, [(2, .bool r6)]⟩ ⟨[], []⟩ ?_ ?_
 ·refine kC 1 ⟨[], 0, [], 0⟩ (go_host_DNS_ok hr6) ?_
  exact kE ⟨[], 0, [], 0⟩
 refine b_ret ?_
 obtain rfl := Option.some.inj h
 exact rtn ⟨[], 0, [], 0⟩ (.inr rfl)
def go_host_halves (n : Nat) (a0 : (List UInt8)) : Option ((List UInt8) × (List UInt8)) :=
 (ssl a0 0 (IntKind.wrap .i64 (Int.tdiv (List.length a0 : Int) 2))).bind fun x1 =>
 (ssl a0 (IntKind.wrap .i64 (Int.tdiv (List.length a0 : Int) 2)) (List.length a0)).bind fun x2 =>
 some (x1, x2)
theorem go_host_halves_ok {n : Nat} {a0 : (List UInt8)} {r : ((List UInt8) × (List UInt8))} (h : go_host_halves n a0 = some r) : ACalls Tryz.prog (gl0 mx) 257 [.str a0] ⟨[], []⟩ (Out (.tuple [.str r.1, .str r.2]) ⟨[], []⟩) := by
 delta go_host_halves at h
 refine fnc Tryz.func257 rfl ?_
 refine b_seq ?_
 refine reg ⟨14, [(0, .str a0)]⟩ ⟨[], []⟩ ?_ ?_
 ·exact kE ⟨[], 0, [], 0⟩
 refine b_seq ?_
 obtain ⟨x1, hx1, h⟩ := bindE h
 obtain ⟨x2, hx2, h⟩ := bindE h
 refine drw [0, 1, 2, 3, 4, 5, 6, 7, 8, 9, 10, 11] [] [[], [], [1], [1, 2], [0, 1, 2, 3], [], [], [6], [6, 7], [5, 6, 7, 8], [0, 1, 2, 3, 4], [0, 1, 2, 3, 4, 5, 6, 7, 8, 9, 10]] ⟨14, [(2, .str x1), (3, .str x2)]⟩ ⟨[], []⟩ ?_ ?_
 ·refine dS [0, 1, 2, 3] ?_
  refine dP (x_ssl_hi (k := .i64) hx1) ?_
  refine dS [5, 6, 7, 8] ?_
  refine dP (x_ssl_lo (k := .i64) hx2) ?_
  refine dS [10, 11] ?_
  exact dE ⟨[], 0, [], 0⟩
 refine b_ret ?_
 obtain rfl := Option.some.inj h
 exact rtn ⟨[], 0, [], 0⟩ (.inr rfl)
def go_host_bit (n : Nat) (a0 : (List UInt8)) (a1 : Int) : Option Bool :=
 (bidx a0 (IntKind.wrap .i64 (Int.tdiv a1 8))).bind fun x1 =>
 (ishr .u8 x1 (IntKind.wrap .u64 ((7 : Int) - (IntKind.wrap .u64 (Int.tmod a1 8))))).bind fun x2 =>
 some ((iand .u8 x2 1) == 1)
theorem go_host_bit_ok {n : Nat} {a0 : (List UInt8)} {a1 : Int} {r : Bool} (h : go_host_bit n a0 a1 = some r) : ACalls Tryz.prog (gl0 mx) 258 [.str a0, .int .i64 a1] ⟨[], []⟩ (Out (.bool r) ⟨[], []⟩) := by
 delta go_host_bit at h
 refine fnc Tryz.func258 rfl ?_
 refine b_seq ?_
 refine reg ⟨16, [(0, .str a0), (1, .int .i64 a1)]⟩ ⟨[], []⟩ ?_ ?_
 ·exact kE ⟨[], 0, [], 0⟩
 refine b_seq ?_
 obtain ⟨x1, hx1, h⟩ := bindE h
 obtain ⟨x2, hx2, h⟩ := bindE h
 refine reg ⟨16, [(4, .bool ((iand .u8 x2 1) == 1))]⟩ ⟨[], []⟩ ?_ ?_
 ·refine kP 3 (x_bidx hx1) ?_
  refine kP 8 (x_ishr (k := .u8) (d := (tyT 5).d) (k' := .u64) hx2) ?_
  exact kE ⟨[], 0, [], 0⟩
 refine b_ret ?_
 obtain rfl := Option.some.inj h
 exact rtn ⟨[], 0, [], 0⟩ (.inr rfl)
def go_host_Range_l1 (n : Nat) (r3 : ((List UInt8) × (List UInt8))) : Nat → Bool → Int → Option (Ctl Bool Unit)
 | 0, _, _ => none
 | k + 1, v57, v58 =>
  if (decide (v58 < (IntKind.wrap .i64 ((8 : Int) * (List.length r3.2 : Int))))) = true then ((go_host_bit n r3.2 v58).bind fun r80 =>
  (if r80 = true then (if v57 = true then (some true) else (if (!r80) = true then ((go_host_bit n r3.1 v58).bind fun r81 =>
  some r81) else (some false))) else (if (!r80) = true then ((go_host_bit n r3.1 v58).bind fun r82 =>
  some r82) else (some false))).bind fun y84 =>
  if y84 = true then (some (.ret false)) else ((if v57 = true then (some true) else (some (!r80))).bind fun y86 =>
  go_host_Range_l1 n r3 k y86 (IntKind.wrap .i64 (v58 + 1)))) else (some (.nxt ()))
def go_host_Range (n : Nat) (a0 : (List UInt8)) : Option Bool :=
 (if ((List.length a0 : Int) != 8) = true then (some ((List.length a0 : Int) != 32)) else (some false)).bind fun y2 =>
 if y2 = true then (some false) else ((go_host_halves n a0).bind fun r3 =>
 ctlB (go_host_Range_l1 n r3 n false 0) (fun r => some r) (fun y44 =>
 some true))
theorem go_host_Range_ok {n : Nat} {a0 : (List UInt8)} {r : Bool} (h : go_host_Range n a0 = some r) : ACalls Tryz.prog (gl0 mx) 225 [.str a0] ⟨[], []⟩ (Out (.bool r) ⟨[], []⟩) := by
 delta go_host_Range at h
 refine fnc Tryz.func225 rfl ?_
 refine b_seq ?_
 refine reg ⟨49, [(0, .str a0)]⟩ ⟨[], []⟩ ?_ ?_
 ·exact kE ⟨[], 0, [], 0⟩
 refine b_seq ?_
 refine b_seq ?_
 obtain ⟨y2, hE, h⟩ := bindE h
 refine reg ⟨49, [(0, .str a0), (15, .bool y2)]⟩ ⟨[], []⟩ ?_ ?_
 ·replace h := hE
  refine kG 4 11 ((List.length a0 : Int) != 8) (fun hb => ?_) (fun hb => ?_)
  ·have h := ite_t hb h
   obtain rfl := Option.some.inj h
   exact kE ⟨[], 0, [], 0⟩
  have h := ite_f hb h
  obtain rfl := Option.some.inj h
  exact kE ⟨[], 0, [], 0⟩
 refine bif_ (y2) (fun hb => ?_) (fun hb => ?_)
 ·replace h := ite_t hb h
  refine b_seq ?_
  refine reg ⟨49, [(2, .bool false)]⟩ ⟨[], []⟩ ?_ ?_
  ·exact kE ⟨[], 0, [], 0⟩
  refine b_ret ?_
  obtain rfl := Option.some.inj h
  exact rtn ⟨[], 0, [], 0⟩ (.inr rfl)
 replace h := ite_f hb h
 refine b_skip ?_
 refine b_seq ?_
 obtain ⟨r3, hr3, h⟩ := bindE h
 refine reg ⟨49, [(3, .str r3.1), (4, .str r3.2)]⟩ ⟨[], []⟩ ?_ ?_
 ·refine kC 1 ⟨[], 0, [], 0⟩ (go_host_halves_ok hr3) ?_
  exact kE ⟨[], 0, [], 0⟩
 refine b_seq ?_
 refine reg ⟨49, [(3, .str r3.1), (4, .str r3.2), (5, .bool false)]⟩ ⟨[], []⟩ ?_ ?_
 ·exact kE ⟨[], 0, [], 0⟩
 refine b_seq ?_
 refine b_seq ?_
 refine reg ⟨49, [(3, .str r3.1), (4, .str r3.2), (5, .bool false), (6, .int .i64 0)]⟩ ⟨[], []⟩ ?_ ?_
 ·exact kE ⟨[], 0, [], 0⟩
 obtain ⟨o45, hE, hr46, h⟩ := ctlE h
 refine b_blockE (Y := Unit) (fun _ => ⟨49, []⟩) (fun _ => ⟨[], []⟩) (fun z => o45 = .nxt z) ?_ cl_cons (fun y44 hy => ?_)
 ·replace h := hE
  refine b_loop (X := (Bool × Int)) (fun x => ⟨49, [(3, .str r3.1), (4, .str r3.2), (5, .bool x.1), (6, .int .i64 x.2)]⟩) (fun x => ⟨[], []⟩) (fun k x => go_host_Range_l1 n r3 k x.1 x.2 = some o45) (fun _ hx => by simp [go_host_Range_l1] at hx) n (false, 0) h (wk ⟨[], 0, [], 0⟩) (fun k x h => ?_)
  obtain ⟨v57, v58⟩ := x
  rw [go_host_Range_l1] at h
  refine b_seq ?_
  refine b_seq ?_
  refine reg ⟨49, [(3, .str r3.1), (4, .str r3.2), (5, .bool v57), (6, .int .i64 v58), (25, .bool (decide (v58 < (IntKind.wrap .i64 ((8 : Int) * (List.length r3.2 : Int))))))]⟩ ⟨[], []⟩ ?_ ?_
  ·exact kE ⟨[], 0, [], 0⟩
  refine bif_ (decide (v58 < (IntKind.wrap .i64 ((8 : Int) * (List.length r3.2 : Int))))) (fun hb => ?_) (fun hb => ?_)
  ·replace h := ite_t hb h
   refine b_skip ?_
   refine b_seq ?_
   refine b_block ?_
   refine b_seq ?_
   obtain ⟨r80, hr80, h⟩ := bindE h
   refine reg ⟨49, [(3, .str r3.1), (4, .str r3.2), (5, .bool v57), (6, .int .i64 v58), (7, .bool r80)]⟩ ⟨[], []⟩ ?_ ?_
   ·refine kC 2 ⟨[], 0, [], 0⟩ (go_host_bit_ok hr80) ?_
    exact kE ⟨[], 0, [], 0⟩
   refine b_seq ?_
   refine b_seq ?_
   obtain ⟨y84, hE, h⟩ := bindE h
   refine reg ⟨49, [(3, .str r3.1), (4, .str r3.2), (5, .bool v57), (6, .int .i64 v58), (7, .bool r80), (43, .bool y84)]⟩ ⟨[], []⟩ ?_ ?_
   ·replace h := hE
    refine kG 2 32 (r80) (fun hb => ?_) (fun hb => ?_)
    ·have h := ite_t hb h
     refine kG 5 35 (v57) (fun hb => ?_) (fun hb => ?_)
     ·have h := ite_t hb h
      obtain rfl := Option.some.inj h
      exact kE ⟨[], 0, [], 0⟩
     have h := ite_f hb h
     refine kG 8 38 (!r80) (fun hb => ?_) (fun hb => ?_)
     ·have h := ite_t hb h
      obtain ⟨r81, hr81, h⟩ := bindE h
      refine kC 10 ⟨[], 0, [], 0⟩ (go_host_bit_ok hr81) ?_
      obtain rfl := Option.some.inj h
      exact kE ⟨[], 0, [], 0⟩
     have h := ite_f hb h
     obtain rfl := Option.some.inj h
     exact kE ⟨[], 0, [], 0⟩
    have h := ite_f hb h
    refine kG 8 38 (!r80) (fun hb => ?_) (fun hb => ?_)
    ·have h := ite_t hb h
     obtain ⟨r82, hr82, h⟩ := bindE h
     refine kC 10 ⟨[], 0, [], 0⟩ (go_host_bit_ok hr82) ?_
     obtain rfl := Option.some.inj h
     exact kE ⟨[], 0, [], 0⟩
    have h := ite_f hb h
    obtain rfl := Option.some.inj h
    exact kE ⟨[], 0, [], 0⟩
   refine bif_ (y84) (fun hb => ?_) (fun hb => ?_)
   ·replace h := ite_t hb h
    refine b_seq ?_
    refine reg ⟨49, [(2, .bool false)]⟩ ⟨[], []⟩ ?_ ?_
    ·exact kE ⟨[], 0, [], 0⟩
    refine b_ret ?_
    refine bk_ret ?_
    refine tk_ret ?_
    replace h := hr46 _ (Option.some.inj h).symm
    refine bl_ret ?_
    obtain rfl := Option.some.inj h
    exact rtn ⟨[], 0, [], 0⟩ (.inr rfl)
   replace h := ite_f hb h
   refine b_skip ?_
   obtain ⟨y86, hE, h⟩ := bindE h
   refine regN ⟨49, [(3, .str r3.1), (4, .str r3.2), (5, .bool y86), (6, .int .i64 v58)]⟩ ⟨[], []⟩ cl_cons ?_ ?_
   ·replace h := hE
    refine kG 2 45 (v57) (fun hb => ?_) (fun hb => ?_)
    ·have h := ite_t hb h
     obtain rfl := Option.some.inj h
     exact kE ⟨[], 0, [], 0⟩
    have h := ite_f hb h
    obtain rfl := Option.some.inj h
    exact kE ⟨[], 0, [], 0⟩
   refine bk_norm ?_
   refine regN ⟨49, [(3, .str r3.1), (4, .str r3.2), (5, .bool y86), (6, .int .i64 (IntKind.wrap .i64 (v58 + 1)))]⟩ ⟨[], []⟩ cl_loopT ?_ ?_
   ·exact kE ⟨[], 0, [], 0⟩
   exact ⟨(y86, IntKind.wrap .i64 (v58 + 1)), h, wk ⟨[], 0, [], 0⟩⟩
  replace h := ite_f hb h
  refine b_exit ?_
  refine tk_exit ?_
  refine bl_exit ?_
  exact ⟨(), (Option.some.inj h).symm, wk ⟨[], 0, [], 0⟩⟩
 replace h := h _ hy
 refine b_seq ?_
 refine reg ⟨49, [(2, .bool true)]⟩ ⟨[], []⟩ ?_ ?_
 ·exact kE ⟨[], 0, [], 0⟩
 refine b_ret ?_
 obtain rfl := Option.some.inj h
 exact rtn ⟨[], 0, [], 0⟩ (.inr rfl)
def go_host_Address (n : Nat) (a0 : (List UInt8)) : Option Bool :=
 (if ((List.length a0 : Int) == 4) = true then (some true) else (some ((List.length a0 : Int) == 16))).bind fun y2 =>
 some y2
theorem go_host_Address_ok {n : Nat} {a0 : (List UInt8)} {r : Bool} (h : go_host_Address n a0 = some r) : ACalls Tryz.prog (gl0 mx) 226 [.str a0] ⟨[], []⟩ (Out (.bool r) ⟨[], []⟩) := by
 delta go_host_Address at h
 refine fnc Tryz.func226 rfl ?_
 refine b_seq ?_
 refine reg ⟨11, [(0, .str a0)]⟩ ⟨[], []⟩ ?_ ?_
 ·exact kE ⟨[], 0, [], 0⟩
 refine b_seq ?_
 obtain ⟨y2, hE, h⟩ := bindE h
 refine reg ⟨11, [(2, .bool y2)]⟩ ⟨[], []⟩ ?_ ?_
 ·replace h := hE
  refine kG 4 6 ((List.length a0 : Int) == 4) (fun hb => ?_) (fun hb => ?_)
  ·have h := ite_t hb h
   obtain rfl := Option.some.inj h
   exact kE ⟨[], 0, [], 0⟩
  have h := ite_f hb h
  obtain rfl := Option.some.inj h
  exact kE ⟨[], 0, [], 0⟩
 refine b_ret ?_
 obtain rfl := Option.some.inj h
 exact rtn ⟨[], 0, [], 0⟩ (.inr rfl)
def go_gname_kind_valid (n : Nat) (a0 : Int) (a1 : (List UInt8)) (a2 : Bool) : Option Bool :=
 if (a0 == 0) = true then ((if a2 = true then ((go_host_MailBase n a1).bind fun r16 =>
 if r16 = true then (some true) else (if (!a2) = true then ((go_host_Mail n a1).bind fun r17 =>
 some r17) else (some false))) else (if (!a2) = true then ((go_host_Mail n a1).bind fun r18 =>
 some r18) else (some false))).bind fun y20 =>
 some y20) else (if (a0 == 1) = true then ((if a2 = true then ((go_host_Base n a1).bind fun r21 =>
 if r21 = true then (some true) else (if (!a2) = true then ((go_host_Pattern n a1).bind fun r22 =>
 some r22) else (some false))) else (if (!a2) = true then ((go_host_Pattern n a1).bind fun r23 =>
 some r23) else (some false))).bind fun y25 =>
 some y25) else (if (a0 == 3) = true then ((if a2 = true then ((go_host_Range n a1).bind fun r26 =>
 if r26 = true then (some true) else (if (!a2) = true then ((go_host_Address n a1).bind fun r27 =>
 some r27) else (some false))) else (if (!a2) = true then ((go_host_Address n a1).bind fun r28 =>
 some r28) else (some false))).bind fun y30 =>
 some y30) else (some false)))
theorem go_gname_kind_valid_ok {n : Nat} {a0 : Int} {a1 : (List UInt8)} {a2 : Bool} {r : Bool} (h : go_gname_kind_valid n a0 a1 a2 = some r) : ACalls Tryz.prog (gl0 mx) 171 [.int .i64 a0, .str a1, .bool a2] ⟨[], []⟩ (Out (.bool r) ⟨[], []⟩) := by
 delta go_gname_kind_valid at h
 refine fnc Tryz.func171 rfl ?_
 refine b_seq ?_
 refine reg ⟨53, [(0, .int .i64 a0), (1, .str a1), (2, .bool a2)]⟩ ⟨[], []⟩ ?_ ?_
 ·exact kE ⟨[], 0, [], 0⟩
 refine b_seq ?_
 refine b_seq ?_
 refine reg ⟨53, [(1, .str a1), (2, .bool a2), (7, .int .i64 a0)]⟩ ⟨[], []⟩ ?_ ?_
 ·exact kE ⟨[], 0, [], 0⟩
 refine b_block ?_
 refine b_seq ?_
 refine reg ⟨53, [(1, .str a1), (2, .bool a2), (7, .int .i64 a0), (8, .bool (a0 == 0))]⟩ ⟨[], []⟩ ?_ ?_
 ·exact kE ⟨[], 0, [], 0⟩
 refine bif_ (a0 == 0) (fun hb => ?_) (fun hb => ?_)
 ·replace h := ite_t hb h
  refine b_seq ?_
  obtain ⟨y20, hE, h⟩ := bindE h
  refine reg ⟨53, [(6, .bool y20)]⟩ ⟨[], []⟩ ?_ ?_
  ·replace h := hE
   refine kG 2 11 (a2) (fun hb => ?_) (fun hb => ?_)
   ·have h := ite_t hb h
    obtain ⟨r16, hr16, h⟩ := bindE h
    refine kC 3 ⟨[], 0, [], 0⟩ (go_host_MailBase_ok hr16) ?_
    refine kG 6 15 (r16) (fun hb => ?_) (fun hb => ?_)
    ·have h := ite_t hb h
     obtain rfl := Option.some.inj h
     exact kE ⟨[], 0, [], 0⟩
    have h := ite_f hb h
    refine kG 9 18 (!a2) (fun hb => ?_) (fun hb => ?_)
    ·have h := ite_t hb h
     obtain ⟨r17, hr17, h⟩ := bindE h
     refine kC 10 ⟨[], 0, [], 0⟩ (go_host_Mail_ok hr17) ?_
     obtain rfl := Option.some.inj h
     exact kE ⟨[], 0, [], 0⟩
    have h := ite_f hb h
    obtain rfl := Option.some.inj h
    exact kE ⟨[], 0, [], 0⟩
   have h := ite_f hb h
   refine kG 9 18 (!a2) (fun hb => ?_) (fun hb => ?_)
   ·have h := ite_t hb h
    obtain ⟨r18, hr18, h⟩ := bindE h
    refine kC 10 ⟨[], 0, [], 0⟩ (go_host_Mail_ok hr18) ?_
    obtain rfl := Option.some.inj h
    exact kE ⟨[], 0, [], 0⟩
   have h := ite_f hb h
   obtain rfl := Option.some.inj h
   exact kE ⟨[], 0, [], 0⟩
  refine b_ret ?_
  refine bk_ret ?_
  obtain rfl := Option.some.inj h
  exact rtn ⟨[], 0, [], 0⟩ (.inr rfl)
 replace h := ite_f hb h
 refine b_seq ?_
 refine reg ⟨53, [(1, .str a1), (2, .bool a2), (7, .int .i64 a0), (23, .bool (a0 == 1))]⟩ ⟨[], []⟩ ?_ ?_
 ·exact kE ⟨[], 0, [], 0⟩
 refine bif_ (a0 == 1) (fun hb => ?_) (fun hb => ?_)
 ·replace h := ite_t hb h
  refine b_seq ?_
  obtain ⟨y25, hE, h⟩ := bindE h
  refine reg ⟨53, [(6, .bool y25)]⟩ ⟨[], []⟩ ?_ ?_
  ·replace h := hE
   refine kG 2 26 (a2) (fun hb => ?_) (fun hb => ?_)
   ·have h := ite_t hb h
    obtain ⟨r21, hr21, h⟩ := bindE h
    refine kC 3 ⟨[], 0, [], 0⟩ (go_host_Base_ok hr21) ?_
    refine kG 6 30 (r21) (fun hb => ?_) (fun hb => ?_)
    ·have h := ite_t hb h
     obtain rfl := Option.some.inj h
     exact kE ⟨[], 0, [], 0⟩
    have h := ite_f hb h
    refine kG 9 33 (!a2) (fun hb => ?_) (fun hb => ?_)
    ·have h := ite_t hb h
     obtain ⟨r22, hr22, h⟩ := bindE h
     refine kC 10 ⟨[], 0, [], 0⟩ (go_host_Pattern_ok hr22) ?_
     obtain rfl := Option.some.inj h
     exact kE ⟨[], 0, [], 0⟩
    have h := ite_f hb h
    obtain rfl := Option.some.inj h
    exact kE ⟨[], 0, [], 0⟩
   have h := ite_f hb h
   refine kG 9 33 (!a2) (fun hb => ?_) (fun hb => ?_)
   ·have h := ite_t hb h
    obtain ⟨r23, hr23, h⟩ := bindE h
    refine kC 10 ⟨[], 0, [], 0⟩ (go_host_Pattern_ok hr23) ?_
    obtain rfl := Option.some.inj h
    exact kE ⟨[], 0, [], 0⟩
   have h := ite_f hb h
   obtain rfl := Option.some.inj h
   exact kE ⟨[], 0, [], 0⟩
  refine b_ret ?_
  refine bk_ret ?_
  obtain rfl := Option.some.inj h
  exact rtn ⟨[], 0, [], 0⟩ (.inr rfl)
 replace h := ite_f hb h
 refine b_seq ?_
 refine reg ⟨53, [(1, .str a1), (2, .bool a2), (38, .bool (a0 == 3))]⟩ ⟨[], []⟩ ?_ ?_
 ·exact kE ⟨[], 0, [], 0⟩
 refine bif_ (a0 == 3) (fun hb => ?_) (fun hb => ?_)
 ·replace h := ite_t hb h
  refine b_seq ?_
  obtain ⟨y30, hE, h⟩ := bindE h
  refine reg ⟨53, [(6, .bool y30)]⟩ ⟨[], []⟩ ?_ ?_
  ·replace h := hE
   refine kG 2 41 (a2) (fun hb => ?_) (fun hb => ?_)
   ·have h := ite_t hb h
    obtain ⟨r26, hr26, h⟩ := bindE h
    refine kC 3 ⟨[], 0, [], 0⟩ (go_host_Range_ok hr26) ?_
    refine kG 6 45 (r26) (fun hb => ?_) (fun hb => ?_)
    ·have h := ite_t hb h
     obtain rfl := Option.some.inj h
     exact kE ⟨[], 0, [], 0⟩
    have h := ite_f hb h
    refine kG 9 48 (!a2) (fun hb => ?_) (fun hb => ?_)
    ·have h := ite_t hb h
     obtain ⟨r27, hr27, h⟩ := bindE h
     refine kC 10 ⟨[], 0, [], 0⟩ (go_host_Address_ok hr27) ?_
     obtain rfl := Option.some.inj h
     exact kE ⟨[], 0, [], 0⟩
    have h := ite_f hb h
    obtain rfl := Option.some.inj h
    exact kE ⟨[], 0, [], 0⟩
   have h := ite_f hb h
   refine kG 9 48 (!a2) (fun hb => ?_) (fun hb => ?_)
   ·have h := ite_t hb h
    obtain ⟨r28, hr28, h⟩ := bindE h
    refine kC 10 ⟨[], 0, [], 0⟩ (go_host_Address_ok hr28) ?_
    obtain rfl := Option.some.inj h
    exact kE ⟨[], 0, [], 0⟩
   have h := ite_f hb h
   obtain rfl := Option.some.inj h
   exact kE ⟨[], 0, [], 0⟩
  refine b_ret ?_
  refine bk_ret ?_
  obtain rfl := Option.some.inj h
  exact rtn ⟨[], 0, [], 0⟩ (.inr rfl)
 replace h := ite_f hb h
 refine b_skip ?_
 refine bk_norm ?_
 refine b_seq ?_
 refine reg ⟨53, [(6, .bool false)]⟩ ⟨[], []⟩ ?_ ?_
 ·exact kE ⟨[], 0, [], 0⟩
 refine b_ret ?_
 obtain rfl := Option.some.inj h
 exact rtn ⟨[], 0, [], 0⟩ (.inr rfl)
def go_gname_Check (n : Nat) (a0 : T_api_GeneralName) (a1 : Bool) : Option Int :=
 (go_gname_of n a0.f_Kind).bind fun r1 =>
 if (r1 == 4) = true then (some 14) else (if (r1 == 2) = true then (if (!(a0.f_Text == ([] : List UInt8))) = true then (some 14) else ((go_dname_Check n (T_api_Name.mk a0.f_Name.f_RDNs)).bind fun r6 =>
 some r6)) else ((if (decide ((List.length a0.f_Name.f_RDNs : Int) > 0)) = true then (some true) else ((go_gname_kind_valid n r1 a0.f_Text a1).bind fun r7 =>
 some (!r7))).bind fun y9 =>
 if y9 = true then (some 14) else (some 0)))
theorem go_gname_Check_ok {n : Nat} {a0 : T_api_GeneralName} {a1 : Bool} {r : Int} (h : go_gname_Check n a0 a1 = some r) : ACalls Tryz.prog (gl0 mx) 111 [.agg [.int .i64 a0.f_Kind, .str a0.f_Text, .sl 1 (List.map (cL 3 T_api_Attribute.cells) a0.f_Name.f_RDNs) .none], .bool a1] ⟨[], []⟩ (Out (.int .i64 r) ⟨[], []⟩) := by
 delta go_gname_Check at h
 refine fnc Tryz.func111 rfl ?_
 refine b_seq ?_
 refine reg ⟨33, [(1, .bool a1), (2, .ptr 0 0)]⟩ ⟨[[.int .i64 a0.f_Kind, .str a0.f_Text, .sl 1 (List.map (cL 3 T_api_Attribute.cells) a0.f_Name.f_RDNs) .none]], []⟩ ?_ ?_
 ·exact kE ⟨[0], 1, [], 0⟩
 refine b_seq ?_
 refine b_seq ?_
 obtain ⟨r1, hr1, h⟩ := bindE h
 refine reg ⟨33, [(1, .bool a1), (2, .ptr 0 0), (5, .int .i64 r1)]⟩ ⟨[[.int .i64 a0.f_Kind, .str a0.f_Text, .sl 1 (List.map (cL 3 T_api_Attribute.cells) a0.f_Name.f_RDNs) .none]], []⟩ ?_ ?_
 ·refine kC 2 ⟨[], 1, [], 0⟩ (go_gname_of_ok hr1) ?_
  exact kE ⟨[0], 1, [], 0⟩
 refine b_seq ?_
 refine reg ⟨33, [(1, .bool a1), (2, .ptr 0 0), (5, .int .i64 r1), (9, .int .i64 r1)]⟩ ⟨[[.int .i64 a0.f_Kind, .str a0.f_Text, .sl 1 (List.map (cL 3 T_api_Attribute.cells) a0.f_Name.f_RDNs) .none]], []⟩ ?_ ?_
 ·exact kE ⟨[0], 1, [], 0⟩
 refine b_block ?_
 refine b_seq ?_
 refine reg ⟨33, [(1, .bool a1), (2, .ptr 0 0), (5, .int .i64 r1), (9, .int .i64 r1), (23, .bool (r1 == 4))]⟩ ⟨[[.int .i64 a0.f_Kind, .str a0.f_Text, .sl 1 (List.map (cL 3 T_api_Attribute.cells) a0.f_Name.f_RDNs) .none]], []⟩ ?_ ?_
 ·exact kE ⟨[0], 1, [], 0⟩
 refine bif_ (r1 == 4) (fun hb => ?_) (fun hb => ?_)
 ·replace h := ite_t hb h
  refine b_seq ?_
  refine reg ⟨33, [(4, .int .i64 14)]⟩ ⟨[], []⟩ ?_ ?_
  ·exact kE ⟨[], 1, [], 0⟩
  refine b_ret ?_
  refine bk_ret ?_
  obtain rfl := Option.some.inj h
  exact rtn ⟨[], 0, [], 0⟩ (.inr rfl)
 replace h := ite_f hb h
 refine b_seq ?_
 refine reg ⟨33, [(1, .bool a1), (2, .ptr 0 0), (5, .int .i64 r1), (25, .bool (r1 == 2))]⟩ ⟨[[.int .i64 a0.f_Kind, .str a0.f_Text, .sl 1 (List.map (cL 3 T_api_Attribute.cells) a0.f_Name.f_RDNs) .none]], []⟩ ?_ ?_
 ·exact kE ⟨[0], 1, [], 0⟩
 refine bif_ (r1 == 2) (fun hb => ?_) (fun hb => ?_)
 ·replace h := ite_t hb h
  refine b_seq ?_
  refine b_seq ?_
  refine reg ⟨33, [(2, .ptr 0 0), (29, .bool (!(a0.f_Text == ([] : List UInt8))))]⟩ ⟨[[.int .i64 a0.f_Kind, .str a0.f_Text, .sl 1 (List.map (cL 3 T_api_Attribute.cells) a0.f_Name.f_RDNs) .none]], []⟩ ?_ ?_
  ·exact kE ⟨[0], 1, [], 0⟩
  refine bif_ (!(a0.f_Text == ([] : List UInt8))) (fun hb => ?_) (fun hb => ?_)
  ·replace h := ite_t hb h
   refine b_seq ?_
   refine reg ⟨33, [(4, .int .i64 14)]⟩ ⟨[], []⟩ ?_ ?_
   ·exact kE ⟨[], 1, [], 0⟩
   refine b_ret ?_
   refine bk_ret ?_
   obtain rfl := Option.some.inj h
   exact rtn ⟨[], 0, [], 0⟩ (.inr rfl)
  replace h := ite_f hb h
  refine b_skip ?_
  refine b_seq ?_
  obtain ⟨r6, hr6, h⟩ := bindE h
  refine reg ⟨33, [(4, .int .i64 r6)]⟩ ⟨[], []⟩ ?_ ?_
  ·refine kC 2 ⟨[], 1, [], 0⟩ (go_dname_Check_ok hr6) ?_
   exact kE ⟨[], 1, [], 0⟩
  refine b_ret ?_
  refine bk_ret ?_
  obtain rfl := Option.some.inj h
  exact rtn ⟨[], 0, [], 0⟩ (.inr rfl)
 replace h := ite_f hb h
 refine b_seq ?_
 obtain ⟨y9, hE, h⟩ := bindE h
 refine reg ⟨33, [(22, .bool y9)]⟩ ⟨[], []⟩ ?_ ?_
 ·replace h := hE
  refine kP 3 (x_len (c := (cL 3 T_api_Attribute.cells)) (l := a0.f_Name.f_RDNs) (e := 141) (sz := 1) (sz' := 1) (b := 24) (tok := .none)) ?_
  refine kG 6 15 (decide ((List.length a0.f_Name.f_RDNs : Int) > 0)) (fun hb => ?_) (fun hb => ?_)
  ·have h := ite_t hb h
   obtain rfl := Option.some.inj h
   exact kE ⟨[], 1, [], 0⟩
  have h := ite_f hb h
  obtain ⟨r7, hr7, h⟩ := bindE h
  refine kC 10 ⟨[], 1, [], 0⟩ (go_gname_kind_valid_ok hr7) ?_
  obtain rfl := Option.some.inj h
  exact kE ⟨[], 1, [], 0⟩
 refine bif_ (y9) (fun hb => ?_) (fun hb => ?_)
 ·replace h := ite_t hb h
  refine b_seq ?_
  refine reg ⟨33, [(4, .int .i64 14)]⟩ ⟨[], []⟩ ?_ ?_
  ·exact kE ⟨[], 0, [], 0⟩
  refine b_ret ?_
  refine bk_ret ?_
  obtain rfl := Option.some.inj h
  exact rtn ⟨[], 0, [], 0⟩ (.inr rfl)
 replace h := ite_f hb h
 refine b_skip ?_
 refine bk_norm ?_
 refine b_seq ?_
 refine reg ⟨33, [(4, .int .i64 0)]⟩ ⟨[], []⟩ ?_ ?_
 ·exact kE ⟨[], 0, [], 0⟩
 refine b_ret ?_
 obtain rfl := Option.some.inj h
 exact rtn ⟨[], 0, [], 0⟩ (.inr rfl)
def go_merkle_Check (n : Nat) (a0 : T_api_Key) : Option Int :=
 (if (decide (a0.f_Height < 0)) = true then (some true) else (if (decide (a0.f_Height > 8)) = true then (some true) else (if ((List.length a0.f_ID : Int) != 16) = true then (some true) else (some ((List.length a0.f_Root : Int) != 16))))).bind fun y2 =>
 if y2 = true then (some 18) else (some 0)
theorem go_merkle_Check_ok {n : Nat} {a0 : T_api_Key} {r : Int} (h : go_merkle_Check n a0 = some r) : ACalls Tryz.prog (gl0 mx) 112 [.agg [.int .i64 a0.f_Height, .str a0.f_ID, .str a0.f_Root]] ⟨[], []⟩ (Out (.int .i64 r) ⟨[], []⟩) := by
 delta go_merkle_Check at h
 refine fnc Tryz.func112 rfl ?_
 refine b_seq ?_
 refine reg ⟨23, [(1, .ptr 0 0)]⟩ ⟨[[.int .i64 a0.f_Height, .str a0.f_ID, .str a0.f_Root]], []⟩ ?_ ?_
 ·exact kE ⟨[0], 1, [], 0⟩
 refine b_seq ?_
 refine b_seq ?_
 obtain ⟨y2, hE, h⟩ := bindE h
 refine reg ⟨23, [(22, .bool y2)]⟩ ⟨[], []⟩ ?_ ?_
 ·replace h := hE
  refine kG 4 6 (decide (a0.f_Height < 0)) (fun hb => ?_) (fun hb => ?_)
  ·have h := ite_t hb h
   obtain rfl := Option.some.inj h
   exact kE ⟨[], 1, [], 0⟩
  have h := ite_f hb h
  refine kG 9 11 (decide (a0.f_Height > 8)) (fun hb => ?_) (fun hb => ?_)
  ·have h := ite_t hb h
   obtain rfl := Option.some.inj h
   exact kE ⟨[], 1, [], 0⟩
  have h := ite_f hb h
  refine kG 15 17 ((List.length a0.f_ID : Int) != 16) (fun hb => ?_) (fun hb => ?_)
  ·have h := ite_t hb h
   obtain rfl := Option.some.inj h
   exact kE ⟨[], 1, [], 0⟩
  have h := ite_f hb h
  obtain rfl := Option.some.inj h
  exact kE ⟨[], 1, [], 0⟩
 refine bif_ (y2) (fun hb => ?_) (fun hb => ?_)
 ·replace h := ite_t hb h
  refine b_seq ?_
  refine reg ⟨23, [(2, .int .i64 18)]⟩ ⟨[], []⟩ ?_ ?_
  ·exact kE ⟨[], 0, [], 0⟩
  refine b_ret ?_
  obtain rfl := Option.some.inj h
  exact rtn ⟨[], 0, [], 0⟩ (.inr rfl)
 replace h := ite_f hb h
 refine b_skip ?_
 refine b_seq ?_
 refine reg ⟨23, [(2, .int .i64 0)]⟩ ⟨[], []⟩ ?_ ?_
 ·exact kE ⟨[], 0, [], 0⟩
 refine b_ret ?_
 obtain rfl := Option.some.inj h
 exact rtn ⟨[], 0, [], 0⟩ (.inr rfl)
def go_validate_Query_l1 (n : Nat) (a0 : T_api_Query) : Nat → Int → (List (List UInt8 × Bool)) → Option (Ctl Int (List (List UInt8 × Bool)))
 | 0, _, _ => none
 | k + 1, v41, v42 =>
  if (decide (v41 < (List.length a0.f_Policies : Int))) = true then ((lidx a0.f_Policies v41).bind fun x49 =>
  (go_oid_Valid n x49).bind fun r50 =>
  if (!r50) = true then (some (.ret 11)) else (go_validate_Query_l1 n a0 k (IntKind.wrap .i64 (v41 + 1)) (mput x49 true v42))) else (some (.nxt v42))
def go_validate_Query_l2 (n : Nat) (a0 : T_api_Query) : Nat → Int → Option (Ctl Int Unit)
 | 0, _ => none
 | k + 1, v71 =>
  if (decide (v71 < (List.length a0.f_Names : Int))) = true then ((lidx a0.f_Names v71).bind fun x78 =>
  (go_gname_Check n (T_api_GeneralName.mk x78.f_Kind x78.f_Text (T_api_Name.mk x78.f_Name.f_RDNs)) false).bind fun r79 =>
  if (r79 != 0) = true then (some (.ret r79)) else (go_validate_Query_l2 n a0 k (IntKind.wrap .i64 (v71 + 1)))) else (some (.nxt ()))
def go_validate_Query_l3 (n : Nat) (a0 : T_api_Query) : Nat → Int → Option (Ctl Int Unit)
 | 0, _ => none
 | k + 1, v108 =>
  if (decide (v108 < (List.length a0.f_Issuers : Int))) = true then ((lidx a0.f_Issuers v108).bind fun x118 =>
  (go_dname_Check n (T_api_Name.mk x118.f_Name.f_RDNs)).bind fun r119 =>
  if (r119 != 0) = true then (some (.ret r119)) else (if ((List.length x118.f_Name.f_RDNs : Int) == 0) = true then (some (.ret 14)) else ((go_merkle_Check n (T_api_Key.mk x118.f_Key.f_Height x118.f_Key.f_ID x118.f_Key.f_Root)).bind fun r120 =>
  if (r120 != 0) = true then (some (.ret r120)) else (go_validate_Query_l3 n a0 k (IntKind.wrap .i64 (v108 + 1)))))) else (some (.nxt ()))
def go_validate_Query (n : Nat) (a0 : T_api_Query) : Option Int :=
 (if (decide (a0.f_Time < 0)) = true then (some true) else (some (decide (a0.f_Time > 254033452799)))).bind fun y11 =>
 if y11 = true then (some 12) else ((if (!(a0.f_Purpose == ([] : List UInt8))) = true then ((go_oid_Valid n a0.f_Purpose).bind fun r12 =>
 some (!r12)) else (some false)).bind fun y14 =>
 if y14 = true then (some 11) else ((if (decide (a0.f_Usage < 0)) = true then (some true) else (if (decide (a0.f_Usage > 511)) = true then (some true) else (if (decide (a0.f_MaxLength < 1)) = true then (some true) else (some (decide (a0.f_MaxLength > 8)))))).bind fun y16 =>
 if y16 = true then (some 1) else ((if (decide ((List.length a0.f_Policies : Int) > 8)) = true then (some true) else (if (decide ((List.length a0.f_Names : Int) > 16)) = true then (some true) else (some (decide ((List.length a0.f_Issuers : Int) > 64))))).bind fun y18 =>
 if y18 = true then (some 2) else (ctlB (go_validate_Query_l1 n a0 n 0 ([] : List (List UInt8 × Bool))) (fun r => some r) (fun y34 =>
 if (decide ((List.length y34 : Int) < (List.length a0.f_Policies : Int))) = true then (some 10) else (ctlB (go_validate_Query_l2 n a0 n 0) (fun r => some r) (fun y64 =>
 ctlB (go_validate_Query_l3 n a0 n 0) (fun r => some r) (fun y99 =>
 some 0))))))))
theorem go_validate_Query_ok {n : Nat} {a0 : T_api_Query} {r : Int} (h : go_validate_Query n a0 = some r) : ACalls Tryz.prog (gl0 mx) 42 [.agg [.int .i64 a0.f_Time, .str a0.f_Purpose, .int .i64 a0.f_Usage, .sl 1 (List.map cS a0.f_Policies) .none, .bool a0.f_Explicit, .bool a0.f_NoMapping, .bool a0.f_NoAny, .sl 3 (List.map T_api_GeneralName.cells a0.f_Names) .none, .int .i64 a0.f_MaxLength, .bool a0.f_Status, .sl 4 (List.map T_api_Anchor.cells a0.f_Issuers) .none]] ⟨[], []⟩ (Out (.int .i64 r) ⟨[], []⟩) := by
 delta go_validate_Query at h
 refine fnc Tryz.func42 rfl ?_
 refine b_seq ?_
 refine reg ⟨126, [(1, .ptr 0 0)]⟩ ⟨[[.int .i64 a0.f_Time, .str a0.f_Purpose, .int .i64 a0.f_Usage, .sl 1 (List.map cS a0.f_Policies) .none, .bool a0.f_Explicit, .bool a0.f_NoMapping, .bool a0.f_NoAny, .sl 3 (List.map T_api_GeneralName.cells a0.f_Names) .none, .int .i64 a0.f_MaxLength, .bool a0.f_Status, .sl 4 (List.map T_api_Anchor.cells a0.f_Issuers) .none]], []⟩ ?_ ?_
 ·exact kE ⟨[0], 1, [], 0⟩
 refine b_seq ?_
 refine b_block ?_
 refine b_seq ?_
 obtain ⟨y11, hE, h⟩ := bindE h
 refine reg ⟨126, [(1, .ptr 0 0), (13, .bool y11)]⟩ ⟨[[.int .i64 a0.f_Time, .str a0.f_Purpose, .int .i64 a0.f_Usage, .sl 1 (List.map cS a0.f_Policies) .none, .bool a0.f_Explicit, .bool a0.f_NoMapping, .bool a0.f_NoAny, .sl 3 (List.map T_api_GeneralName.cells a0.f_Names) .none, .int .i64 a0.f_MaxLength, .bool a0.f_Status, .sl 4 (List.map T_api_Anchor.cells a0.f_Issuers) .none]], []⟩ ?_ ?_
 ·replace h := hE
  refine kG 4 17 (decide (a0.f_Time < 0)) (fun hb => ?_) (fun hb => ?_)
  ·have h := ite_t hb h
   obtain rfl := Option.some.inj h
   exact kE ⟨[0], 1, [], 0⟩
  have h := ite_f hb h
  obtain rfl := Option.some.inj h
  exact kE ⟨[0], 1, [], 0⟩
 refine bif_ (y11) (fun hb => ?_) (fun hb => ?_)
 ·replace h := ite_t hb h
  refine b_seq ?_
  refine reg ⟨126, [(2, .int .i64 12)]⟩ ⟨[], []⟩ ?_ ?_
  ·exact kE ⟨[], 1, [], 0⟩
  refine b_ret ?_
  refine bk_ret ?_
  obtain rfl := Option.some.inj h
  exact rtn ⟨[], 0, [], 0⟩ (.inr rfl)
 replace h := ite_f hb h
 refine b_seq ?_
 obtain ⟨y14, hE, h⟩ := bindE h
 refine reg ⟨126, [(1, .ptr 0 0), (22, .bool y14)]⟩ ⟨[[.int .i64 a0.f_Time, .str a0.f_Purpose, .int .i64 a0.f_Usage, .sl 1 (List.map cS a0.f_Policies) .none, .bool a0.f_Explicit, .bool a0.f_NoMapping, .bool a0.f_NoAny, .sl 3 (List.map T_api_GeneralName.cells a0.f_Names) .none, .int .i64 a0.f_MaxLength, .bool a0.f_Status, .sl 4 (List.map T_api_Anchor.cells a0.f_Issuers) .none]], []⟩ ?_ ?_
 ·replace h := hE
  refine kG 4 26 (!(a0.f_Purpose == ([] : List UInt8))) (fun hb => ?_) (fun hb => ?_)
  ·have h := ite_t hb h
   obtain ⟨r12, hr12, h⟩ := bindE h
   refine kC 6 ⟨[], 1, [], 0⟩ (go_oid_Valid_ok hr12) ?_
   obtain rfl := Option.some.inj h
   exact kE ⟨[0], 1, [], 0⟩
  have h := ite_f hb h
  obtain rfl := Option.some.inj h
  exact kE ⟨[0], 1, [], 0⟩
 refine bif_ (y14) (fun hb => ?_) (fun hb => ?_)
 ·replace h := ite_t hb h
  refine b_seq ?_
  refine reg ⟨126, [(2, .int .i64 11)]⟩ ⟨[], []⟩ ?_ ?_
  ·exact kE ⟨[], 1, [], 0⟩
  refine b_ret ?_
  refine bk_ret ?_
  obtain rfl := Option.some.inj h
  exact rtn ⟨[], 0, [], 0⟩ (.inr rfl)
 replace h := ite_f hb h
 refine b_seq ?_
 obtain ⟨y16, hE, h⟩ := bindE h
 refine reg ⟨126, [(1, .ptr 0 0), (32, .bool y16)]⟩ ⟨[[.int .i64 a0.f_Time, .str a0.f_Purpose, .int .i64 a0.f_Usage, .sl 1 (List.map cS a0.f_Policies) .none, .bool a0.f_Explicit, .bool a0.f_NoMapping, .bool a0.f_NoAny, .sl 3 (List.map T_api_GeneralName.cells a0.f_Names) .none, .int .i64 a0.f_MaxLength, .bool a0.f_Status, .sl 4 (List.map T_api_Anchor.cells a0.f_Issuers) .none]], []⟩ ?_ ?_
 ·replace h := hE
  refine kG 4 36 (decide (a0.f_Usage < 0)) (fun hb => ?_) (fun hb => ?_)
  ·have h := ite_t hb h
   obtain rfl := Option.some.inj h
   exact kE ⟨[0], 1, [], 0⟩
  have h := ite_f hb h
  refine kG 9 41 (decide (a0.f_Usage > 511)) (fun hb => ?_) (fun hb => ?_)
  ·have h := ite_t hb h
   obtain rfl := Option.some.inj h
   exact kE ⟨[0], 1, [], 0⟩
  have h := ite_f hb h
  refine kG 14 46 (decide (a0.f_MaxLength < 1)) (fun hb => ?_) (fun hb => ?_)
  ·have h := ite_t hb h
   obtain rfl := Option.some.inj h
   exact kE ⟨[0], 1, [], 0⟩
  have h := ite_f hb h
  obtain rfl := Option.some.inj h
  exact kE ⟨[0], 1, [], 0⟩
 refine bif_ (y16) (fun hb => ?_) (fun hb => ?_)
 ·replace h := ite_t hb h
  refine b_seq ?_
  refine reg ⟨126, [(2, .int .i64 1)]⟩ ⟨[], []⟩ ?_ ?_
  ·exact kE ⟨[], 1, [], 0⟩
  refine b_ret ?_
  refine bk_ret ?_
  obtain rfl := Option.some.inj h
  exact rtn ⟨[], 0, [], 0⟩ (.inr rfl)
 replace h := ite_f hb h
 refine b_seq ?_
 obtain ⟨y18, hE, h⟩ := bindE h
 refine reg ⟨126, [(1, .ptr 0 0), (51, .bool y18)]⟩ ⟨[[.int .i64 a0.f_Time, .str a0.f_Purpose, .int .i64 a0.f_Usage, .sl 1 (List.map cS a0.f_Policies) .none, .bool a0.f_Explicit, .bool a0.f_NoMapping, .bool a0.f_NoAny, .sl 3 (List.map T_api_GeneralName.cells a0.f_Names) .none, .int .i64 a0.f_MaxLength, .bool a0.f_Status, .sl 4 (List.map T_api_Anchor.cells a0.f_Issuers) .none]], []⟩ ?_ ?_
 ·replace h := hE
  refine kP 2 (x_len (c := cS) (l := a0.f_Policies) (e := 9) (sz := 1) (sz' := 1) (b := 16) (tok := .none)) ?_
  refine kG 5 56 (decide ((List.length a0.f_Policies : Int) > 8)) (fun hb => ?_) (fun hb => ?_)
  ·have h := ite_t hb h
   obtain rfl := Option.some.inj h
   exact kE ⟨[0], 1, [], 0⟩
  have h := ite_f hb h
  refine kP 7 (x_len (c := T_api_GeneralName.cells) (l := a0.f_Names) (e := 59) (sz := 3) (sz' := 3) (b := 48) (tok := .none)) ?_
  refine kG 11 62 (decide ((List.length a0.f_Names : Int) > 16)) (fun hb => ?_) (fun hb => ?_)
  ·have h := ite_t hb h
   obtain rfl := Option.some.inj h
   exact kE ⟨[0], 1, [], 0⟩
  have h := ite_f hb h
  refine kP 13 (x_len (c := T_api_Anchor.cells) (l := a0.f_Issuers) (e := 68) (sz := 4) (sz' := 4) (b := 64) (tok := .none)) ?_
  obtain rfl := Option.some.inj h
  exact kE ⟨[0], 1, [], 0⟩
 refine bif_ (y18) (fun hb => ?_) (fun hb => ?_)
 ·replace h := ite_t hb h
  refine b_seq ?_
  refine reg ⟨126, [(2, .int .i64 2)]⟩ ⟨[], []⟩ ?_ ?_
  ·exact kE ⟨[], 1, [], 0⟩
  refine b_ret ?_
  refine bk_ret ?_
  obtain rfl := Option.some.inj h
  exact rtn ⟨[], 0, [], 0⟩ (.inr rfl)
 replace h := ite_f hb h
 refine b_skip ?_
 refine bk_norm ?_
 refine b_seq ?_
 refine reg ⟨126, [(1, .ptr 0 0), (3, .mapv 1)]⟩ ⟨[[.int .i64 a0.f_Time, .str a0.f_Purpose, .int .i64 a0.f_Usage, .sl 1 (List.map cS a0.f_Policies) .none, .bool a0.f_Explicit, .bool a0.f_NoMapping, .bool a0.f_NoAny, .sl 3 (List.map T_api_GeneralName.cells a0.f_Names) .none, .int .i64 a0.f_MaxLength, .bool a0.f_Status, .sl 4 (List.map T_api_Anchor.cells a0.f_Issuers) .none], [.mp (mpc vB ([] : List (List UInt8 × Bool)))]], []⟩ ?_ ?_
 ·exact kE ⟨[0, 1], 2, [], 0⟩
 refine b_seq ?_
 refine b_seq ?_
 refine reg ⟨126, [(1, .ptr 0 0), (3, .mapv 1), (70, .sl 1 (List.map cS a0.f_Policies) .none), (71, .int .i64 (List.length a0.f_Policies : Int)), (72, .int .i64 0)]⟩ ⟨[[.int .i64 a0.f_Time, .str a0.f_Purpose, .int .i64 a0.f_Usage, .sl 1 (List.map cS a0.f_Policies) .none, .bool a0.f_Explicit, .bool a0.f_NoMapping, .bool a0.f_NoAny, .sl 3 (List.map T_api_GeneralName.cells a0.f_Names) .none, .int .i64 a0.f_MaxLength, .bool a0.f_Status, .sl 4 (List.map T_api_Anchor.cells a0.f_Issuers) .none], [.mp (mpc vB ([] : List (List UInt8 × Bool)))]], []⟩ ?_ ?_
 ·refine kP 2 (x_len (c := cS) (l := a0.f_Policies) (e := 9) (sz := 1) (sz' := 1) (b := 16) (tok := .none)) ?_
  exact kE ⟨[0, 1], 2, [], 0⟩
 obtain ⟨o35, hE, hr36, h⟩ := ctlE h
 refine b_blockE (Y := (List (List UInt8 × Bool))) (fun y34 => ⟨126, [(1, .ptr 0 0), (3, .mapv 1)]⟩) (fun y34 => ⟨[[.int .i64 a0.f_Time, .str a0.f_Purpose, .int .i64 a0.f_Usage, .sl 1 (List.map cS a0.f_Policies) .none, .bool a0.f_Explicit, .bool a0.f_NoMapping, .bool a0.f_NoAny, .sl 3 (List.map T_api_GeneralName.cells a0.f_Names) .none, .int .i64 a0.f_MaxLength, .bool a0.f_Status, .sl 4 (List.map T_api_Anchor.cells a0.f_Issuers) .none], [.mp (mpc vB y34)]], []⟩) (fun z => o35 = .nxt z) ?_ cl_cons (fun y34 hy => ?_)
 ·replace h := hE
  refine b_loop (X := (Int × (List (List UInt8 × Bool)))) (fun x => ⟨126, [(1, .ptr 0 0), (3, .mapv 1), (70, .sl 1 (List.map cS a0.f_Policies) .none), (71, .int .i64 (List.length a0.f_Policies : Int)), (72, .int .i64 x.1)]⟩) (fun x => ⟨[[.int .i64 a0.f_Time, .str a0.f_Purpose, .int .i64 a0.f_Usage, .sl 1 (List.map cS a0.f_Policies) .none, .bool a0.f_Explicit, .bool a0.f_NoMapping, .bool a0.f_NoAny, .sl 3 (List.map T_api_GeneralName.cells a0.f_Names) .none, .int .i64 a0.f_MaxLength, .bool a0.f_Status, .sl 4 (List.map T_api_Anchor.cells a0.f_Issuers) .none], [.mp (mpc vB x.2)]], []⟩) (fun k x => go_validate_Query_l1 n a0 k x.1 x.2 = some o35) (fun _ hx => by simp [go_validate_Query_l1] at hx) n (0, ([] : List (List UInt8 × Bool))) h (wk ⟨[0, 1], 2, [], 0⟩) (fun k x h => ?_)
  obtain ⟨v41, v42⟩ := x
  rw [go_validate_Query_l1] at h
  refine b_seq ?_
  refine reg ⟨126, [(1, .ptr 0 0), (3, .mapv 1), (70, .sl 1 (List.map cS a0.f_Policies) .none), (71, .int .i64 (List.length a0.f_Policies : Int)), (72, .int .i64 v41), (73, .bool (decide (v41 < (List.length a0.f_Policies : Int))))]⟩ ⟨[[.int .i64 a0.f_Time, .str a0.f_Purpose, .int .i64 a0.f_Usage, .sl 1 (List.map cS a0.f_Policies) .none, .bool a0.f_Explicit, .bool a0.f_NoMapping, .bool a0.f_NoAny, .sl 3 (List.map T_api_GeneralName.cells a0.f_Names) .none, .int .i64 a0.f_MaxLength, .bool a0.f_Status, .sl 4 (List.map T_api_Anchor.cells a0.f_Issuers) .none], [.mp (mpc vB v42)]], []⟩ ?_ ?_
  ·exact kE ⟨[0, 1], 2, [], 0⟩
  refine b_seq ?_
  refine bif_ (decide (v41 < (List.length a0.f_Policies : Int))) (fun hb => ?_) (fun hb => ?_)
  ·replace h := ite_t hb h
   refine b_skip ?_
   refine b_seq ?_
   refine b_block ?_
   refine b_seq ?_
   obtain ⟨x49, hx49, h⟩ := bindE h
   refine reg ⟨126, [(1, .ptr 0 0), (3, .mapv 1), (5, .str x49), (70, .sl 1 (List.map cS a0.f_Policies) .none), (71, .int .i64 (List.length a0.f_Policies : Int)), (72, .int .i64 v41)]⟩ ⟨[[.int .i64 a0.f_Time, .str a0.f_Purpose, .int .i64 a0.f_Usage, .sl 1 (List.map cS a0.f_Policies) .none, .bool a0.f_Explicit, .bool a0.f_NoMapping, .bool a0.f_NoAny, .sl 3 (List.map T_api_GeneralName.cells a0.f_Names) .none, .int .i64 a0.f_MaxLength, .bool a0.f_Status, .sl 4 (List.map T_api_Anchor.cells a0.f_Issuers) .none], [.mp (mpc vB v42)]], []⟩ ?_ ?_
   ·refine kP 0 (x_lidx (c := cS) (e := 9) (sz := 1) (b := 16) (tok := .none) hx49) ?_
    exact kE ⟨[0, 1], 2, [], 0⟩
   refine b_seq ?_
   refine b_seq ?_
   obtain ⟨r50, hr50, h⟩ := bindE h
   refine reg ⟨126, [(1, .ptr 0 0), (3, .mapv 1), (5, .str x49), (70, .sl 1 (List.map cS a0.f_Policies) .none), (71, .int .i64 (List.length a0.f_Policies : Int)), (72, .int .i64 v41), (78, .bool (!r50))]⟩ ⟨[[.int .i64 a0.f_Time, .str a0.f_Purpose, .int .i64 a0.f_Usage, .sl 1 (List.map cS a0.f_Policies) .none, .bool a0.f_Explicit, .bool a0.f_NoMapping, .bool a0.f_NoAny, .sl 3 (List.map T_api_GeneralName.cells a0.f_Names) .none, .int .i64 a0.f_MaxLength, .bool a0.f_Status, .sl 4 (List.map T_api_Anchor.cells a0.f_Issuers) .none], [.mp (mpc vB v42)]], []⟩ ?_ ?_
   ·refine kC 1 ⟨[], 2, [], 0⟩ (go_oid_Valid_ok hr50) ?_
    exact kE ⟨[0, 1], 2, [], 0⟩
   refine bif_ (!r50) (fun hb => ?_) (fun hb => ?_)
   ·replace h := ite_t hb h
    refine b_seq ?_
    refine reg ⟨126, [(2, .int .i64 11)]⟩ ⟨[], []⟩ ?_ ?_
    ·exact kE ⟨[], 2, [], 0⟩
    refine b_ret ?_
    refine bk_ret ?_
    refine tk_ret ?_
    replace h := hr36 _ (Option.some.inj h).symm
    refine bl_ret ?_
    obtain rfl := Option.some.inj h
    exact rtn ⟨[], 0, [], 0⟩ (.inr rfl)
   replace h := ite_f hb h
   refine b_skip ?_
   refine regN ⟨126, [(1, .ptr 0 0), (3, .mapv 1), (70, .sl 1 (List.map cS a0.f_Policies) .none), (71, .int .i64 (List.length a0.f_Policies : Int)), (72, .int .i64 v41)]⟩ ⟨[[.int .i64 a0.f_Time, .str a0.f_Purpose, .int .i64 a0.f_Usage, .sl 1 (List.map cS a0.f_Policies) .none, .bool a0.f_Explicit, .bool a0.f_NoMapping, .bool a0.f_NoAny, .sl 3 (List.map T_api_GeneralName.cells a0.f_Names) .none, .int .i64 a0.f_MaxLength, .bool a0.f_Status, .sl 4 (List.map T_api_Anchor.cells a0.f_Issuers) .none], [.mp (mpc vB (mput x49 true v42))]], []⟩ cl_cons ?_ ?_
   ·refine kV 2 2 0 1 (x_mput (T := tyT) (c := vB) (e := v42) (k := x49) true (kt := 9) (et := 4) (by kernel_rfl) (fun _ => rfl)) ?_
    exact kE ⟨[0, 1], 2, [], 0⟩
   refine bk_norm ?_
   refine regN ⟨126, [(1, .ptr 0 0), (3, .mapv 1), (70, .sl 1 (List.map cS a0.f_Policies) .none), (71, .int .i64 (List.length a0.f_Policies : Int)), (72, .int .i64 (IntKind.wrap .i64 (v41 + 1)))]⟩ ⟨[[.int .i64 a0.f_Time, .str a0.f_Purpose, .int .i64 a0.f_Usage, .sl 1 (List.map cS a0.f_Policies) .none, .bool a0.f_Explicit, .bool a0.f_NoMapping, .bool a0.f_NoAny, .sl 3 (List.map T_api_GeneralName.cells a0.f_Names) .none, .int .i64 a0.f_MaxLength, .bool a0.f_Status, .sl 4 (List.map T_api_Anchor.cells a0.f_Issuers) .none], [.mp (mpc vB (mput x49 true v42))]], []⟩ cl_loopT ?_ ?_
   ·exact kE ⟨[0, 1], 2, [], 0⟩
   exact ⟨(IntKind.wrap .i64 (v41 + 1), mput x49 true v42), h, wk ⟨[0, 1], 2, [], 0⟩⟩
  replace h := ite_f hb h
  refine b_exit ?_
  refine tk_exit ?_
  refine bl_exit ?_
  exact ⟨v42, (Option.some.inj h).symm, wk ⟨[0, 1], 2, [], 0⟩⟩
 replace h := h _ hy
 refine b_seq ?_
 refine b_seq ?_
 refine reg ⟨126, [(1, .ptr 0 0), (87, .bool (decide ((List.length y34 : Int) < (List.length a0.f_Policies : Int))))]⟩ ⟨[[.int .i64 a0.f_Time, .str a0.f_Purpose, .int .i64 a0.f_Usage, .sl 1 (List.map cS a0.f_Policies) .none, .bool a0.f_Explicit, .bool a0.f_NoMapping, .bool a0.f_NoAny, .sl 3 (List.map T_api_GeneralName.cells a0.f_Names) .none, .int .i64 a0.f_MaxLength, .bool a0.f_Status, .sl 4 (List.map T_api_Anchor.cells a0.f_Issuers) .none]], []⟩ ?_ ?_
 ·refine kP 1 (x_mlen (c := vB) (e := y34)) ?_
  refine kP 4 (x_len (c := cS) (l := a0.f_Policies) (e := 9) (sz := 1) (sz' := 1) (b := 16) (tok := .none)) ?_
  exact kE ⟨[0], 2, [], 0⟩
 refine bif_ (decide ((List.length y34 : Int) < (List.length a0.f_Policies : Int))) (fun hb => ?_) (fun hb => ?_)
 ·replace h := ite_t hb h
  refine b_seq ?_
  refine reg ⟨126, [(2, .int .i64 10)]⟩ ⟨[], []⟩ ?_ ?_
  ·exact kE ⟨[], 1, [], 0⟩
  refine b_ret ?_
  obtain rfl := Option.some.inj h
  exact rtn ⟨[], 0, [], 0⟩ (.inr rfl)
 replace h := ite_f hb h
 refine b_skip ?_
 refine b_seq ?_
 refine b_seq ?_
 refine reg ⟨126, [(1, .ptr 0 0), (89, .sl 3 (List.map T_api_GeneralName.cells a0.f_Names) .none), (90, .int .i64 (List.length a0.f_Names : Int)), (91, .int .i64 0)]⟩ ⟨[[.int .i64 a0.f_Time, .str a0.f_Purpose, .int .i64 a0.f_Usage, .sl 1 (List.map cS a0.f_Policies) .none, .bool a0.f_Explicit, .bool a0.f_NoMapping, .bool a0.f_NoAny, .sl 3 (List.map T_api_GeneralName.cells a0.f_Names) .none, .int .i64 a0.f_MaxLength, .bool a0.f_Status, .sl 4 (List.map T_api_Anchor.cells a0.f_Issuers) .none]], []⟩ ?_ ?_
 ·refine kP 2 (x_len (c := T_api_GeneralName.cells) (l := a0.f_Names) (e := 59) (sz := 3) (sz' := 3) (b := 48) (tok := .none)) ?_
  exact kE ⟨[0], 1, [], 0⟩
 obtain ⟨o65, hE, hr66, h⟩ := ctlE h
 refine b_blockE (Y := Unit) (fun _ => ⟨126, [(1, .ptr 0 0)]⟩) (fun _ => ⟨[[.int .i64 a0.f_Time, .str a0.f_Purpose, .int .i64 a0.f_Usage, .sl 1 (List.map cS a0.f_Policies) .none, .bool a0.f_Explicit, .bool a0.f_NoMapping, .bool a0.f_NoAny, .sl 3 (List.map T_api_GeneralName.cells a0.f_Names) .none, .int .i64 a0.f_MaxLength, .bool a0.f_Status, .sl 4 (List.map T_api_Anchor.cells a0.f_Issuers) .none]], []⟩) (fun z => o65 = .nxt z) ?_ cl_cons (fun y64 hy => ?_)
 ·replace h := hE
  refine b_loop (X := Int) (fun x => ⟨126, [(1, .ptr 0 0), (89, .sl 3 (List.map T_api_GeneralName.cells a0.f_Names) .none), (90, .int .i64 (List.length a0.f_Names : Int)), (91, .int .i64 x)]⟩) (fun x => ⟨[[.int .i64 a0.f_Time, .str a0.f_Purpose, .int .i64 a0.f_Usage, .sl 1 (List.map cS a0.f_Policies) .none, .bool a0.f_Explicit, .bool a0.f_NoMapping, .bool a0.f_NoAny, .sl 3 (List.map T_api_GeneralName.cells a0.f_Names) .none, .int .i64 a0.f_MaxLength, .bool a0.f_Status, .sl 4 (List.map T_api_Anchor.cells a0.f_Issuers) .none]], []⟩) (fun k x => go_validate_Query_l2 n a0 k x = some o65) (fun _ hx => by simp [go_validate_Query_l2] at hx) n 0 h (wk ⟨[0], 1, [], 0⟩) (fun k x h => ?_)
  revert h; revert x; intro v71 h
  rw [go_validate_Query_l2] at h
  refine b_seq ?_
  refine reg ⟨126, [(1, .ptr 0 0), (89, .sl 3 (List.map T_api_GeneralName.cells a0.f_Names) .none), (90, .int .i64 (List.length a0.f_Names : Int)), (91, .int .i64 v71), (92, .bool (decide (v71 < (List.length a0.f_Names : Int))))]⟩ ⟨[[.int .i64 a0.f_Time, .str a0.f_Purpose, .int .i64 a0.f_Usage, .sl 1 (List.map cS a0.f_Policies) .none, .bool a0.f_Explicit, .bool a0.f_NoMapping, .bool a0.f_NoAny, .sl 3 (List.map T_api_GeneralName.cells a0.f_Names) .none, .int .i64 a0.f_MaxLength, .bool a0.f_Status, .sl 4 (List.map T_api_Anchor.cells a0.f_Issuers) .none]], []⟩ ?_ ?_
  ·exact kE ⟨[0], 1, [], 0⟩
  refine b_seq ?_
  refine bif_ (decide (v71 < (List.length a0.f_Names : Int))) (fun hb => ?_) (fun hb => ?_)
  ·replace h := ite_t hb h
   refine b_skip ?_
   refine b_seq ?_
   refine b_block ?_
   refine b_seq ?_
   obtain ⟨x78, hx78, h⟩ := bindE h
   refine reg ⟨126, [(1, .ptr 0 0), (7, .ptr 1 0), (89, .sl 3 (List.map T_api_GeneralName.cells a0.f_Names) .none), (90, .int .i64 (List.length a0.f_Names : Int)), (91, .int .i64 v71)]⟩ ⟨[[.int .i64 a0.f_Time, .str a0.f_Purpose, .int .i64 a0.f_Usage, .sl 1 (List.map cS a0.f_Policies) .none, .bool a0.f_Explicit, .bool a0.f_NoMapping, .bool a0.f_NoAny, .sl 3 (List.map T_api_GeneralName.cells a0.f_Names) .none, .int .i64 a0.f_MaxLength, .bool a0.f_Status, .sl 4 (List.map T_api_Anchor.cells a0.f_Issuers) .none], [.int .i64 x78.f_Kind, .str x78.f_Text, .sl 1 (List.map (cL 3 T_api_Attribute.cells) x78.f_Name.f_RDNs) .none]], []⟩ ?_ ?_
   ·refine kP 0 (x_lidx (c := T_api_GeneralName.cells) (e := 59) (sz := 3) (b := 48) (tok := .none) hx78) ?_
    exact kE ⟨[0, 1], 2, [], 0⟩
   refine b_seq ?_
   obtain ⟨r79, hr79, h⟩ := bindE h
   refine reg ⟨126, [(1, .ptr 0 0), (8, .int .i64 r79), (89, .sl 3 (List.map T_api_GeneralName.cells a0.f_Names) .none), (90, .int .i64 (List.length a0.f_Names : Int)), (91, .int .i64 v71)]⟩ ⟨[[.int .i64 a0.f_Time, .str a0.f_Purpose, .int .i64 a0.f_Usage, .sl 1 (List.map cS a0.f_Policies) .none, .bool a0.f_Explicit, .bool a0.f_NoMapping, .bool a0.f_NoAny, .sl 3 (List.map T_api_GeneralName.cells a0.f_Names) .none, .int .i64 a0.f_MaxLength, .bool a0.f_Status, .sl 4 (List.map T_api_Anchor.cells a0.f_Issuers) .none]], []⟩ ?_ ?_
   ·refine kC 1 ⟨[], 2, [], 0⟩ (go_gname_Check_ok hr79) ?_
    exact kE ⟨[0], 2, [], 0⟩
   refine b_seq ?_
   refine reg ⟨126, [(1, .ptr 0 0), (8, .int .i64 r79), (89, .sl 3 (List.map T_api_GeneralName.cells a0.f_Names) .none), (90, .int .i64 (List.length a0.f_Names : Int)), (91, .int .i64 v71), (98, .bool (r79 != 0))]⟩ ⟨[[.int .i64 a0.f_Time, .str a0.f_Purpose, .int .i64 a0.f_Usage, .sl 1 (List.map cS a0.f_Policies) .none, .bool a0.f_Explicit, .bool a0.f_NoMapping, .bool a0.f_NoAny, .sl 3 (List.map T_api_GeneralName.cells a0.f_Names) .none, .int .i64 a0.f_MaxLength, .bool a0.f_Status, .sl 4 (List.map T_api_Anchor.cells a0.f_Issuers) .none]], []⟩ ?_ ?_
   ·exact kE ⟨[0], 1, [], 0⟩
   refine bif_ (r79 != 0) (fun hb => ?_) (fun hb => ?_)
   ·replace h := ite_t hb h
    refine b_seq ?_
    refine reg ⟨126, [(2, .int .i64 r79)]⟩ ⟨[], []⟩ ?_ ?_
    ·exact kE ⟨[], 1, [], 0⟩
    refine b_ret ?_
    refine bk_ret ?_
    refine tk_ret ?_
    replace h := hr66 _ (Option.some.inj h).symm
    refine bl_ret ?_
    obtain rfl := Option.some.inj h
    exact rtn ⟨[], 0, [], 0⟩ (.inr rfl)
   replace h := ite_f hb h
   refine b_skip ?_
   refine bk_norm ?_
   refine regN ⟨126, [(1, .ptr 0 0), (89, .sl 3 (List.map T_api_GeneralName.cells a0.f_Names) .none), (90, .int .i64 (List.length a0.f_Names : Int)), (91, .int .i64 (IntKind.wrap .i64 (v71 + 1)))]⟩ ⟨[[.int .i64 a0.f_Time, .str a0.f_Purpose, .int .i64 a0.f_Usage, .sl 1 (List.map cS a0.f_Policies) .none, .bool a0.f_Explicit, .bool a0.f_NoMapping, .bool a0.f_NoAny, .sl 3 (List.map T_api_GeneralName.cells a0.f_Names) .none, .int .i64 a0.f_MaxLength, .bool a0.f_Status, .sl 4 (List.map T_api_Anchor.cells a0.f_Issuers) .none]], []⟩ cl_loopT ?_ ?_
   ·exact kE ⟨[0], 1, [], 0⟩
   exact ⟨IntKind.wrap .i64 (v71 + 1), h, wk ⟨[0], 1, [], 0⟩⟩
  replace h := ite_f hb h
  refine b_exit ?_
  refine tk_exit ?_
  refine bl_exit ?_
  exact ⟨(), (Option.some.inj h).symm, wk ⟨[0], 1, [], 0⟩⟩
 replace h := h _ hy
 refine b_seq ?_
 refine b_seq ?_
 refine reg ⟨126, [(102, .sl 4 (List.map T_api_Anchor.cells a0.f_Issuers) .none), (103, .int .i64 (List.length a0.f_Issuers : Int)), (104, .int .i64 0)]⟩ ⟨[], []⟩ ?_ ?_
 ·refine kP 2 (x_len (c := T_api_Anchor.cells) (l := a0.f_Issuers) (e := 68) (sz := 4) (sz' := 4) (b := 64) (tok := .none)) ?_
  exact kE ⟨[], 1, [], 0⟩
 obtain ⟨o100, hE, hr101, h⟩ := ctlE h
 refine b_blockE (Y := Unit) (fun _ => ⟨126, []⟩) (fun _ => ⟨[], []⟩) (fun z => o100 = .nxt z) ?_ cl_cons (fun y99 hy => ?_)
 ·replace h := hE
  refine b_loop (X := Int) (fun x => ⟨126, [(102, .sl 4 (List.map T_api_Anchor.cells a0.f_Issuers) .none), (103, .int .i64 (List.length a0.f_Issuers : Int)), (104, .int .i64 x)]⟩) (fun x => ⟨[], []⟩) (fun k x => go_validate_Query_l3 n a0 k x = some o100) (fun _ hx => by simp [go_validate_Query_l3] at hx) n 0 h (wk ⟨[], 0, [], 0⟩) (fun k x h => ?_)
  revert h; revert x; intro v108 h
  rw [go_validate_Query_l3] at h
  refine b_seq ?_
  refine reg ⟨126, [(102, .sl 4 (List.map T_api_Anchor.cells a0.f_Issuers) .none), (103, .int .i64 (List.length a0.f_Issuers : Int)), (104, .int .i64 v108), (105, .bool (decide (v108 < (List.length a0.f_Issuers : Int))))]⟩ ⟨[], []⟩ ?_ ?_
  ·exact kE ⟨[], 0, [], 0⟩
  refine b_seq ?_
  refine bif_ (decide (v108 < (List.length a0.f_Issuers : Int))) (fun hb => ?_) (fun hb => ?_)
  ·replace h := ite_t hb h
   refine b_skip ?_
   refine b_seq ?_
   refine b_block ?_
   refine b_seq ?_
   obtain ⟨x118, hx118, h⟩ := bindE h
   refine reg ⟨126, [(10, .ptr 0 0), (102, .sl 4 (List.map T_api_Anchor.cells a0.f_Issuers) .none), (103, .int .i64 (List.length a0.f_Issuers : Int)), (104, .int .i64 v108)]⟩ ⟨[[.sl 1 (List.map (cL 3 T_api_Attribute.cells) x118.f_Name.f_RDNs) .none, .int .i64 x118.f_Key.f_Height, .str x118.f_Key.f_ID, .str x118.f_Key.f_Root]], []⟩ ?_ ?_
   ·refine kP 0 (x_lidx (c := T_api_Anchor.cells) (e := 68) (sz := 4) (b := 64) (tok := .none) hx118) ?_
    exact kE ⟨[0], 1, [], 0⟩
   refine b_seq ?_
   refine b_seq ?_
   obtain ⟨r119, hr119, h⟩ := bindE h
   refine reg ⟨126, [(10, .ptr 0 0), (11, .int .i64 r119), (102, .sl 4 (List.map T_api_Anchor.cells a0.f_Issuers) .none), (103, .int .i64 (List.length a0.f_Issuers : Int)), (104, .int .i64 v108)]⟩ ⟨[[.sl 1 (List.map (cL 3 T_api_Attribute.cells) x118.f_Name.f_RDNs) .none, .int .i64 x118.f_Key.f_Height, .str x118.f_Key.f_ID, .str x118.f_Key.f_Root]], []⟩ ?_ ?_
   ·refine kC 2 ⟨[], 1, [], 0⟩ (go_dname_Check_ok hr119) ?_
    exact kE ⟨[0], 1, [], 0⟩
   refine b_seq ?_
   refine reg ⟨126, [(10, .ptr 0 0), (11, .int .i64 r119), (102, .sl 4 (List.map T_api_Anchor.cells a0.f_Issuers) .none), (103, .int .i64 (List.length a0.f_Issuers : Int)), (104, .int .i64 v108), (112, .bool (r119 != 0))]⟩ ⟨[[.sl 1 (List.map (cL 3 T_api_Attribute.cells) x118.f_Name.f_RDNs) .none, .int .i64 x118.f_Key.f_Height, .str x118.f_Key.f_ID, .str x118.f_Key.f_Root]], []⟩ ?_ ?_
   ·exact kE ⟨[0], 1, [], 0⟩
   refine bif_ (r119 != 0) (fun hb => ?_) (fun hb => ?_)
   ·replace h := ite_t hb h
    refine b_seq ?_
    refine reg ⟨126, [(2, .int .i64 r119)]⟩ ⟨[], []⟩ ?_ ?_
    ·exact kE ⟨[], 1, [], 0⟩
    refine b_ret ?_
    refine bk_ret ?_
    refine tk_ret ?_
    replace h := hr101 _ (Option.some.inj h).symm
    refine bl_ret ?_
    obtain rfl := Option.some.inj h
    exact rtn ⟨[], 0, [], 0⟩ (.inr rfl)
   replace h := ite_f hb h
   refine b_skip ?_
   refine b_seq ?_
   refine b_seq ?_
   refine reg ⟨126, [(10, .ptr 0 0), (102, .sl 4 (List.map T_api_Anchor.cells a0.f_Issuers) .none), (103, .int .i64 (List.length a0.f_Issuers : Int)), (104, .int .i64 v108), (118, .bool ((List.length x118.f_Name.f_RDNs : Int) == 0))]⟩ ⟨[[.sl 1 (List.map (cL 3 T_api_Attribute.cells) x118.f_Name.f_RDNs) .none, .int .i64 x118.f_Key.f_Height, .str x118.f_Key.f_ID, .str x118.f_Key.f_Root]], []⟩ ?_ ?_
   ·refine kP 3 (x_len (c := (cL 3 T_api_Attribute.cells)) (l := x118.f_Name.f_RDNs) (e := 141) (sz := 1) (sz' := 1) (b := 24) (tok := .none)) ?_
    exact kE ⟨[0], 1, [], 0⟩
   refine bif_ ((List.length x118.f_Name.f_RDNs : Int) == 0) (fun hb => ?_) (fun hb => ?_)
   ·replace h := ite_t hb h
    refine b_seq ?_
    refine reg ⟨126, [(2, .int .i64 14)]⟩ ⟨[], []⟩ ?_ ?_
    ·exact kE ⟨[], 1, [], 0⟩
    refine b_ret ?_
    refine bk_ret ?_
    refine tk_ret ?_
    replace h := hr101 _ (Option.some.inj h).symm
    refine bl_ret ?_
    obtain rfl := Option.some.inj h
    exact rtn ⟨[], 0, [], 0⟩ (.inr rfl)
   replace h := ite_f hb h
   refine b_skip ?_
   refine b_seq ?_
   obtain ⟨r120, hr120, h⟩ := bindE h
   refine reg ⟨126, [(12, .int .i64 r120), (102, .sl 4 (List.map T_api_Anchor.cells a0.f_Issuers) .none), (103, .int .i64 (List.length a0.f_Issuers : Int)), (104, .int .i64 v108)]⟩ ⟨[], []⟩ ?_ ?_
   ·refine kC 2 ⟨[], 1, [], 0⟩ (go_merkle_Check_ok hr120) ?_
    exact kE ⟨[], 1, [], 0⟩
   refine b_seq ?_
   refine reg ⟨126, [(12, .int .i64 r120), (102, .sl 4 (List.map T_api_Anchor.cells a0.f_Issuers) .none), (103, .int .i64 (List.length a0.f_Issuers : Int)), (104, .int .i64 v108), (123, .bool (r120 != 0))]⟩ ⟨[], []⟩ ?_ ?_
   ·exact kE ⟨[], 0, [], 0⟩
   refine bif_ (r120 != 0) (fun hb => ?_) (fun hb => ?_)
   ·replace h := ite_t hb h
    refine b_seq ?_
    refine reg ⟨126, [(2, .int .i64 r120)]⟩ ⟨[], []⟩ ?_ ?_
    ·exact kE ⟨[], 0, [], 0⟩
    refine b_ret ?_
    refine bk_ret ?_
    refine tk_ret ?_
    replace h := hr101 _ (Option.some.inj h).symm
    refine bl_ret ?_
    obtain rfl := Option.some.inj h
    exact rtn ⟨[], 0, [], 0⟩ (.inr rfl)
   replace h := ite_f hb h
   refine b_skip ?_
   refine bk_norm ?_
   refine regN ⟨126, [(102, .sl 4 (List.map T_api_Anchor.cells a0.f_Issuers) .none), (103, .int .i64 (List.length a0.f_Issuers : Int)), (104, .int .i64 (IntKind.wrap .i64 (v108 + 1)))]⟩ ⟨[], []⟩ cl_loopT ?_ ?_
   ·exact kE ⟨[], 0, [], 0⟩
   exact ⟨IntKind.wrap .i64 (v108 + 1), h, wk ⟨[], 0, [], 0⟩⟩
  replace h := ite_f hb h
  refine b_exit ?_
  refine tk_exit ?_
  refine bl_exit ?_
  exact ⟨(), (Option.some.inj h).symm, wk ⟨[], 0, [], 0⟩⟩
 replace h := h _ hy
 refine b_seq ?_
 refine reg ⟨126, [(2, .int .i64 0)]⟩ ⟨[], []⟩ ?_ ?_
 ·exact kE ⟨[], 0, [], 0⟩
 refine b_ret ?_
 obtain rfl := Option.some.inj h
 exact rtn ⟨[], 0, [], 0⟩ (.inr rfl)
def go_date_before_1 (n : Nat) (a0 : Int) : Option Int :=
 some (IntKind.wrap .i64 ((IntKind.wrap .i64 ((IntKind.wrap .i64 (Int.tdiv a0 4)) - (IntKind.wrap .i64 (Int.tdiv a0 100)))) + (IntKind.wrap .i64 (Int.tdiv a0 400))))
theorem go_date_before_1_ok {n : Nat} {a0 : Int} {r : Int} (h : go_date_before_1 n a0 = some r) : ACalls Tryz.prog (gl0 mx) 227 [.int .i64 a0] ⟨[], []⟩ (Out (.int .i64 r) ⟨[], []⟩) := by
 delta go_date_before_1 at h
 refine fnc Tryz.func227 rfl ?_
 refine b_seq ?_
 refine reg ⟨11, [(0, .int .i64 a0)]⟩ ⟨[], []⟩ ?_ ?_
 ·exact kE ⟨[], 0, [], 0⟩
 refine b_seq ?_
 refine reg ⟨11, [(2, .int .i64 (IntKind.wrap .i64 ((IntKind.wrap .i64 ((IntKind.wrap .i64 (Int.tdiv a0 4)) - (IntKind.wrap .i64 (Int.tdiv a0 100)))) + (IntKind.wrap .i64 (Int.tdiv a0 400)))))]⟩ ⟨[], []⟩ ?_ ?_
 ·exact kE ⟨[], 0, [], 0⟩
 refine b_ret ?_
 obtain rfl := Option.some.inj h
 exact rtn ⟨[], 0, [], 0⟩ (.inr rfl)
def go_date_before (n : Nat) (a0 : Int) : Option Int :=
 (go_date_before_1 n (IntKind.wrap .i64 (a0 - 1))).bind fun r1 =>
 (go_date_before_1 n 1949).bind fun r2 =>
 some (IntKind.wrap .i64 ((IntKind.wrap .i64 ((IntKind.wrap .i64 ((365 : Int) * (IntKind.wrap .i64 (a0 - 1950)))) + r1)) - r2))
theorem go_date_before_ok {n : Nat} {a0 : Int} {r : Int} (h : go_date_before n a0 = some r) : ACalls Tryz.prog (gl0 mx) 172 [.int .i64 a0] ⟨[], []⟩ (Out (.int .i64 r) ⟨[], []⟩) := by
 delta go_date_before at h
 refine fnc Tryz.func172 rfl ?_
 refine b_seq ?_
 refine reg ⟨15, [(0, .int .i64 a0)]⟩ ⟨[], []⟩ ?_ ?_
 ·exact kE ⟨[], 0, [], 0⟩
 refine b_seq ?_
 refine reg ⟨15, [(0, .int .i64 a0), (3, .func (.func 227) [] [])]⟩ ⟨[], []⟩ ?_ ?_
 ·exact kE ⟨[], 0, [], 0⟩
 refine b_seq ?_
 obtain ⟨r1, hr1, h⟩ := bindE h
 obtain ⟨r2, hr2, h⟩ := bindE h
 refine reg ⟨15, [(2, .int .i64 (IntKind.wrap .i64 ((IntKind.wrap .i64 ((IntKind.wrap .i64 ((365 : Int) * (IntKind.wrap .i64 (a0 - 1950)))) + r1)) - r2)))]⟩ ⟨[], []⟩ ?_ ?_
 ·refine kC 6 ⟨[], 0, [], 0⟩ (go_date_before_1_ok hr1) ?_
  refine kC 9 ⟨[], 0, [], 0⟩ (go_date_before_1_ok hr2) ?_
  exact kE ⟨[], 0, [], 0⟩
 refine b_ret ?_
 obtain rfl := Option.some.inj h
 exact rtn ⟨[], 0, [], 0⟩ (.inr rfl)
def go_date_leap (n : Nat) (a0 : Int) : Option Bool :=
 (if ((Int.tmod a0 4) == 0) = true then (if ((Int.tmod a0 100) != 0) = true then (some true) else (some ((Int.tmod a0 400) == 0))) else (some false)).bind fun y2 =>
 some y2
theorem go_date_leap_ok {n : Nat} {a0 : Int} {r : Bool} (h : go_date_leap n a0 = some r) : ACalls Tryz.prog (gl0 mx) 228 [.int .i64 a0] ⟨[], []⟩ (Out (.bool r) ⟨[], []⟩) := by
 delta go_date_leap at h
 refine fnc Tryz.func228 rfl ?_
 refine b_seq ?_
 refine reg ⟨16, [(0, .int .i64 a0)]⟩ ⟨[], []⟩ ?_ ?_
 ·exact kE ⟨[], 0, [], 0⟩
 refine b_seq ?_
 obtain ⟨y2, hE, h⟩ := bindE h
 refine reg ⟨16, [(2, .bool y2)]⟩ ⟨[], []⟩ ?_ ?_
 ·replace h := hE
  refine kG 4 6 ((Int.tmod a0 4) == 0) (fun hb => ?_) (fun hb => ?_)
  ·have h := ite_t hb h
   refine kG 8 10 ((Int.tmod a0 100) != 0) (fun hb => ?_) (fun hb => ?_)
   ·have h := ite_t hb h
    obtain rfl := Option.some.inj h
    exact kE ⟨[], 0, [], 0⟩
   have h := ite_f hb h
   obtain rfl := Option.some.inj h
   exact kE ⟨[], 0, [], 0⟩
  have h := ite_f hb h
  obtain rfl := Option.some.inj h
  exact kE ⟨[], 0, [], 0⟩
 refine b_ret ?_
 obtain rfl := Option.some.inj h
 exact rtn ⟨[], 0, [], 0⟩ (.inr rfl)
def go_date_length (n : Nat) (a0 : Int) (a1 : Int) : Option Int :=
 (if (a1 == 2) = true then ((go_date_leap n a0).bind fun r1 =>
 some r1) else (some false)).bind fun y3 =>
 if y3 = true then (some 29) else ((oidx 12 (IntKind.wrap .i64 (a1 - 1))).bind fun x4 =>
 ((tab0)[(0 + x4 * 1)]?).bind fun x5 =>
 some x5)
theorem go_date_length_ok {n : Nat} {a0 : Int} {a1 : Int} {r : Int} (h : go_date_length n a0 a1 = some r) : ACalls Tryz.prog (gl0 mx) 173 [.int .i64 a0, .int .i64 a1] ⟨[], []⟩ (Out (.int .i64 r) ⟨[], []⟩) := by
 delta go_date_length at h
 refine fnc Tryz.func173 rfl ?_
 refine b_seq ?_
 refine reg ⟨15, [(0, .int .i64 a0), (1, .int .i64 a1)]⟩ ⟨[], []⟩ ?_ ?_
 ·exact kE ⟨[], 0, [], 0⟩
 refine b_seq ?_
 refine b_seq ?_
 obtain ⟨y3, hE, h⟩ := bindE h
 refine reg ⟨15, [(1, .int .i64 a1), (10, .bool y3)]⟩ ⟨[], []⟩ ?_ ?_
 ·replace h := hE
  refine kG 3 7 (a1 == 2) (fun hb => ?_) (fun hb => ?_)
  ·have h := ite_t hb h
   obtain ⟨r1, hr1, h⟩ := bindE h
   refine kC 4 ⟨[], 0, [], 0⟩ (go_date_leap_ok hr1) ?_
   obtain rfl := Option.some.inj h
   exact kE ⟨[], 0, [], 0⟩
  have h := ite_f hb h
  obtain rfl := Option.some.inj h
  exact kE ⟨[], 0, [], 0⟩
 refine bif_ (y3) (fun hb => ?_) (fun hb => ?_)
 ·replace h := ite_t hb h
  refine b_seq ?_
  refine reg ⟨15, [(4, .int .i64 29)]⟩ ⟨[], []⟩ ?_ ?_
  ·exact kE ⟨[], 0, [], 0⟩
  refine b_ret ?_
  obtain rfl := Option.some.inj h
  exact rtn ⟨[], 0, [], 0⟩ (.inr rfl)
 replace h := ite_f hb h
 refine b_skip ?_
 refine b_seq ?_
 obtain ⟨x4, hx4, h⟩ := bindE h
 obtain ⟨x5, hx5, h⟩ := bindE h
 refine reg ⟨15, [(4, .int .i64 x5)]⟩ ⟨[], []⟩ ?_ ?_
 ·refine kP 2 (x_gidx (g := 0) (off := 0) (sz := 1) hx4) ?_
  refine kP 3 (x_gload (c := vI .i64) (l := tab0) (off := (0 + x4 * 1)) hx5) ?_
  exact kE ⟨[], 0, [], 0⟩
 refine b_ret ?_
 obtain rfl := Option.some.inj h
 exact rtn ⟨[], 0, [], 0⟩ (.inr rfl)
def go_date_Civil_l1 (n : Nat) (a0 : Int) : Nat → Int → Option Int
 | 0, _ => none
 | k + 1, v11 =>
  (go_date_before n (IntKind.wrap .i64 (v11 + 1))).bind fun r13 =>
  if (decide (r13 ≤ (IntKind.wrap .i64 (Int.tdiv a0 86400)))) = true then (go_date_Civil_l1 n a0 k (IntKind.wrap .i64 (v11 + 1))) else (some v11)
def go_date_Civil_l2 (n : Nat) (y8 : Int) : Nat → Int → Int → Option (Int × Int)
 | 0, _, _ => none
 | k + 1, v33, v34 =>
  (go_date_length n y8 v34).bind fun r38 =>
  if (decide (v33 ≥ r38)) = true then ((go_date_length n y8 v34).bind fun r40 =>
  go_date_Civil_l2 n y8 k (IntKind.wrap .i64 (v33 - r40)) (IntKind.wrap .i64 (v34 + 1))) else (some (v33, v34))
def go_date_Civil (n : Nat) (a0 : Int) : Option (T_api_Date × Int) :=
 (if (decide (a0 < 0)) = true then (some true) else (some (decide (a0 > 254033452799)))).bind fun y2 =>
 if y2 = true then (some ((T_api_Date.mk 0 0 0 0 0 0), 1)) else ((go_date_Civil_l1 n a0 n (IntKind.wrap .i64 ((1950 : Int) + (IntKind.wrap .i64 (Int.tdiv (IntKind.wrap .i64 (Int.tdiv a0 86400)) 366))))).bind fun y8 =>
 (go_date_before n y8).bind fun r14 =>
 (go_date_Civil_l2 n y8 n (IntKind.wrap .i64 ((IntKind.wrap .i64 (Int.tdiv a0 86400)) - r14)) 1).bind fun y28 =>
 some ((T_api_Date.mk y8 y28.2 (IntKind.wrap .i64 (y28.1 + 1)) (IntKind.wrap .i64 (Int.tdiv (Int.tmod a0 86400) 3600)) (Int.tmod (IntKind.wrap .i64 (Int.tdiv (Int.tmod a0 86400) 60)) 60) (Int.tmod (Int.tmod a0 86400) 60)), 0))
theorem go_date_Civil_ok {n : Nat} {a0 : Int} {r : (T_api_Date × Int)} (h : go_date_Civil n a0 = some r) : ACalls Tryz.prog (gl0 mx) 113 [.int .i64 a0] ⟨[], []⟩ (Out (.tuple [.agg [.int .i64 r.1.f_Year, .int .i64 r.1.f_Month, .int .i64 r.1.f_Day, .int .i64 r.1.f_Hour, .int .i64 r.1.f_Minute, .int .i64 r.1.f_Second], .int .i64 r.2]) ⟨[], []⟩) := by
 delta go_date_Civil at h
 refine fnc Tryz.func113 rfl ?_
 refine b_seq ?_
 refine reg ⟨57, [(0, .int .i64 a0), (2, .ptr 0 0)]⟩ ⟨[[.int .i64 0, .int .i64 0, .int .i64 0, .int .i64 0, .int .i64 0, .int .i64 0]], []⟩ ?_ ?_
 ·exact kE ⟨[0], 1, [], 0⟩
 refine b_seq ?_
 refine b_seq ?_
 obtain ⟨y2, hE, h⟩ := bindE h
 refine reg ⟨57, [(0, .int .i64 a0), (2, .ptr 0 0), (13, .bool y2)]⟩ ⟨[[.int .i64 0, .int .i64 0, .int .i64 0, .int .i64 0, .int .i64 0, .int .i64 0]], []⟩ ?_ ?_
 ·replace h := hE
  refine kG 3 10 (decide (a0 < 0)) (fun hb => ?_) (fun hb => ?_)
  ·have h := ite_t hb h
   obtain rfl := Option.some.inj h
   exact kE ⟨[0], 1, [], 0⟩
  have h := ite_f hb h
  obtain rfl := Option.some.inj h
  exact kE ⟨[0], 1, [], 0⟩
 refine bif_ (y2) (fun hb => ?_) (fun hb => ?_)
 ·replace h := ite_t hb h
  refine b_seq ?_
  refine reg ⟨57, [(2, .ptr 0 0), (3, .int .i64 1)]⟩ ⟨[[.int .i64 0, .int .i64 0, .int .i64 0, .int .i64 0, .int .i64 0, .int .i64 0]], []⟩ ?_ ?_
  ·exact kE ⟨[0], 1, [], 0⟩
  refine b_ret ?_
  obtain rfl := Option.some.inj h
  exact rtn ⟨[], 1, [], 0⟩ (.inr rfl)
 replace h := ite_f hb h
 refine b_skip ?_
 refine b_seq ?_
 refine reg ⟨57, [(2, .ptr 0 0), (4, .int .i64 (IntKind.wrap .i64 (Int.tdiv a0 86400))), (5, .int .i64 (Int.tmod a0 86400))]⟩ ⟨[[.int .i64 0, .int .i64 0, .int .i64 0, .int .i64 0, .int .i64 0, .int .i64 0]], []⟩ ?_ ?_
 ·exact kE ⟨[0], 1, [], 0⟩
 refine b_seq ?_
 refine reg ⟨57, [(2, .ptr 0 0), (4, .int .i64 (IntKind.wrap .i64 (Int.tdiv a0 86400))), (5, .int .i64 (Int.tmod a0 86400)), (6, .int .i64 (IntKind.wrap .i64 ((1950 : Int) + (IntKind.wrap .i64 (Int.tdiv (IntKind.wrap .i64 (Int.tdiv a0 86400)) 366)))))]⟩ ⟨[[.int .i64 0, .int .i64 0, .int .i64 0, .int .i64 0, .int .i64 0, .int .i64 0]], []⟩ ?_ ?_
 ·exact kE ⟨[0], 1, [], 0⟩
 refine b_seq ?_
 obtain ⟨y8, hE, h⟩ := bindE h
 refine b_blockE (Y := Int) (fun y8 => ⟨57, [(2, .ptr 0 0), (4, .int .i64 (IntKind.wrap .i64 (Int.tdiv a0 86400))), (5, .int .i64 (Int.tmod a0 86400)), (6, .int .i64 y8)]⟩) (fun y8 => ⟨[[.int .i64 0, .int .i64 0, .int .i64 0, .int .i64 0, .int .i64 0, .int .i64 0]], []⟩) (fun z => y8 = z) ?_ cl_cons (fun z hz => ?_)
 ·replace h := hE
  refine b_loop (X := Int) (fun x => ⟨57, [(2, .ptr 0 0), (4, .int .i64 (IntKind.wrap .i64 (Int.tdiv a0 86400))), (5, .int .i64 (Int.tmod a0 86400)), (6, .int .i64 x)]⟩) (fun x => ⟨[[.int .i64 0, .int .i64 0, .int .i64 0, .int .i64 0, .int .i64 0, .int .i64 0]], []⟩) (fun k x => go_date_Civil_l1 n a0 k x = some y8) (fun _ hx => by simp [go_date_Civil_l1] at hx) n (IntKind.wrap .i64 ((1950 : Int) + (IntKind.wrap .i64 (Int.tdiv (IntKind.wrap .i64 (Int.tdiv a0 86400)) 366)))) h (wk ⟨[0], 1, [], 0⟩) (fun k x h => ?_)
  revert h; revert x; intro v11 h
  rw [go_date_Civil_l1] at h
  refine b_seq ?_
  refine b_seq ?_
  obtain ⟨r13, hr13, h⟩ := bindE h
  refine reg ⟨57, [(2, .ptr 0 0), (4, .int .i64 (IntKind.wrap .i64 (Int.tdiv a0 86400))), (5, .int .i64 (Int.tmod a0 86400)), (6, .int .i64 v11), (26, .bool (decide (r13 ≤ (IntKind.wrap .i64 (Int.tdiv a0 86400)))))]⟩ ⟨[[.int .i64 0, .int .i64 0, .int .i64 0, .int .i64 0, .int .i64 0, .int .i64 0]], []⟩ ?_ ?_
  ·refine kC 2 ⟨[], 1, [], 0⟩ (go_date_before_ok hr13) ?_
   exact kE ⟨[0], 1, [], 0⟩
  refine bif_ (decide (r13 ≤ (IntKind.wrap .i64 (Int.tdiv a0 86400)))) (fun hb => ?_) (fun hb => ?_)
  ·replace h := ite_t hb h
   refine b_skip ?_
   refine b_block ?_
   refine c_reg ⟨57, [(2, .ptr 0 0), (4, .int .i64 (IntKind.wrap .i64 (Int.tdiv a0 86400))), (5, .int .i64 (Int.tmod a0 86400)), (6, .int .i64 (IntKind.wrap .i64 (v11 + 1)))]⟩ ⟨[[.int .i64 0, .int .i64 0, .int .i64 0, .int .i64 0, .int .i64 0, .int .i64 0]], []⟩ (cl_nil (cl_nil (P := Tryz.prog) (gl := gl0 mx) cl_loopT)) ?_ ?_
   ·exact kE ⟨[0], 1, [], 0⟩
   refine bk_norm ?_
   exact ⟨IntKind.wrap .i64 (v11 + 1), h, wk ⟨[0], 1, [], 0⟩⟩
  replace h := ite_f hb h
  refine b_exit ?_
  refine tk_exit ?_
  refine bl_exit ?_
  exact ⟨v11, (Option.some.inj h).symm, wk ⟨[0], 1, [], 0⟩⟩
 subst hz
 refine b_seq ?_
 obtain ⟨r14, hr14, h⟩ := bindE h
 refine reg ⟨57, [(2, .ptr 0 0), (4, .int .i64 (IntKind.wrap .i64 ((IntKind.wrap .i64 (Int.tdiv a0 86400)) - r14))), (5, .int .i64 (Int.tmod a0 86400)), (6, .int .i64 y8)]⟩ ⟨[[.int .i64 0, .int .i64 0, .int .i64 0, .int .i64 0, .int .i64 0, .int .i64 0]], []⟩ ?_ ?_
 ·refine kC 2 ⟨[], 1, [], 0⟩ (go_date_before_ok hr14) ?_
  exact kE ⟨[0], 1, [], 0⟩
 refine b_seq ?_
 refine reg ⟨57, [(2, .ptr 0 0), (4, .int .i64 (IntKind.wrap .i64 ((IntKind.wrap .i64 (Int.tdiv a0 86400)) - r14))), (5, .int .i64 (Int.tmod a0 86400)), (6, .int .i64 y8), (7, .int .i64 1)]⟩ ⟨[[.int .i64 0, .int .i64 0, .int .i64 0, .int .i64 0, .int .i64 0, .int .i64 0]], []⟩ ?_ ?_
 ·exact kE ⟨[0], 1, [], 0⟩
 refine b_seq ?_
 obtain ⟨y28, hE, h⟩ := bindE h
 refine b_blockE (Y := (Int × Int)) (fun y28 => ⟨57, [(2, .ptr 0 0), (4, .int .i64 y28.1), (5, .int .i64 (Int.tmod a0 86400)), (6, .int .i64 y8), (7, .int .i64 y28.2)]⟩) (fun y28 => ⟨[[.int .i64 0, .int .i64 0, .int .i64 0, .int .i64 0, .int .i64 0, .int .i64 0]], []⟩) (fun z => y28 = z) ?_ cl_cons (fun z hz => ?_)
 ·replace h := hE
  refine b_loop (X := (Int × Int)) (fun x => ⟨57, [(2, .ptr 0 0), (4, .int .i64 x.1), (5, .int .i64 (Int.tmod a0 86400)), (6, .int .i64 y8), (7, .int .i64 x.2)]⟩) (fun x => ⟨[[.int .i64 0, .int .i64 0, .int .i64 0, .int .i64 0, .int .i64 0, .int .i64 0]], []⟩) (fun k x => go_date_Civil_l2 n y8 k x.1 x.2 = some y28) (fun _ hx => by simp [go_date_Civil_l2] at hx) n (IntKind.wrap .i64 ((IntKind.wrap .i64 (Int.tdiv a0 86400)) - r14), 1) h (wk ⟨[0], 1, [], 0⟩) (fun k x h => ?_)
  obtain ⟨v33, v34⟩ := x
  rw [go_date_Civil_l2] at h
  refine b_seq ?_
  refine b_seq ?_
  obtain ⟨r38, hr38, h⟩ := bindE h
  refine reg ⟨57, [(2, .ptr 0 0), (4, .int .i64 v33), (5, .int .i64 (Int.tmod a0 86400)), (6, .int .i64 y8), (7, .int .i64 v34), (37, .bool (decide (v33 ≥ r38)))]⟩ ⟨[[.int .i64 0, .int .i64 0, .int .i64 0, .int .i64 0, .int .i64 0, .int .i64 0]], []⟩ ?_ ?_
  ·refine kC 3 ⟨[], 1, [], 0⟩ (go_date_length_ok hr38) ?_
   exact kE ⟨[0], 1, [], 0⟩
  refine bif_ (decide (v33 ≥ r38)) (fun hb => ?_) (fun hb => ?_)
  ·replace h := ite_t hb h
   refine b_skip ?_
   refine b_block ?_
   refine b_seq ?_
   obtain ⟨r40, hr40, h⟩ := bindE h
   refine reg ⟨57, [(2, .ptr 0 0), (4, .int .i64 (IntKind.wrap .i64 (v33 - r40))), (5, .int .i64 (Int.tmod a0 86400)), (6, .int .i64 y8), (7, .int .i64 v34)]⟩ ⟨[[.int .i64 0, .int .i64 0, .int .i64 0, .int .i64 0, .int .i64 0, .int .i64 0]], []⟩ ?_ ?_
   ·refine kC 3 ⟨[], 1, [], 0⟩ (go_date_length_ok hr40) ?_
    exact kE ⟨[0], 1, [], 0⟩
   refine c_reg ⟨57, [(2, .ptr 0 0), (4, .int .i64 (IntKind.wrap .i64 (v33 - r40))), (5, .int .i64 (Int.tmod a0 86400)), (6, .int .i64 y8), (7, .int .i64 (IntKind.wrap .i64 (v34 + 1)))]⟩ ⟨[[.int .i64 0, .int .i64 0, .int .i64 0, .int .i64 0, .int .i64 0, .int .i64 0]], []⟩ (cl_nil (cl_nil (P := Tryz.prog) (gl := gl0 mx) cl_loopT)) ?_ ?_
   ·exact kE ⟨[0], 1, [], 0⟩
   refine bk_norm ?_
   exact ⟨(IntKind.wrap .i64 (v33 - r40), IntKind.wrap .i64 (v34 + 1)), h, wk ⟨[0], 1, [], 0⟩⟩
  replace h := ite_f hb h
  refine b_exit ?_
  refine tk_exit ?_
  refine bl_exit ?_
  exact ⟨(v33, v34), (Option.some.inj h).symm, wk ⟨[0], 1, [], 0⟩⟩
 subst hz
 refine b_seq ?_
 refine reg ⟨57, [(2, .ptr 0 0), (3, .int .i64 0)]⟩ ⟨[[.int .i64 y8, .int .i64 y28.2, .int .i64 (IntKind.wrap .i64 (y28.1 + 1)), .int .i64 (IntKind.wrap .i64 (Int.tdiv (Int.tmod a0 86400) 3600)), .int .i64 (Int.tmod (IntKind.wrap .i64 (Int.tdiv (Int.tmod a0 86400) 60)) 60), .int .i64 (Int.tmod (Int.tmod a0 86400) 60)]], []⟩ ?_ ?_
 ·exact kE ⟨[0], 1, [], 0⟩
 refine b_ret ?_
 obtain rfl := Option.some.inj h
 exact rtn ⟨[], 1, [], 0⟩ (.inr rfl)
def go_date_put_l1 (n : Nat) (a2 : Int) : Nat → Nat → Int → (List Int) → Option (Nat × (List Int))
 | 0, _, _, _ => none
 | k + 1, v16, v17, v18 =>
  if (decide (v17 < a2)) = true then ((oapp 1 v16 v18 ([48] : List Int)).bind fun x22 =>
  go_date_put_l1 n a2 k (v16 + List.length ([48] : List Int)) (IntKind.wrap .i64 (v17 + 1)) x22) else (some (v16, v18))
def go_date_put_l2 (n : Nat) (y12 : (Nat × (List Int))) : Nat → Int → Int → (List Int) → Option (List Int)
 | 0, _, _, _ => none
 | k + 1, v45, v46, v47 =>
  if (decide (v46 ≥ ((0 : Nat) : Int))) = true then ((oidx y12.1 v46).bind fun x54 =>
  (lset v47 (x54 * 1) (IntKind.wrap .u8 (IntKind.wrap .i64 ((48 : Int) + (Int.tmod v45 10))))).bind fun x55 =>
  go_date_put_l2 n y12 k (IntKind.wrap .i64 (Int.tdiv v45 10)) (IntKind.wrap .i64 (v46 - 1)) x55) else (some v47)
def go_date_put (n : Nat) (a1 : Int) (a2 : Int) : Option (Nat × (List Int)) :=
 (go_date_put_l1 n a2 n 0 0 ([] : List Int)).bind fun y12 =>
 (go_date_put_l2 n y12 n a1 (IntKind.wrap .i64 (((y12.1 : Nat) : Int) - 1)) y12.2).bind fun y39 =>
 some (y12.1, y39)
theorem go_date_put_ok {n : Nat} {a1 : Int} {a2 : Int} {r : (Nat × (List Int))} (h : go_date_put n a1 a2 = some r) : ACalls Tryz.prog (gl0 mx) 114 [.nilsl, .int .i64 a1, .int .i64 a2] ⟨[], []⟩ (Out (.own 0 r.1 1) ⟨[[.buf (List.map (vI .u8) r.2)]], []⟩) := by
 delta go_date_put at h
 refine fnc Tryz.func114 rfl ?_
 refine b_wk (Wk.nilO 0 0 1 (by kernel_rfl)) ?_
 refine b_wk (wk (fr' := ⟨38, [(0, .own 0 0 1), (1, .int .i64 a1), (2, .int .i64 a2)]⟩) (st' := ⟨[[.buf (List.map (vI .u8) ([] : List Int))]], []⟩) ⟨[0], 1, [], 0⟩) ?_
 refine b_seq ?_
 refine reg ⟨38, [(0, .own 0 0 1), (1, .int .i64 a1), (2, .int .i64 a2)]⟩ ⟨[[.buf (List.map (vI .u8) ([] : List Int))]], []⟩ ?_ ?_
 ·exact kE ⟨[0], 1, [], 0⟩
 refine b_seq ?_
 refine reg ⟨38, [(0, .own 0 0 1), (1, .int .i64 a1), (2, .int .i64 a2), (7, .int .i64 ((0 : Nat) : Int))]⟩ ⟨[[.buf (List.map (vI .u8) ([] : List Int))]], []⟩ ?_ ?_
 ·exact kE ⟨[0], 1, [], 0⟩
 refine b_seq ?_
 refine b_seq ?_
 refine reg ⟨38, [(0, .own 0 0 1), (1, .int .i64 a1), (2, .int .i64 a2), (7, .int .i64 ((0 : Nat) : Int)), (8, .int .i64 0)]⟩ ⟨[[.buf (List.map (vI .u8) ([] : List Int))]], []⟩ ?_ ?_
 ·exact kE ⟨[0], 1, [], 0⟩
 obtain ⟨y12, hE, h⟩ := bindE h
 refine b_blockE (Y := (Nat × (List Int))) (fun y12 => ⟨38, [(0, .own 0 y12.1 1), (1, .int .i64 a1), (7, .int .i64 ((0 : Nat) : Int))]⟩) (fun y12 => ⟨[[.buf (List.map (vI .u8) y12.2)]], []⟩) (fun z => y12 = z) ?_ cl_cons (fun z hz => ?_)
 ·replace h := hE
  refine b_loop (X := (Nat × Int × (List Int))) (fun x => ⟨38, [(0, .own 0 x.1 1), (1, .int .i64 a1), (2, .int .i64 a2), (7, .int .i64 ((0 : Nat) : Int)), (8, .int .i64 x.2.1)]⟩) (fun x => ⟨[[.buf (List.map (vI .u8) x.2.2)]], []⟩) (fun k x => go_date_put_l1 n a2 k x.1 x.2.1 x.2.2 = some y12) (fun _ hx => by simp [go_date_put_l1] at hx) n (0, 0, ([] : List Int)) h (wk ⟨[0], 1, [], 0⟩) (fun k x h => ?_)
  obtain ⟨v16, v17, v18⟩ := x
  rw [go_date_put_l1] at h
  refine b_seq ?_
  refine b_seq ?_
  refine reg ⟨38, [(0, .own 0 v16 1), (1, .int .i64 a1), (2, .int .i64 a2), (7, .int .i64 ((0 : Nat) : Int)), (8, .int .i64 v17), (14, .bool (decide (v17 < a2)))]⟩ ⟨[[.buf (List.map (vI .u8) v18)]], []⟩ ?_ ?_
  ·exact kE ⟨[0], 1, [], 0⟩
  refine bif_ (decide (v17 < a2)) (fun hb => ?_) (fun hb => ?_)
  ·replace h := ite_t hb h
   refine b_skip ?_
   refine b_seq ?_
   refine b_block ?_
   obtain ⟨x22, hx22, h⟩ := bindE h
   refine regN ⟨38, [(0, .own 0 (v16 + List.length ([48] : List Int)) 1), (1, .int .i64 a1), (2, .int .i64 a2), (7, .int .i64 ((0 : Nat) : Int)), (8, .int .i64 v17)]⟩ ⟨[[.buf (List.map (vI .u8) x22)]], []⟩ cl_cons ?_ ?_
   ·refine kV 2 1 0 0 (x_oapp (T := tyT) (c := (vI .u8)) (l := v18) (l2 := ([48] : List Int)) (n := v16) (e := 5) (e2 := 5) (bytes := 1) (b2 := 1) (tok2 := .exact) (by kernel_rfl) hx22) ?_
    exact kE ⟨[1], 2, [], 0⟩
   refine bk_norm ?_
   refine regN ⟨38, [(0, .own 0 (v16 + List.length ([48] : List Int)) 1), (1, .int .i64 a1), (2, .int .i64 a2), (7, .int .i64 ((0 : Nat) : Int)), (8, .int .i64 (IntKind.wrap .i64 (v17 + 1)))]⟩ ⟨[[.buf (List.map (vI .u8) x22)]], []⟩ cl_loopT ?_ ?_
   ·exact kE ⟨[0], 1, [], 0⟩
   exact ⟨(v16 + List.length ([48] : List Int), IntKind.wrap .i64 (v17 + 1), x22), h, wk ⟨[0], 1, [], 0⟩⟩
  replace h := ite_f hb h
  refine b_exit ?_
  refine tk_exit ?_
  refine bl_exit ?_
  exact ⟨(v16, v18), (Option.some.inj h).symm, wk ⟨[0], 1, [], 0⟩⟩
 subst hz
 refine b_seq ?_
 refine b_seq ?_
 refine reg ⟨38, [(0, .own 0 y12.1 1), (1, .int .i64 a1), (7, .int .i64 ((0 : Nat) : Int)), (9, .int .i64 (IntKind.wrap .i64 (((y12.1 : Nat) : Int) - 1)))]⟩ ⟨[[.buf (List.map (vI .u8) y12.2)]], []⟩ ?_ ?_
 ·exact kE ⟨[0], 1, [], 0⟩
 obtain ⟨y39, hE, h⟩ := bindE h
 refine b_blockE (Y := (List Int)) (fun y39 => ⟨38, [(0, .own 0 y12.1 1)]⟩) (fun y39 => ⟨[[.buf (List.map (vI .u8) y39)]], []⟩) (fun z => y39 = z) ?_ cl_cons (fun z hz => ?_)
 ·replace h := hE
  refine b_loop (X := (Int × Int × (List Int))) (fun x => ⟨38, [(0, .own 0 y12.1 1), (1, .int .i64 x.1), (7, .int .i64 ((0 : Nat) : Int)), (9, .int .i64 x.2.1)]⟩) (fun x => ⟨[[.buf (List.map (vI .u8) x.2.2)]], []⟩) (fun k x => go_date_put_l2 n y12 k x.1 x.2.1 x.2.2 = some y39) (fun _ hx => by simp [go_date_put_l2] at hx) n (a1, IntKind.wrap .i64 (((y12.1 : Nat) : Int) - 1), y12.2) h (wk ⟨[0], 1, [], 0⟩) (fun k x h => ?_)
  obtain ⟨v45, v46, v47⟩ := x
  rw [go_date_put_l2] at h
  refine b_seq ?_
  refine b_seq ?_
  refine reg ⟨38, [(0, .own 0 y12.1 1), (1, .int .i64 v45), (7, .int .i64 ((0 : Nat) : Int)), (9, .int .i64 v46), (25, .bool (decide (v46 ≥ ((0 : Nat) : Int))))]⟩ ⟨[[.buf (List.map (vI .u8) v47)]], []⟩ ?_ ?_
  ·exact kE ⟨[0], 1, [], 0⟩
  refine bif_ (decide (v46 ≥ ((0 : Nat) : Int))) (fun hb => ?_) (fun hb => ?_)
  ·replace h := ite_t hb h
   refine b_skip ?_
   refine b_seq ?_
   refine b_block ?_
   refine b_seq ?_
   obtain ⟨x54, hx54, h⟩ := bindE h
   obtain ⟨x55, hx55, h⟩ := bindE h
   refine reg ⟨38, [(0, .own 0 y12.1 1), (1, .int .i64 v45), (7, .int .i64 ((0 : Nat) : Int)), (9, .int .i64 v46)]⟩ ⟨[[.buf (List.map (vI .u8) x55)]], []⟩ ?_ ?_
   ·refine kP 6 (x_oidx (id := 0) (e := 5) (sz := 1) (b := 1) hx54) ?_
    refine kV 7 1 0 0 (x_ostore (T := tyT) (t := 5) (c := (vI .u8)) (l := v47) (off := (x54 * 1)) (x := IntKind.wrap .u8 (IntKind.wrap .i64 ((48 : Int) + (Int.tmod v45 10)))) (uI .u8) (by kernel_rfl) hx55) ?_
    exact kE ⟨[0], 1, [], 0⟩
   refine regN ⟨38, [(0, .own 0 y12.1 1), (1, .int .i64 (IntKind.wrap .i64 (Int.tdiv v45 10))), (7, .int .i64 ((0 : Nat) : Int)), (9, .int .i64 v46)]⟩ ⟨[[.buf (List.map (vI .u8) x55)]], []⟩ cl_cons ?_ ?_
   ·exact kE ⟨[0], 1, [], 0⟩
   refine bk_norm ?_
   refine regN ⟨38, [(0, .own 0 y12.1 1), (1, .int .i64 (IntKind.wrap .i64 (Int.tdiv v45 10))), (7, .int .i64 ((0 : Nat) : Int)), (9, .int .i64 (IntKind.wrap .i64 (v46 - 1)))]⟩ ⟨[[.buf (List.map (vI .u8) x55)]], []⟩ cl_loopT ?_ ?_
   ·exact kE ⟨[0], 1, [], 0⟩
   exact ⟨(IntKind.wrap .i64 (Int.tdiv v45 10), IntKind.wrap .i64 (v46 - 1), x55), h, wk ⟨[0], 1, [], 0⟩⟩
  replace h := ite_f hb h
  refine b_exit ?_
  refine tk_exit ?_
  refine bl_exit ?_
  exact ⟨v47, (Option.some.inj h).symm, wk ⟨[0], 1, [], 0⟩⟩
 subst hz
 refine b_seq ?_
 refine reg ⟨38, [(6, .own 0 y12.1 1)]⟩ ⟨[[.buf (List.map (vI .u8) y39)]], []⟩ ?_ ?_
 ·exact kE ⟨[0], 1, [], 0⟩
 refine b_ret ?_
 obtain rfl := Option.some.inj h
 exact rtn ⟨[0], 1, [], 0⟩ (.inr rfl)
def go_date_put_2_l1 (n : Nat) (a2 : Int) : Nat → Nat → Int → (List Int) → Option (Nat × (List Int))
 | 0, _, _, _ => none
 | k + 1, v16, v17, v18 =>
  if (decide (v17 < a2)) = true then ((oapp 1 v16 v18 ([48] : List Int)).bind fun x22 =>
  go_date_put_2_l1 n a2 k (v16 + List.length ([48] : List Int)) (IntKind.wrap .i64 (v17 + 1)) x22) else (some (v16, v18))
def go_date_put_2_l2 (n : Nat) (a0 : Nat) (y12 : (Nat × (List Int))) : Nat → Int → Int → (List Int) → Option (List Int)
 | 0, _, _, _ => none
 | k + 1, v45, v46, v47 =>
  if (decide (v46 ≥ ((a0 : Nat) : Int))) = true then ((oidx y12.1 v46).bind fun x54 =>
  (lset v47 (x54 * 1) (IntKind.wrap .u8 (IntKind.wrap .i64 ((48 : Int) + (Int.tmod v45 10))))).bind fun x55 =>
  go_date_put_2_l2 n a0 y12 k (IntKind.wrap .i64 (Int.tdiv v45 10)) (IntKind.wrap .i64 (v46 - 1)) x55) else (some v47)
def go_date_put_2 (n : Nat) (a0 : Nat) (a1 : Int) (a2 : Int) (m0 : (List Int)) : Option (Nat × (List Int)) :=
 (go_date_put_2_l1 n a2 n a0 0 m0).bind fun y12 =>
 (go_date_put_2_l2 n a0 y12 n a1 (IntKind.wrap .i64 (((y12.1 : Nat) : Int) - 1)) y12.2).bind fun y39 =>
 some (y12.1, y39)
theorem go_date_put_2_ok {n : Nat} {a0 : Nat} {a1 : Int} {a2 : Int} {m0 : (List Int)} {r : (Nat × (List Int))} (h : go_date_put_2 n a0 a1 a2 m0 = some r) : ACalls Tryz.prog (gl0 mx) 114 [.own 0 a0 1, .int .i64 a1, .int .i64 a2] ⟨[[.buf (List.map (vI .u8) m0)]], []⟩ (Out (.own 1 r.1 1) ⟨[[], [.buf (List.map (vI .u8) r.2)]], []⟩) := by
 delta go_date_put_2 at h
 refine fnc Tryz.func114 rfl ?_
 refine b_wk (Wk.mov (cells := [.buf (List.map (vI .u8) m0)]) 0 0 a0 1 1 (by kernel_rfl)) ?_
 refine b_wk (wk (fr' := ⟨38, [(0, .own 1 a0 1), (1, .int .i64 a1), (2, .int .i64 a2)]⟩) (st' := ⟨[[], [.buf (List.map (vI .u8) m0)]], []⟩) ⟨[0, 1], 2, [], 0⟩) ?_
 refine b_seq ?_
 refine reg ⟨38, [(0, .own 1 a0 1), (1, .int .i64 a1), (2, .int .i64 a2)]⟩ ⟨[[], [.buf (List.map (vI .u8) m0)]], []⟩ ?_ ?_
 ·exact kE ⟨[0, 1], 2, [], 0⟩
 refine b_seq ?_
 refine reg ⟨38, [(0, .own 1 a0 1), (1, .int .i64 a1), (2, .int .i64 a2), (7, .int .i64 ((a0 : Nat) : Int))]⟩ ⟨[[], [.buf (List.map (vI .u8) m0)]], []⟩ ?_ ?_
 ·exact kE ⟨[0, 1], 2, [], 0⟩
 refine b_seq ?_
 refine b_seq ?_
 refine reg ⟨38, [(0, .own 1 a0 1), (1, .int .i64 a1), (2, .int .i64 a2), (7, .int .i64 ((a0 : Nat) : Int)), (8, .int .i64 0)]⟩ ⟨[[], [.buf (List.map (vI .u8) m0)]], []⟩ ?_ ?_
 ·exact kE ⟨[0, 1], 2, [], 0⟩
 obtain ⟨y12, hE, h⟩ := bindE h
 refine b_blockE (Y := (Nat × (List Int))) (fun y12 => ⟨38, [(0, .own 1 y12.1 1), (1, .int .i64 a1), (7, .int .i64 ((a0 : Nat) : Int))]⟩) (fun y12 => ⟨[[], [.buf (List.map (vI .u8) y12.2)]], []⟩) (fun z => y12 = z) ?_ cl_cons (fun z hz => ?_)
 ·replace h := hE
  refine b_loop (X := (Nat × Int × (List Int))) (fun x => ⟨38, [(0, .own 1 x.1 1), (1, .int .i64 a1), (2, .int .i64 a2), (7, .int .i64 ((a0 : Nat) : Int)), (8, .int .i64 x.2.1)]⟩) (fun x => ⟨[[], [.buf (List.map (vI .u8) x.2.2)]], []⟩) (fun k x => go_date_put_2_l1 n a2 k x.1 x.2.1 x.2.2 = some y12) (fun _ hx => by simp [go_date_put_2_l1] at hx) n (a0, 0, m0) h (wk ⟨[0, 1], 2, [], 0⟩) (fun k x h => ?_)
  obtain ⟨v16, v17, v18⟩ := x
  rw [go_date_put_2_l1] at h
  refine b_seq ?_
  refine b_seq ?_
  refine reg ⟨38, [(0, .own 1 v16 1), (1, .int .i64 a1), (2, .int .i64 a2), (7, .int .i64 ((a0 : Nat) : Int)), (8, .int .i64 v17), (14, .bool (decide (v17 < a2)))]⟩ ⟨[[], [.buf (List.map (vI .u8) v18)]], []⟩ ?_ ?_
  ·exact kE ⟨[0, 1], 2, [], 0⟩
  refine bif_ (decide (v17 < a2)) (fun hb => ?_) (fun hb => ?_)
  ·replace h := ite_t hb h
   refine b_skip ?_
   refine b_seq ?_
   refine b_block ?_
   obtain ⟨x22, hx22, h⟩ := bindE h
   refine regN ⟨38, [(0, .own 1 (v16 + List.length ([48] : List Int)) 1), (1, .int .i64 a1), (2, .int .i64 a2), (7, .int .i64 ((a0 : Nat) : Int)), (8, .int .i64 v17)]⟩ ⟨[[], [.buf (List.map (vI .u8) x22)]], []⟩ cl_cons ?_ ?_
   ·refine kV 2 2 0 1 (x_oapp (T := tyT) (c := (vI .u8)) (l := v18) (l2 := ([48] : List Int)) (n := v16) (e := 5) (e2 := 5) (bytes := 1) (b2 := 1) (tok2 := .exact) (by kernel_rfl) hx22) ?_
    exact kE ⟨[0, 2], 3, [], 0⟩
   refine bk_norm ?_
   refine regN ⟨38, [(0, .own 1 (v16 + List.length ([48] : List Int)) 1), (1, .int .i64 a1), (2, .int .i64 a2), (7, .int .i64 ((a0 : Nat) : Int)), (8, .int .i64 (IntKind.wrap .i64 (v17 + 1)))]⟩ ⟨[[], [.buf (List.map (vI .u8) x22)]], []⟩ cl_loopT ?_ ?_
   ·exact kE ⟨[0, 1], 2, [], 0⟩
   exact ⟨(v16 + List.length ([48] : List Int), IntKind.wrap .i64 (v17 + 1), x22), h, wk ⟨[0, 1], 2, [], 0⟩⟩
  replace h := ite_f hb h
  refine b_exit ?_
  refine tk_exit ?_
  refine bl_exit ?_
  exact ⟨(v16, v18), (Option.some.inj h).symm, wk ⟨[0, 1], 2, [], 0⟩⟩
 subst hz
 refine b_seq ?_
 refine b_seq ?_
 refine reg ⟨38, [(0, .own 1 y12.1 1), (1, .int .i64 a1), (7, .int .i64 ((a0 : Nat) : Int)), (9, .int .i64 (IntKind.wrap .i64 (((y12.1 : Nat) : Int) - 1)))]⟩ ⟨[[], [.buf (List.map (vI .u8) y12.2)]], []⟩ ?_ ?_
 ·exact kE ⟨[0, 1], 2, [], 0⟩
 obtain ⟨y39, hE, h⟩ := bindE h
 refine b_blockE (Y := (List Int)) (fun y39 => ⟨38, [(0, .own 1 y12.1 1)]⟩) (fun y39 => ⟨[[], [.buf (List.map (vI .u8) y39)]], []⟩) (fun z => y39 = z) ?_ cl_cons (fun z hz => ?_)
 ·replace h := hE
  refine b_loop (X := (Int × Int × (List Int))) (fun x => ⟨38, [(0, .own 1 y12.1 1), (1, .int .i64 x.1), (7, .int .i64 ((a0 : Nat) : Int)), (9, .int .i64 x.2.1)]⟩) (fun x => ⟨[[], [.buf (List.map (vI .u8) x.2.2)]], []⟩) (fun k x => go_date_put_2_l2 n a0 y12 k x.1 x.2.1 x.2.2 = some y39) (fun _ hx => by simp [go_date_put_2_l2] at hx) n (a1, IntKind.wrap .i64 (((y12.1 : Nat) : Int) - 1), y12.2) h (wk ⟨[0, 1], 2, [], 0⟩) (fun k x h => ?_)
  obtain ⟨v45, v46, v47⟩ := x
  rw [go_date_put_2_l2] at h
  refine b_seq ?_
  refine b_seq ?_
  refine reg ⟨38, [(0, .own 1 y12.1 1), (1, .int .i64 v45), (7, .int .i64 ((a0 : Nat) : Int)), (9, .int .i64 v46), (25, .bool (decide (v46 ≥ ((a0 : Nat) : Int))))]⟩ ⟨[[], [.buf (List.map (vI .u8) v47)]], []⟩ ?_ ?_
  ·exact kE ⟨[0, 1], 2, [], 0⟩
  refine bif_ (decide (v46 ≥ ((a0 : Nat) : Int))) (fun hb => ?_) (fun hb => ?_)
  ·replace h := ite_t hb h
   refine b_skip ?_
   refine b_seq ?_
   refine b_block ?_
   refine b_seq ?_
   obtain ⟨x54, hx54, h⟩ := bindE h
   obtain ⟨x55, hx55, h⟩ := bindE h
   refine reg ⟨38, [(0, .own 1 y12.1 1), (1, .int .i64 v45), (7, .int .i64 ((a0 : Nat) : Int)), (9, .int .i64 v46)]⟩ ⟨[[], [.buf (List.map (vI .u8) x55)]], []⟩ ?_ ?_
   ·refine kP 6 (x_oidx (id := 1) (e := 5) (sz := 1) (b := 1) hx54) ?_
    refine kV 7 2 0 1 (x_ostore (T := tyT) (t := 5) (c := (vI .u8)) (l := v47) (off := (x54 * 1)) (x := IntKind.wrap .u8 (IntKind.wrap .i64 ((48 : Int) + (Int.tmod v45 10)))) (uI .u8) (by kernel_rfl) hx55) ?_
    exact kE ⟨[0, 1], 2, [], 0⟩
   refine regN ⟨38, [(0, .own 1 y12.1 1), (1, .int .i64 (IntKind.wrap .i64 (Int.tdiv v45 10))), (7, .int .i64 ((a0 : Nat) : Int)), (9, .int .i64 v46)]⟩ ⟨[[], [.buf (List.map (vI .u8) x55)]], []⟩ cl_cons ?_ ?_
   ·exact kE ⟨[0, 1], 2, [], 0⟩
   refine bk_norm ?_
   refine regN ⟨38, [(0, .own 1 y12.1 1), (1, .int .i64 (IntKind.wrap .i64 (Int.tdiv v45 10))), (7, .int .i64 ((a0 : Nat) : Int)), (9, .int .i64 (IntKind.wrap .i64 (v46 - 1)))]⟩ ⟨[[], [.buf (List.map (vI .u8) x55)]], []⟩ cl_loopT ?_ ?_
   ·exact kE ⟨[0, 1], 2, [], 0⟩
   exact ⟨(IntKind.wrap .i64 (Int.tdiv v45 10), IntKind.wrap .i64 (v46 - 1), x55), h, wk ⟨[0, 1], 2, [], 0⟩⟩
  replace h := ite_f hb h
  refine b_exit ?_
  refine tk_exit ?_
  refine bl_exit ?_
  exact ⟨v47, (Option.some.inj h).symm, wk ⟨[0, 1], 2, [], 0⟩⟩
 subst hz
 refine b_seq ?_
 refine reg ⟨38, [(6, .own 1 y12.1 1)]⟩ ⟨[[], [.buf (List.map (vI .u8) y39)]], []⟩ ?_ ?_
 ·exact kE ⟨[0, 1], 2, [], 0⟩
 refine b_ret ?_
 obtain rfl := Option.some.inj h
 exact rtn ⟨[0, 1], 2, [], 0⟩ (.inr rfl)
def go_tlv_Wrap_l1 (n : Nat) (a1 : (List (List UInt8))) : Nat → Int → Int → Option (Ctl ((List UInt8) × Int) Int)
 | 0, _, _ => none
 | k + 1, v17, v18 =>
  if (decide (v18 < (List.length a1 : Int))) = true then ((lidx a1 v18).bind fun x22 =>
  if (decide ((List.length x22 : Int) > (IntKind.wrap .i64 ((131072 : Int) - v17)))) = true then (some (.ret (([] : List UInt8), 6))) else (go_tlv_Wrap_l1 n a1 k (IntKind.wrap .i64 (v17 + (List.length x22 : Int))) (IntKind.wrap .i64 (v18 + 1)))) else (some (.nxt v17))
def go_tlv_Wrap (n : Nat) (a0 : Int) (a1 : (List (List UInt8))) : Option ((List UInt8) × Int) :=
 (if (decide (a0 < 0)) = true then (some true) else (if (decide (a0 > 255)) = true then (some true) else (some ((iand .i64 a0 31) == 31)))).bind fun y2 =>
 if y2 = true then (some (([] : List UInt8), 5)) else (ctlB (go_tlv_Wrap_l1 n a1 n 0 0) (fun r => some r) (fun y12 =>
 (if (decide (y12 < 128)) = true then ((lappx 1 ([IntKind.wrap .u8 a0] : List Int) ([IntKind.wrap .u8 y12] : List Int)).bind fun x34 =>
 some x34) else (if (decide (y12 < 256)) = true then ((lappx 1 ([IntKind.wrap .u8 a0] : List Int) ([129, IntKind.wrap .u8 y12] : List Int)).bind fun x35 =>
 some x35) else (if (decide (y12 < 65536)) = true then ((lappx 1 ([IntKind.wrap .u8 a0] : List Int) ([130, IntKind.wrap .u8 (Int.fdiv y12 256), IntKind.wrap .u8 y12] : List Int)).bind fun x36 =>
 some x36) else ((lappx 1 ([IntKind.wrap .u8 a0] : List Int) ([131, IntKind.wrap .u8 (Int.fdiv y12 65536), IntKind.wrap .u8 (Int.fdiv y12 256), IntKind.wrap .u8 y12] : List Int)).bind fun x37 =>
 some x37)))).bind fun y32 =>
 (ct_Join n a1 ([] : List UInt8)).bind fun r38 =>
 (sadd (b2s y32) r38).bind fun x39 =>
 some (x39, 0)))
theorem go_tlv_Wrap_ok {n : Nat} {a0 : Int} {a1 : (List (List UInt8))} {r : ((List UInt8) × Int)} (h : go_tlv_Wrap n a0 a1 = some r) : ACalls Tryz.prog (gl0 mx) 115 [.int .i64 a0, .sl 1 (List.map cS a1) .none] ⟨[], []⟩ (Out (.tuple [.str r.1, .int .i64 r.2]) ⟨[], []⟩) := by
 delta go_tlv_Wrap at h
 refine fnc Tryz.func115 rfl ?_
 refine b_seq ?_
 refine reg ⟨83, [(0, .int .i64 a0), (1, .sl 1 (List.map cS a1) .none)]⟩ ⟨[], []⟩ ?_ ?_
 ·exact kE ⟨[], 0, [], 0⟩
 refine b_seq ?_
 refine b_seq ?_
 obtain ⟨y2, hE, h⟩ := bindE h
 refine reg ⟨83, [(0, .int .i64 a0), (1, .sl 1 (List.map cS a1) .none), (20, .bool y2)]⟩ ⟨[], []⟩ ?_ ?_
 ·replace h := hE
  refine kG 3 12 (decide (a0 < 0)) (fun hb => ?_) (fun hb => ?_)
  ·have h := ite_t hb h
   obtain rfl := Option.some.inj h
   exact kE ⟨[], 0, [], 0⟩
  have h := ite_f hb h
  refine kG 7 16 (decide (a0 > 255)) (fun hb => ?_) (fun hb => ?_)
  ·have h := ite_t hb h
   obtain rfl := Option.some.inj h
   exact kE ⟨[], 0, [], 0⟩
  have h := ite_f hb h
  obtain rfl := Option.some.inj h
  exact kE ⟨[], 0, [], 0⟩
 refine bif_ (y2) (fun hb => ?_) (fun hb => ?_)
 ·replace h := ite_t hb h
  refine b_seq ?_
  refine reg ⟨83, [(4, .str ([] : List UInt8)), (5, .int .i64 5)]⟩ ⟨[], []⟩ ?_ ?_
  ·exact kE ⟨[], 0, [], 0⟩
  refine b_ret ?_
  obtain rfl := Option.some.inj h
  exact rtn ⟨[], 0, [], 0⟩ (.inr rfl)
 replace h := ite_f hb h
 refine b_skip ?_
 refine b_seq ?_
 refine reg ⟨83, [(0, .int .i64 a0), (1, .sl 1 (List.map cS a1) .none), (6, .int .i64 0)]⟩ ⟨[], []⟩ ?_ ?_
 ·exact kE ⟨[], 0, [], 0⟩
 refine b_seq ?_
 refine b_seq ?_
 refine reg ⟨83, [(0, .int .i64 a0), (1, .sl 1 (List.map cS a1) .none), (6, .int .i64 0), (21, .sl 1 (List.map cS a1) .none), (22, .int .i64 (List.length a1 : Int)), (23, .int .i64 0)]⟩ ⟨[], []⟩ ?_ ?_
 ·refine kP 1 (x_len (c := cS) (l := a1) (e := 9) (sz := 1) (sz' := 1) (b := 16) (tok := .none)) ?_
  exact kE ⟨[], 0, [], 0⟩
 obtain ⟨o13, hE, hr14, h⟩ := ctlE h
 refine b_blockE (Y := Int) (fun y12 => ⟨83, [(0, .int .i64 a0), (1, .sl 1 (List.map cS a1) .none), (6, .int .i64 y12)]⟩) (fun y12 => ⟨[], []⟩) (fun z => o13 = .nxt z) ?_ cl_cons (fun y12 hy => ?_)
 ·replace h := hE
  refine b_loop (X := (Int × Int)) (fun x => ⟨83, [(0, .int .i64 a0), (1, .sl 1 (List.map cS a1) .none), (6, .int .i64 x.1), (21, .sl 1 (List.map cS a1) .none), (22, .int .i64 (List.length a1 : Int)), (23, .int .i64 x.2)]⟩) (fun x => ⟨[], []⟩) (fun k x => go_tlv_Wrap_l1 n a1 k x.1 x.2 = some o13) (fun _ hx => by simp [go_tlv_Wrap_l1] at hx) n (0, 0) h (wk ⟨[], 0, [], 0⟩) (fun k x h => ?_)
  obtain ⟨v17, v18⟩ := x
  rw [go_tlv_Wrap_l1] at h
  refine b_seq ?_
  refine reg ⟨83, [(0, .int .i64 a0), (1, .sl 1 (List.map cS a1) .none), (6, .int .i64 v17), (21, .sl 1 (List.map cS a1) .none), (22, .int .i64 (List.length a1 : Int)), (23, .int .i64 v18), (24, .bool (decide (v18 < (List.length a1 : Int))))]⟩ ⟨[], []⟩ ?_ ?_
  ·exact kE ⟨[], 0, [], 0⟩
  refine b_seq ?_
  refine bif_ (decide (v18 < (List.length a1 : Int))) (fun hb => ?_) (fun hb => ?_)
  ·replace h := ite_t hb h
   refine b_skip ?_
   refine b_seq ?_
   refine b_block ?_
   refine b_seq ?_
   obtain ⟨x22, hx22, h⟩ := bindE h
   refine reg ⟨83, [(0, .int .i64 a0), (1, .sl 1 (List.map cS a1) .none), (6, .int .i64 v17), (8, .str x22), (21, .sl 1 (List.map cS a1) .none), (22, .int .i64 (List.length a1 : Int)), (23, .int .i64 v18)]⟩ ⟨[], []⟩ ?_ ?_
   ·refine kP 0 (x_lidx (c := cS) (e := 9) (sz := 1) (b := 16) (tok := .none) hx22) ?_
    exact kE ⟨[], 0, [], 0⟩
   refine b_seq ?_
   refine b_seq ?_
   refine reg ⟨83, [(0, .int .i64 a0), (1, .sl 1 (List.map cS a1) .none), (6, .int .i64 v17), (8, .str x22), (21, .sl 1 (List.map cS a1) .none), (22, .int .i64 (List.length a1 : Int)), (23, .int .i64 v18), (31, .bool (decide ((List.length x22 : Int) > (IntKind.wrap .i64 ((131072 : Int) - v17)))))]⟩ ⟨[], []⟩ ?_ ?_
   ·exact kE ⟨[], 0, [], 0⟩
   refine bif_ (decide ((List.length x22 : Int) > (IntKind.wrap .i64 ((131072 : Int) - v17)))) (fun hb => ?_) (fun hb => ?_)
   ·replace h := ite_t hb h
    refine b_seq ?_
    refine reg ⟨83, [(4, .str ([] : List UInt8)), (5, .int .i64 6)]⟩ ⟨[], []⟩ ?_ ?_
    ·exact kE ⟨[], 0, [], 0⟩
    refine b_ret ?_
    refine bk_ret ?_
    refine tk_ret ?_
    replace h := hr14 _ (Option.some.inj h).symm
    refine bl_ret ?_
    obtain rfl := Option.some.inj h
    exact rtn ⟨[], 0, [], 0⟩ (.inr rfl)
   replace h := ite_f hb h
   refine b_skip ?_
   refine regN ⟨83, [(0, .int .i64 a0), (1, .sl 1 (List.map cS a1) .none), (6, .int .i64 (IntKind.wrap .i64 (v17 + (List.length x22 : Int)))), (21, .sl 1 (List.map cS a1) .none), (22, .int .i64 (List.length a1 : Int)), (23, .int .i64 v18)]⟩ ⟨[], []⟩ cl_cons ?_ ?_
   ·exact kE ⟨[], 0, [], 0⟩
   refine bk_norm ?_
   refine regN ⟨83, [(0, .int .i64 a0), (1, .sl 1 (List.map cS a1) .none), (6, .int .i64 (IntKind.wrap .i64 (v17 + (List.length x22 : Int)))), (21, .sl 1 (List.map cS a1) .none), (22, .int .i64 (List.length a1 : Int)), (23, .int .i64 (IntKind.wrap .i64 (v18 + 1)))]⟩ ⟨[], []⟩ cl_loopT ?_ ?_
   ·exact kE ⟨[], 0, [], 0⟩
   exact ⟨(IntKind.wrap .i64 (v17 + (List.length x22 : Int)), IntKind.wrap .i64 (v18 + 1)), h, wk ⟨[], 0, [], 0⟩⟩
  replace h := ite_f hb h
  refine b_exit ?_
  refine tk_exit ?_
  refine bl_exit ?_
  exact ⟨v17, (Option.some.inj h).symm, wk ⟨[], 0, [], 0⟩⟩
 replace h := h _ hy
 refine b_seq ?_
 refine reg ⟨83, [(1, .sl 1 (List.map cS a1) .none), (6, .int .i64 y12), (9, .sl 1 (List.map (cI .u8) ([IntKind.wrap .u8 a0] : List Int)) .exact)]⟩ ⟨[], []⟩ ?_ ?_
 ·exact kE ⟨[], 0, [], 0⟩
 refine b_seq ?_
 obtain ⟨y32, hE, h⟩ := bindE h
 refine b_blockE (Y := (List Int)) (fun y32 => ⟨83, [(1, .sl 1 (List.map cS a1) .none), (9, .sl 1 (List.map (cI .u8) y32) (.fam 0 (List.length y32)))]⟩) (fun y32 => ⟨[], [List.length y32]⟩) (fun z => y32 = z) ?_ cl_cons (fun z hz => ?_)
 ·replace h := hE
  refine b_seq ?_
  refine reg ⟨83, [(1, .sl 1 (List.map cS a1) .none), (6, .int .i64 y12), (9, .sl 1 (List.map (cI .u8) ([IntKind.wrap .u8 a0] : List Int)) .exact), (51, .bool (decide (y12 < 128)))]⟩ ⟨[], []⟩ ?_ ?_
  ·exact kE ⟨[], 0, [], 0⟩
  refine bif_ (decide (y12 < 128)) (fun hb => ?_) (fun hb => ?_)
  ·replace h := ite_t hb h
   obtain ⟨x34, hx34, h⟩ := bindE h
   refine regN ⟨83, [(1, .sl 1 (List.map cS a1) .none), (9, .sl 1 (List.map (cI .u8) x34) (.fam 0 (List.length x34)))]⟩ ⟨[], [List.length x34]⟩ cl_blockL ?_ ?_
   ·refine kV 4 0 0 0 (x_appX (T := tyT) (c := (cI .u8)) (e := 5) (e2 := 5) (sz := 1) (bytes := 1) (b2 := 1) (tok2 := .exact) (cell := none) (by kernel_rfl) hx34) ?_
    exact kE ⟨[], 0, [0], 1⟩
   exact ⟨x34, (Option.some.inj h).symm, wk ⟨[], 0, [0], 1⟩⟩
  replace h := ite_f hb h
  refine b_seq ?_
  refine reg ⟨83, [(1, .sl 1 (List.map cS a1) .none), (6, .int .i64 y12), (9, .sl 1 (List.map (cI .u8) ([IntKind.wrap .u8 a0] : List Int)) .exact), (59, .bool (decide (y12 < 256)))]⟩ ⟨[], []⟩ ?_ ?_
  ·exact kE ⟨[], 0, [], 0⟩
  refine bif_ (decide (y12 < 256)) (fun hb => ?_) (fun hb => ?_)
  ·replace h := ite_t hb h
   obtain ⟨x35, hx35, h⟩ := bindE h
   refine regN ⟨83, [(1, .sl 1 (List.map cS a1) .none), (9, .sl 1 (List.map (cI .u8) x35) (.fam 0 (List.length x35)))]⟩ ⟨[], [List.length x35]⟩ cl_blockL ?_ ?_
   ·refine kV 4 0 0 0 (x_appX (T := tyT) (c := (cI .u8)) (e := 5) (e2 := 5) (sz := 1) (bytes := 1) (b2 := 1) (tok2 := .exact) (cell := none) (by kernel_rfl) hx35) ?_
    exact kE ⟨[], 0, [0], 1⟩
   exact ⟨x35, (Option.some.inj h).symm, wk ⟨[], 0, [0], 1⟩⟩
  replace h := ite_f hb h
  refine b_seq ?_
  refine reg ⟨83, [(1, .sl 1 (List.map cS a1) .none), (6, .int .i64 y12), (9, .sl 1 (List.map (cI .u8) ([IntKind.wrap .u8 a0] : List Int)) .exact), (67, .bool (decide (y12 < 65536)))]⟩ ⟨[], []⟩ ?_ ?_
  ·exact kE ⟨[], 0, [], 0⟩
  refine bif_ (decide (y12 < 65536)) (fun hb => ?_) (fun hb => ?_)
  ·replace h := ite_t hb h
   obtain ⟨x36, hx36, h⟩ := bindE h
   refine regN ⟨83, [(1, .sl 1 (List.map cS a1) .none), (9, .sl 1 (List.map (cI .u8) x36) (.fam 0 (List.length x36)))]⟩ ⟨[], [List.length x36]⟩ cl_blockL ?_ ?_
   ·refine kV 7 0 0 0 (x_appX (T := tyT) (c := (cI .u8)) (e := 5) (e2 := 5) (sz := 1) (bytes := 1) (b2 := 1) (tok2 := .exact) (cell := none) (by kernel_rfl) hx36) ?_
    exact kE ⟨[], 0, [0], 1⟩
   exact ⟨x36, (Option.some.inj h).symm, wk ⟨[], 0, [0], 1⟩⟩
  replace h := ite_f hb h
  obtain ⟨x37, hx37, h⟩ := bindE h
  refine regN ⟨83, [(1, .sl 1 (List.map cS a1) .none), (9, .sl 1 (List.map (cI .u8) x37) (.fam 0 (List.length x37)))]⟩ ⟨[], [List.length x37]⟩ cl_blockL ?_ ?_
  ·refine kV 10 0 0 0 (x_appX (T := tyT) (c := (cI .u8)) (e := 5) (e2 := 5) (sz := 1) (bytes := 1) (b2 := 1) (tok2 := .exact) (cell := none) (by kernel_rfl) hx37) ?_
   exact kE ⟨[], 0, [0], 1⟩
  exact ⟨x37, (Option.some.inj h).symm, wk ⟨[], 0, [0], 1⟩⟩
 subst hz
 refine b_seq ?_
 obtain ⟨r38, hr38, h⟩ := bindE h
 obtain ⟨x39, hx39, h⟩ := bindE h
 refine drw [0, 1, 2, 3, 4, 5, 6] [3] [[], [0], [], [2], [0, 1, 2, 3], [0, 1, 2, 3, 4], [0, 1, 2, 3, 4, 5]] ⟨83, [(4, .str x39), (5, .int .i64 0)]⟩ ⟨[], []⟩ ?_ ?_
 ·refine dS [0] ?_
  refine dP (x_b2s y32) ?_
  refine dS [2] ?_
  refine dC (fxCons 1 (x_b2s y32) fxNil) ⟨[], 0, [], 1⟩ (ct_Join_ok hr38) ?_
  refine dP (x_sadd (d := (tyT 9).d) hx39) ?_
  refine dS [5, 6] ?_
  exact dE ⟨[], 0, [], 1⟩
 refine b_ret ?_
 obtain rfl := Option.some.inj h
 exact rtn ⟨[], 0, [], 0⟩ (.inr rfl)
end Go.Abs
end
