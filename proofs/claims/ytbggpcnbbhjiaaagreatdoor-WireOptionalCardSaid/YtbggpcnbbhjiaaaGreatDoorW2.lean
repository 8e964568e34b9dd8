/- For each Go function: if its typed Lean form gives some result, the call returns that result (printed by a program of this hand). Condition: the typed form gives some result. -/
import Derived.Test.YtbggpcnbbhjiaaaGreatDoorW1
set_option linter.unusedVariables false
set_option linter.unusedSimpArgs false
set_option linter.unnecessarySimpa false
section
set_option maxRecDepth 100000
set_option maxHeartbeats 0
namespace Go.Abs
open Go Go.Proofs
variable {mx : Int}
def go_date_Encode_l1 (n : Nat) (r1 : (T_api_Date × Int)) : Nat → Nat → Int → (List Int) → Option (Nat × (List Int))
 | 0, _, _, _ => none
 | k + 1, v33, v34, v35 =>
  if (decide (v34 < (List.length ([r1.1.f_Month, r1.1.f_Day, r1.1.f_Hour, r1.1.f_Minute, r1.1.f_Second] : List Int) : Int))) = true then ((lidx ([r1.1.f_Month, r1.1.f_Day, r1.1.f_Hour, r1.1.f_Minute, r1.1.f_Second] : List Int) v34).bind fun x42 =>
  (go_date_put_2 n v33 x42 2 v35).bind fun r43 =>
  go_date_Encode_l1 n r1 k r43.1 (IntKind.wrap .i64 (v34 + 1)) r43.2) else (some (v33, v35))
def go_date_Encode (n : Nat) (a0 : Int) : Option ((List UInt8) × Int) :=
 (go_date_Civil n a0).bind fun r1 =>
 if (r1.2 != 0) = true then (some (([] : List UInt8), r1.2)) else ((go_date_put n (Int.tmod r1.1.f_Year 100) 2).bind fun r2 =>
 (if (decide (r1.1.f_Year ≥ 2050)) = true then ((go_date_put n r1.1.f_Year 4).bind fun r9 =>
 some (24, r9.1, r9.2)) else (some (23, r2.1, r2.2))).bind fun y7 =>
 (go_date_Encode_l1 n r1 n y7.2.1 0 y7.2.2).bind fun y27 =>
 (ob2s y27.1 y27.2).bind fun x44 =>
 (go_tlv_Wrap n y7.1 ([x44, ([90] : List UInt8)] : List (List UInt8))).bind fun r45 =>
 some (r45.1, r45.2))
theorem go_date_Encode_ok {n : Nat} {a0 : Int} {r : ((List UInt8) × Int)} (h : go_date_Encode n a0 = some r) : ACalls Tryz.prog (gl0 mx) 44 [.int .i64 a0] ⟨[], []⟩ (Out (.tuple [.str r.1, .int .i64 r.2]) ⟨[], []⟩) := by
 delta go_date_Encode at h
 refine fnc Tryz.func44 rfl ?_
 refine b_seq ?_
 refine reg ⟨55, [(0, .int .i64 a0)]⟩ ⟨[], []⟩ ?_ ?_
 ·exact kE ⟨[], 0, [], 0⟩
 refine b_seq ?_
 obtain ⟨r1, hr1, h⟩ := bindE h
 refine reg ⟨55, [(4, .ptr 0 0), (5, .int .i64 r1.2)]⟩ ⟨[[.int .i64 r1.1.f_Year, .int .i64 r1.1.f_Month, .int .i64 r1.1.f_Day, .int .i64 r1.1.f_Hour, .int .i64 r1.1.f_Minute, .int .i64 r1.1.f_Second]], []⟩ ?_ ?_
 ·refine kC 1 ⟨[], 0, [], 0⟩ (go_date_Civil_ok hr1) ?_
  exact kE ⟨[0], 1, [], 0⟩
 refine b_seq ?_
 refine b_seq ?_
 refine reg ⟨55, [(4, .ptr 0 0), (5, .int .i64 r1.2), (16, .bool (r1.2 != 0))]⟩ ⟨[[.int .i64 r1.1.f_Year, .int .i64 r1.1.f_Month, .int .i64 r1.1.f_Day, .int .i64 r1.1.f_Hour, .int .i64 r1.1.f_Minute, .int .i64 r1.1.f_Second]], []⟩ ?_ ?_
 ·exact kE ⟨[0], 1, [], 0⟩
 refine bif_ (r1.2 != 0) (fun hb => ?_) (fun hb => ?_)
 ·replace h := ite_t hb h
  refine b_seq ?_
  refine reg ⟨55, [(2, .str ([] : List UInt8)), (3, .int .i64 r1.2)]⟩ ⟨[], []⟩ ?_ ?_
  ·exact kE ⟨[], 1, [], 0⟩
  refine b_ret ?_
  obtain rfl := Option.some.inj h
  exact rtn ⟨[], 0, [], 0⟩ (.inr rfl)
 replace h := ite_f hb h
 refine b_skip ?_
 refine b_seq ?_
 refine reg ⟨55, [(4, .ptr 0 0), (6, .int .i64 23)]⟩ ⟨[[.int .i64 r1.1.f_Year, .int .i64 r1.1.f_Month, .int .i64 r1.1.f_Day, .int .i64 r1.1.f_Hour, .int .i64 r1.1.f_Minute, .int .i64 r1.1.f_Second]], []⟩ ?_ ?_
 ·exact kE ⟨[0], 1, [], 0⟩
 refine b_seq ?_
 obtain ⟨r2, hr2, h⟩ := bindE h
 refine reg ⟨55, [(4, .ptr 0 0), (6, .int .i64 23), (7, .own 1 r2.1 1)]⟩ ⟨[[.int .i64 r1.1.f_Year, .int .i64 r1.1.f_Month, .int .i64 r1.1.f_Day, .int .i64 r1.1.f_Hour, .int .i64 r1.1.f_Minute, .int .i64 r1.1.f_Second], [.buf (List.map (vI .u8) r2.2)]], []⟩ ?_ ?_
 ·refine kC 3 ⟨[], 1, [], 0⟩ (go_date_put_ok hr2) ?_
  exact kE ⟨[0, 1], 2, [], 0⟩
 refine b_seq ?_
 refine b_seq ?_
 refine reg ⟨55, [(4, .ptr 0 0), (6, .int .i64 23), (7, .own 1 r2.1 1), (24, .bool (decide (r1.1.f_Year ≥ 2050)))]⟩ ⟨[[.int .i64 r1.1.f_Year, .int .i64 r1.1.f_Month, .int .i64 r1.1.f_Day, .int .i64 r1.1.f_Hour, .int .i64 r1.1.f_Minute, .int .i64 r1.1.f_Second], [.buf (List.map (vI .u8) r2.2)]], []⟩ ?_ ?_
 ·exact kE ⟨[0, 1], 2, [], 0⟩
 obtain ⟨y7, hE, h⟩ := bindE h
 refine b_cutE (Y := (Int × Nat × (List Int))) (fun y7 => ⟨55, [(4, .ptr 0 0), (6, .int .i64 y7.1), (7, .own 1 y7.2.1 1)]⟩) (fun y7 => ⟨[[.int .i64 r1.1.f_Year, .int .i64 r1.1.f_Month, .int .i64 r1.1.f_Day, .int .i64 r1.1.f_Hour, .int .i64 r1.1.f_Minute, .int .i64 r1.1.f_Second], [.buf (List.map (vI .u8) y7.2.2)]], []⟩) (fun z => y7 = z) ?_ cl_cons (fun z hz => ?_)
 ·replace h := hE
  refine bif_ (decide (r1.1.f_Year ≥ 2050)) (fun hb => ?_) (fun hb => ?_)
  ·replace h := ite_t hb h
   refine b_seq ?_
   refine reg ⟨55, [(4, .ptr 0 0), (6, .int .i64 24)]⟩ ⟨[[.int .i64 r1.1.f_Year, .int .i64 r1.1.f_Month, .int .i64 r1.1.f_Day, .int .i64 r1.1.f_Hour, .int .i64 r1.1.f_Minute, .int .i64 r1.1.f_Second]], []⟩ ?_ ?_
   ·exact kE ⟨[0], 2, [], 0⟩
   obtain ⟨r9, hr9, h⟩ := bindE h
   refine regN ⟨55, [(4, .ptr 0 0), (6, .int .i64 24), (7, .own 1 r9.1 1)]⟩ ⟨[[.int .i64 r1.1.f_Year, .int .i64 r1.1.f_Month, .int .i64 r1.1.f_Day, .int .i64 r1.1.f_Hour, .int .i64 r1.1.f_Minute, .int .i64 r1.1.f_Second], [.buf (List.map (vI .u8) r9.2)]], []⟩ cl_loopT ?_ ?_
   ·refine kC 2 ⟨[], 1, [], 0⟩ (go_date_put_ok hr9) ?_
    exact kE ⟨[0, 1], 2, [], 0⟩
   exact ⟨(24, r9.1, r9.2), (Option.some.inj h).symm, wk ⟨[0, 1], 2, [], 0⟩⟩
  replace h := ite_f hb h
  refine b_skip ?_
  exact ⟨(23, r2.1, r2.2), (Option.some.inj h).symm, wk ⟨[0, 1], 2, [], 0⟩⟩
 subst hz
 refine b_seq ?_
 refine b_seq ?_
 refine reg ⟨55, [(6, .int .i64 y7.1), (7, .own 0 y7.2.1 1), (38, .sl 1 (List.map (cI .i64) ([r1.1.f_Month, r1.1.f_Day, r1.1.f_Hour, r1.1.f_Minute, r1.1.f_Second] : List Int)) .exact), (39, .int .i64 (List.length ([r1.1.f_Month, r1.1.f_Day, r1.1.f_Hour, r1.1.f_Minute, r1.1.f_Second] : List Int) : Int)), (40, .int .i64 0)]⟩ ⟨[[.buf (List.map (vI .u8) y7.2.2)]], []⟩ ?_ ?_
 ·refine kP 11 (x_len (c := (cI .i64)) (l := ([r1.1.f_Month, r1.1.f_Day, r1.1.f_Hour, r1.1.f_Minute, r1.1.f_Second] : List Int)) (e := 3) (sz := 1) (sz' := 1) (b := 8) (tok := .exact)) ?_
  exact kE ⟨[1], 2, [], 0⟩
 obtain ⟨y27, hE, h⟩ := bindE h
 refine b_blockE (Y := (Nat × (List Int))) (fun y27 => ⟨55, [(6, .int .i64 y7.1), (7, .own 0 y27.1 1)]⟩) (fun y27 => ⟨[[.buf (List.map (vI .u8) y27.2)]], []⟩) (fun z => y27 = z) ?_ cl_cons (fun z hz => ?_)
 ·replace h := hE
  refine b_loop (X := (Nat × Int × (List Int))) (fun x => ⟨55, [(6, .int .i64 y7.1), (7, .own 0 x.1 1), (38, .sl 1 (List.map (cI .i64) ([r1.1.f_Month, r1.1.f_Day, r1.1.f_Hour, r1.1.f_Minute, r1.1.f_Second] : List Int)) .exact), (39, .int .i64 (List.length ([r1.1.f_Month, r1.1.f_Day, r1.1.f_Hour, r1.1.f_Minute, r1.1.f_Second] : List Int) : Int)), (40, .int .i64 x.2.1)]⟩) (fun x => ⟨[[.buf (List.map (vI .u8) x.2.2)]], []⟩) (fun k x => go_date_Encode_l1 n r1 k x.1 x.2.1 x.2.2 = some y27) (fun _ hx => by simp [go_date_Encode_l1] at hx) n (y7.2.1, 0, y7.2.2) h (wk ⟨[0], 1, [], 0⟩) (fun k x h => ?_)
  obtain ⟨v33, v34, v35⟩ := x
  rw [go_date_Encode_l1] at h
  refine b_seq ?_
  refine reg ⟨55, [(6, .int .i64 y7.1), (7, .own 0 v33 1), (38, .sl 1 (List.map (cI .i64) ([r1.1.f_Month, r1.1.f_Day, r1.1.f_Hour, r1.1.f_Minute, r1.1.f_Second] : List Int)) .exact), (39, .int .i64 (List.length ([r1.1.f_Month, r1.1.f_Day, r1.1.f_Hour, r1.1.f_Minute, r1.1.f_Second] : List Int) : Int)), (40, .int .i64 v34), (41, .bool (decide (v34 < (List.length ([r1.1.f_Month, r1.1.f_Day, r1.1.f_Hour, r1.1.f_Minute, r1.1.f_Second] : List Int) : Int))))]⟩ ⟨[[.buf (List.map (vI .u8) v35)]], []⟩ ?_ ?_
  ·exact kE ⟨[0], 1, [], 0⟩
  refine b_seq ?_
  refine bif_ (decide (v34 < (List.length ([r1.1.f_Month, r1.1.f_Day, r1.1.f_Hour, r1.1.f_Minute, r1.1.f_Second] : List Int) : Int))) (fun hb => ?_) (fun hb => ?_)
  ·replace h := ite_t hb h
   refine b_skip ?_
   refine b_seq ?_
   refine b_block ?_
   refine b_seq ?_
   obtain ⟨x42, hx42, h⟩ := bindE h
   refine reg ⟨55, [(6, .int .i64 y7.1), (7, .own 0 v33 1), (9, .int .i64 x42), (38, .sl 1 (List.map (cI .i64) ([r1.1.f_Month, r1.1.f_Day, r1.1.f_Hour, r1.1.f_Minute, r1.1.f_Second] : List Int)) .exact), (39, .int .i64 (List.length ([r1.1.f_Month, r1.1.f_Day, r1.1.f_Hour, r1.1.f_Minute, r1.1.f_Second] : List Int) : Int)), (40, .int .i64 v34)]⟩ ⟨[[.buf (List.map (vI .u8) v35)]], []⟩ ?_ ?_
   ·refine kP 0 (x_lidx (c := (cI .i64)) (e := 3) (sz := 1) (b := 8) (tok := .exact) hx42) ?_
    exact kE ⟨[0], 1, [], 0⟩
   obtain ⟨r43, hr43, h⟩ := bindE h
   refine regN ⟨55, [(6, .int .i64 y7.1), (7, .own 0 r43.1 1), (38, .sl 1 (List.map (cI .i64) ([r1.1.f_Month, r1.1.f_Day, r1.1.f_Hour, r1.1.f_Minute, r1.1.f_Second] : List Int)) .exact), (39, .int .i64 (List.length ([r1.1.f_Month, r1.1.f_Day, r1.1.f_Hour, r1.1.f_Minute, r1.1.f_Second] : List Int) : Int)), (40, .int .i64 v34)]⟩ ⟨[[.buf (List.map (vI .u8) r43.2)]], []⟩ cl_cons ?_ ?_
   ·refine kC 2 ⟨[0], 1, [], 0⟩ (go_date_put_2_ok hr43) ?_
    exact kE ⟨[1], 2, [], 0⟩
   refine bk_norm ?_
   refine regN ⟨55, [(6, .int .i64 y7.1), (7, .own 0 r43.1 1), (38, .sl 1 (List.map (cI .i64) ([r1.1.f_Month, r1.1.f_Day, r1.1.f_Hour, r1.1.f_Minute, r1.1.f_Second] : List Int)) .exact), (39, .int .i64 (List.length ([r1.1.f_Month, r1.1.f_Day, r1.1.f_Hour, r1.1.f_Minute, r1.1.f_Second] : List Int) : Int)), (40, .int .i64 (IntKind.wrap .i64 (v34 + 1)))]⟩ ⟨[[.buf (List.map (vI .u8) r43.2)]], []⟩ cl_loopT ?_ ?_
   ·exact kE ⟨[0], 1, [], 0⟩
   exact ⟨(r43.1, IntKind.wrap .i64 (v34 + 1), r43.2), h, wk ⟨[0], 1, [], 0⟩⟩
  replace h := ite_f hb h
  refine b_exit ?_
  refine tk_exit ?_
  refine bl_exit ?_
  exact ⟨(v33, v35), (Option.some.inj h).symm, wk ⟨[0], 1, [], 0⟩⟩
 subst hz
 refine b_seq ?_
 obtain ⟨x44, hx44, h⟩ := bindE h
 obtain ⟨r45, hr45, h⟩ := bindE h
 refine reg ⟨55, [(2, .str r45.1), (3, .int .i64 r45.2)]⟩ ⟨[], []⟩ ?_ ?_
 ·refine kP 2 (x_ob2s hx44) ?_
  refine kC 4 ⟨[], 1, [], 0⟩ (go_tlv_Wrap_ok hr45) ?_
  exact kE ⟨[], 1, [], 0⟩
 refine b_ret ?_
 obtain rfl := Option.some.inj h
 exact rtn ⟨[], 0, [], 0⟩ (.inr rfl)
def go_wire_buffer_add (n : Nat) (a1 : (List UInt8)) (a2 : Int) (m0 : T_wire_buffer) : Option T_wire_buffer :=
 if (m0.f_e == 0) = true then ((sadd m0.f_b a1).bind fun x1 =>
 some (T_wire_buffer.mk x1 a2)) else (some m0)
theorem go_wire_buffer_add_ok {n : Nat} {a1 : (List UInt8)} {a2 : Int} {m0 : T_wire_buffer} {r : T_wire_buffer} (h : go_wire_buffer_add n a1 a2 m0 = some r) : ACalls Tryz.prog (gl0 mx) 43 [.ptr 0 0, .str a1, .int .i64 a2] ⟨[[.str m0.f_b, .int .i64 m0.f_e]], []⟩ (Out (.tuple []) ⟨[[.str r.f_b, .int .i64 r.f_e]], []⟩) := by
 delta go_wire_buffer_add at h
 refine fnc Tryz.func43 rfl ?_
 refine b_seq ?_
 refine reg ⟨24, [(0, .ptr 0 0), (1, .str a1), (2, .int .i64 a2), (10, .bool (m0.f_e == 0))]⟩ ⟨[[.str m0.f_b, .int .i64 m0.f_e]], []⟩ ?_ ?_
 ·exact kE ⟨[0], 1, [], 0⟩
 refine bif_ (m0.f_e == 0) (fun hb => ?_) (fun hb => ?_)
 ·replace h := ite_t hb h
  obtain ⟨x1, hx1, h⟩ := bindE h
  refine regN ⟨24, []⟩ ⟨[[.str x1, .int .i64 a2]], []⟩ cl_body ?_ ?_
  ·refine kP 7 (x_sadd (d := (tyT 9).d) hx1) ?_
   exact kE ⟨[0], 1, [], 0⟩
  obtain rfl := Option.some.inj h
  exact rtn ⟨[0], 1, [], 0⟩ (.inl rfl)
 replace h := ite_f hb h
 refine b_skip ?_
 obtain rfl := Option.some.inj h
 exact rtn ⟨[0], 1, [], 0⟩ (.inl rfl)
def go_oid_put_l1 (n : Nat) (a1 : Int) : Nat → Int → Option Int
 | 0, _ => none
 | k + 1, v7 =>
  (ishr .i64 a1 (IntKind.wrap .u64 ((7 : Int) * (IntKind.wrap .u64 v7)))).bind fun x9 =>
  if (decide (x9 > 0)) = true then (go_oid_put_l1 n a1 k (IntKind.wrap .i64 (v7 + 1))) else (some v7)
def go_oid_put_l2 (n : Nat) (a1 : Int) : Nat → Nat → Int → (List Int) → Option (Nat × (List Int))
 | 0, _, _, _ => none
 | k + 1, v33, v34, v35 =>
  if (decide (v34 > 0)) = true then ((ishr .i64 a1 (IntKind.wrap .u64 ((7 : Int) * (IntKind.wrap .u64 v34)))).bind fun x42 =>
  (oapp 1 v33 v35 ([IntKind.wrap .u8 (ior .i64 (iand .i64 x42 127) 128)] : List Int)).bind fun x43 =>
  go_oid_put_l2 n a1 k (v33 + List.length ([IntKind.wrap .u8 (ior .i64 (iand .i64 x42 127) 128)] : List Int)) (IntKind.wrap .i64 (v34 - 1)) x43) else (some (v33, v35))
def go_oid_put (n : Nat) (a1 : Int) : Option (Nat × (List Int)) :=
 (go_oid_put_l1 n a1 n 1).bind fun y5 =>
 (go_oid_put_l2 n a1 n 0 (IntKind.wrap .i64 (y5 - 1)) ([] : List Int)).bind fun y27 =>
 (oapp 1 y27.1 y27.2 ([IntKind.wrap .u8 (iand .i64 a1 127)] : List Int)).bind fun x44 =>
 some (y27.1 + List.length ([IntKind.wrap .u8 (iand .i64 a1 127)] : List Int), x44)
theorem go_oid_put_ok {n : Nat} {a1 : Int} {r : (Nat × (List Int))} (h : go_oid_put n a1 = some r) : ACalls Tryz.prog (gl0 mx) 117 [.nilsl, .int .i64 a1] ⟨[], []⟩ (Out (.own 0 r.1 1) ⟨[[.buf (List.map (vI .u8) r.2)]], []⟩) := by
 delta go_oid_put at h
 refine fnc Tryz.func117 rfl ?_
 refine b_wk (Wk.nilO 0 0 1 (by kernel_rfl)) ?_
 refine b_wk (wk (fr' := ⟨38, [(0, .own 0 0 1), (1, .int .i64 a1)]⟩) (st' := ⟨[[.buf (List.map (vI .u8) ([] : List Int))]], []⟩) ⟨[0], 1, [], 0⟩) ?_
 refine b_seq ?_
 refine reg ⟨38, [(0, .own 0 0 1), (1, .int .i64 a1)]⟩ ⟨[[.buf (List.map (vI .u8) ([] : List Int))]], []⟩ ?_ ?_
 ·exact kE ⟨[0], 1, [], 0⟩
 refine b_seq ?_
 refine reg ⟨38, [(0, .own 0 0 1), (1, .int .i64 a1), (5, .int .i64 1)]⟩ ⟨[[.buf (List.map (vI .u8) ([] : List Int))]], []⟩ ?_ ?_
 ·exact kE ⟨[0], 1, [], 0⟩
 refine b_seq ?_
 obtain ⟨y5, hE, h⟩ := bindE h
 refine b_blockE (Y := Int) (fun y5 => ⟨38, [(0, .own 0 0 1), (1, .int .i64 a1), (5, .int .i64 y5)]⟩) (fun y5 => ⟨[[.buf (List.map (vI .u8) ([] : List Int))]], []⟩) (fun z => y5 = z) ?_ cl_cons (fun z hz => ?_)
 ·replace h := hE
  refine b_loop (X := Int) (fun x => ⟨38, [(0, .own 0 0 1), (1, .int .i64 a1), (5, .int .i64 x)]⟩) (fun x => ⟨[[.buf (List.map (vI .u8) ([] : List Int))]], []⟩) (fun k x => go_oid_put_l1 n a1 k x = some y5) (fun _ hx => by simp [go_oid_put_l1] at hx) n 1 h (wk ⟨[0], 1, [], 0⟩) (fun k x h => ?_)
  revert h; revert x; intro v7 h
  rw [go_oid_put_l1] at h
  refine b_seq ?_
  refine b_seq ?_
  obtain ⟨x9, hx9, h⟩ := bindE h
  refine reg ⟨38, [(0, .own 0 0 1), (1, .int .i64 a1), (5, .int .i64 v7), (12, .bool (decide (x9 > 0)))]⟩ ⟨[[.buf (List.map (vI .u8) ([] : List Int))]], []⟩ ?_ ?_
  ·refine kP 4 (x_ishr (k := .i64) (d := (tyT 3).d) (k' := .u64) hx9) ?_
   exact kE ⟨[0], 1, [], 0⟩
  refine bif_ (decide (x9 > 0)) (fun hb => ?_) (fun hb => ?_)
  ·replace h := ite_t hb h
   refine b_skip ?_
   refine b_block ?_
   refine c_reg ⟨38, [(0, .own 0 0 1), (1, .int .i64 a1), (5, .int .i64 (IntKind.wrap .i64 (v7 + 1)))]⟩ ⟨[[.buf (List.map (vI .u8) ([] : List Int))]], []⟩ (cl_nil (cl_nil (P := Tryz.prog) (gl := gl0 mx) cl_loopT)) ?_ ?_
   ·exact kE ⟨[0], 1, [], 0⟩
   refine bk_norm ?_
   exact ⟨IntKind.wrap .i64 (v7 + 1), h, wk ⟨[0], 1, [], 0⟩⟩
  replace h := ite_f hb h
  refine b_exit ?_
  refine tk_exit ?_
  refine bl_exit ?_
  exact ⟨v7, (Option.some.inj h).symm, wk ⟨[0], 1, [], 0⟩⟩
 subst hz
 refine b_seq ?_
 refine b_seq ?_
 refine reg ⟨38, [(0, .own 0 0 1), (1, .int .i64 a1), (6, .int .i64 (IntKind.wrap .i64 (y5 - 1)))]⟩ ⟨[[.buf (List.map (vI .u8) ([] : List Int))]], []⟩ ?_ ?_
 ·exact kE ⟨[0], 1, [], 0⟩
 obtain ⟨y27, hE, h⟩ := bindE h
 refine b_blockE (Y := (Nat × (List Int))) (fun y27 => ⟨38, [(0, .own 0 y27.1 1), (1, .int .i64 a1)]⟩) (fun y27 => ⟨[[.buf (List.map (vI .u8) y27.2)]], []⟩) (fun z => y27 = z) ?_ cl_cons (fun z hz => ?_)
 ·replace h := hE
  refine b_loop (X := (Nat × Int × (List Int))) (fun x => ⟨38, [(0, .own 0 x.1 1), (1, .int .i64 a1), (6, .int .i64 x.2.1)]⟩) (fun x => ⟨[[.buf (List.map (vI .u8) x.2.2)]], []⟩) (fun k x => go_oid_put_l2 n a1 k x.1 x.2.1 x.2.2 = some y27) (fun _ hx => by simp [go_oid_put_l2] at hx) n (0, IntKind.wrap .i64 (y5 - 1), ([] : List Int)) h (wk ⟨[0], 1, [], 0⟩) (fun k x h => ?_)
  obtain ⟨v33, v34, v35⟩ := x
  rw [go_oid_put_l2] at h
  refine b_seq ?_
  refine b_seq ?_
  refine reg ⟨38, [(0, .own 0 v33 1), (1, .int .i64 a1), (6, .int .i64 v34), (18, .bool (decide (v34 > 0)))]⟩ ⟨[[.buf (List.map (vI .u8) v35)]], []⟩ ?_ ?_
  ·exact kE ⟨[0], 1, [], 0⟩
  refine bif_ (decide (v34 > 0)) (fun hb => ?_) (fun hb => ?_)
  ·replace h := ite_t hb h
   refine b_skip ?_
   refine b_seq ?_
   refine b_block ?_
   obtain ⟨x42, hx42, h⟩ := bindE h
   obtain ⟨x43, hx43, h⟩ := bindE h
   refine regN ⟨38, [(0, .own 0 (v33 + List.length ([IntKind.wrap .u8 (ior .i64 (iand .i64 x42 127) 128)] : List Int)) 1), (1, .int .i64 a1), (6, .int .i64 v34)]⟩ ⟨[[.buf (List.map (vI .u8) x43)]], []⟩ cl_cons ?_ ?_
   ·refine kP 5 (x_ishr (k := .i64) (d := (tyT 3).d) (k' := .u64) hx42) ?_
    refine kV 10 1 0 0 (x_oapp (T := tyT) (c := (vI .u8)) (l := v35) (l2 := ([IntKind.wrap .u8 (ior .i64 (iand .i64 x42 127) 128)] : List Int)) (n := v33) (e := 5) (e2 := 5) (bytes := 1) (b2 := 1) (tok2 := .exact) (by kernel_rfl) hx43) ?_
    exact kE ⟨[1], 2, [], 0⟩
   refine bk_norm ?_
   refine regN ⟨38, [(0, .own 0 (v33 + List.length ([IntKind.wrap .u8 (ior .i64 (iand .i64 x42 127) 128)] : List Int)) 1), (1, .int .i64 a1), (6, .int .i64 (IntKind.wrap .i64 (v34 - 1)))]⟩ ⟨[[.buf (List.map (vI .u8) x43)]], []⟩ cl_loopT ?_ ?_
   ·exact kE ⟨[0], 1, [], 0⟩
   exact ⟨(v33 + List.length ([IntKind.wrap .u8 (ior .i64 (iand .i64 x42 127) 128)] : List Int), IntKind.wrap .i64 (v34 - 1), x43), h, wk ⟨[0], 1, [], 0⟩⟩
  replace h := ite_f hb h
  refine b_exit ?_
  refine tk_exit ?_
  refine bl_exit ?_
  exact ⟨(v33, v35), (Option.some.inj h).symm, wk ⟨[0], 1, [], 0⟩⟩
 subst hz
 refine b_seq ?_
 obtain ⟨x44, hx44, h⟩ := bindE h
 refine reg ⟨38, [(4, .own 0 (y27.1 + List.length ([IntKind.wrap .u8 (iand .i64 a1 127)] : List Int)) 1)]⟩ ⟨[[.buf (List.map (vI .u8) x44)]], []⟩ ?_ ?_
 ·refine kV 5 1 0 0 (x_oapp (T := tyT) (c := (vI .u8)) (l := y27.2) (l2 := ([IntKind.wrap .u8 (iand .i64 a1 127)] : List Int)) (n := y27.1) (e := 5) (e2 := 5) (bytes := 1) (b2 := 1) (tok2 := .exact) (by kernel_rfl) hx44) ?_
  exact kE ⟨[1], 2, [], 0⟩
 refine b_ret ?_
 obtain rfl := Option.some.inj h
 exact rtn ⟨[0], 1, [], 0⟩ (.inr rfl)
def go_oid_put_2_l1 (n : Nat) (a1 : Int) : Nat → Int → Option Int
 | 0, _ => none
 | k + 1, v7 =>
  (ishr .i64 a1 (IntKind.wrap .u64 ((7 : Int) * (IntKind.wrap .u64 v7)))).bind fun x9 =>
  if (decide (x9 > 0)) = true then (go_oid_put_2_l1 n a1 k (IntKind.wrap .i64 (v7 + 1))) else (some v7)
def go_oid_put_2_l2 (n : Nat) (a1 : Int) : Nat → Nat → Int → (List Int) → Option (Nat × (List Int))
 | 0, _, _, _ => none
 | k + 1, v33, v34, v35 =>
  if (decide (v34 > 0)) = true then ((ishr .i64 a1 (IntKind.wrap .u64 ((7 : Int) * (IntKind.wrap .u64 v34)))).bind fun x42 =>
  (oapp 1 v33 v35 ([IntKind.wrap .u8 (ior .i64 (iand .i64 x42 127) 128)] : List Int)).bind fun x43 =>
  go_oid_put_2_l2 n a1 k (v33 + List.length ([IntKind.wrap .u8 (ior .i64 (iand .i64 x42 127) 128)] : List Int)) (IntKind.wrap .i64 (v34 - 1)) x43) else (some (v33, v35))
def go_oid_put_2 (n : Nat) (a0 : Nat) (a1 : Int) (m0 : (List Int)) : Option (Nat × (List Int)) :=
 (go_oid_put_2_l1 n a1 n 1).bind fun y5 =>
 (go_oid_put_2_l2 n a1 n a0 (IntKind.wrap .i64 (y5 - 1)) m0).bind fun y27 =>
 (oapp 1 y27.1 y27.2 ([IntKind.wrap .u8 (iand .i64 a1 127)] : List Int)).bind fun x44 =>
 some (y27.1 + List.length ([IntKind.wrap .u8 (iand .i64 a1 127)] : List Int), x44)
theorem go_oid_put_2_ok {n : Nat} {a0 : Nat} {a1 : Int} {m0 : (List Int)} {r : (Nat × (List Int))} (h : go_oid_put_2 n a0 a1 m0 = some r) : ACalls Tryz.prog (gl0 mx) 117 [.own 0 a0 1, .int .i64 a1] ⟨[[.buf (List.map (vI .u8) m0)]], []⟩ (Out (.own 1 r.1 1) ⟨[[], [.buf (List.map (vI .u8) r.2)]], []⟩) := by
 delta go_oid_put_2 at h
 refine fnc Tryz.func117 rfl ?_
 refine b_wk (Wk.mov (cells := [.buf (List.map (vI .u8) m0)]) 0 0 a0 1 1 (by kernel_rfl)) ?_
 refine b_wk (wk (fr' := ⟨38, [(0, .own 1 a0 1), (1, .int .i64 a1)]⟩) (st' := ⟨[[], [.buf (List.map (vI .u8) m0)]], []⟩) ⟨[0, 1], 2, [], 0⟩) ?_
 refine b_seq ?_
 refine reg ⟨38, [(0, .own 1 a0 1), (1, .int .i64 a1)]⟩ ⟨[[], [.buf (List.map (vI .u8) m0)]], []⟩ ?_ ?_
 ·exact kE ⟨[0, 1], 2, [], 0⟩
 refine b_seq ?_
 refine reg ⟨38, [(0, .own 1 a0 1), (1, .int .i64 a1), (5, .int .i64 1)]⟩ ⟨[[], [.buf (List.map (vI .u8) m0)]], []⟩ ?_ ?_
 ·exact kE ⟨[0, 1], 2, [], 0⟩
 refine b_seq ?_
 obtain ⟨y5, hE, h⟩ := bindE h
 refine b_blockE (Y := Int) (fun y5 => ⟨38, [(0, .own 1 a0 1), (1, .int .i64 a1), (5, .int .i64 y5)]⟩) (fun y5 => ⟨[[], [.buf (List.map (vI .u8) m0)]], []⟩) (fun z => y5 = z) ?_ cl_cons (fun z hz => ?_)
 ·replace h := hE
  refine b_loop (X := Int) (fun x => ⟨38, [(0, .own 1 a0 1), (1, .int .i64 a1), (5, .int .i64 x)]⟩) (fun x => ⟨[[], [.buf (List.map (vI .u8) m0)]], []⟩) (fun k x => go_oid_put_2_l1 n a1 k x = some y5) (fun _ hx => by simp [go_oid_put_2_l1] at hx) n 1 h (wk ⟨[0, 1], 2, [], 0⟩) (fun k x h => ?_)
  revert h; revert x; intro v7 h
  rw [go_oid_put_2_l1] at h
  refine b_seq ?_
  refine b_seq ?_
  obtain ⟨x9, hx9, h⟩ := bindE h
  refine reg ⟨38, [(0, .own 1 a0 1), (1, .int .i64 a1), (5, .int .i64 v7), (12, .bool (decide (x9 > 0)))]⟩ ⟨[[], [.buf (List.map (vI .u8) m0)]], []⟩ ?_ ?_
  ·refine kP 4 (x_ishr (k := .i64) (d := (tyT 3).d) (k' := .u64) hx9) ?_
   exact kE ⟨[0, 1], 2, [], 0⟩
  refine bif_ (decide (x9 > 0)) (fun hb => ?_) (fun hb => ?_)
  ·replace h := ite_t hb h
   refine b_skip ?_
   refine b_block ?_
   refine c_reg ⟨38, [(0, .own 1 a0 1), (1, .int .i64 a1), (5, .int .i64 (IntKind.wrap .i64 (v7 + 1)))]⟩ ⟨[[], [.buf (List.map (vI .u8) m0)]], []⟩ (cl_nil (cl_nil (P := Tryz.prog) (gl := gl0 mx) cl_loopT)) ?_ ?_
   ·exact kE ⟨[0, 1], 2, [], 0⟩
   refine bk_norm ?_
   exact ⟨IntKind.wrap .i64 (v7 + 1), h, wk ⟨[0, 1], 2, [], 0⟩⟩
  replace h := ite_f hb h
  refine b_exit ?_
  refine tk_exit ?_
  refine bl_exit ?_
  exact ⟨v7, (Option.some.inj h).symm, wk ⟨[0, 1], 2, [], 0⟩⟩
 subst hz
 refine b_seq ?_
 refine b_seq ?_
 refine reg ⟨38, [(0, .own 1 a0 1), (1, .int .i64 a1), (6, .int .i64 (IntKind.wrap .i64 (y5 - 1)))]⟩ ⟨[[], [.buf (List.map (vI .u8) m0)]], []⟩ ?_ ?_
 ·exact kE ⟨[0, 1], 2, [], 0⟩
 obtain ⟨y27, hE, h⟩ := bindE h
 refine b_blockE (Y := (Nat × (List Int))) (fun y27 => ⟨38, [(0, .own 1 y27.1 1), (1, .int .i64 a1)]⟩) (fun y27 => ⟨[[], [.buf (List.map (vI .u8) y27.2)]], []⟩) (fun z => y27 = z) ?_ cl_cons (fun z hz => ?_)
 ·replace h := hE
  refine b_loop (X := (Nat × Int × (List Int))) (fun x => ⟨38, [(0, .own 1 x.1 1), (1, .int .i64 a1), (6, .int .i64 x.2.1)]⟩) (fun x => ⟨[[], [.buf (List.map (vI .u8) x.2.2)]], []⟩) (fun k x => go_oid_put_2_l2 n a1 k x.1 x.2.1 x.2.2 = some y27) (fun _ hx => by simp [go_oid_put_2_l2] at hx) n (a0, IntKind.wrap .i64 (y5 - 1), m0) h (wk ⟨[0, 1], 2, [], 0⟩) (fun k x h => ?_)
  obtain ⟨v33, v34, v35⟩ := x
  rw [go_oid_put_2_l2] at h
  refine b_seq ?_
  refine b_seq ?_
  refine reg ⟨38, [(0, .own 1 v33 1), (1, .int .i64 a1), (6, .int .i64 v34), (18, .bool (decide (v34 > 0)))]⟩ ⟨[[], [.buf (List.map (vI .u8) v35)]], []⟩ ?_ ?_
  ·exact kE ⟨[0, 1], 2, [], 0⟩
  refine bif_ (decide (v34 > 0)) (fun hb => ?_) (fun hb => ?_)
  ·replace h := ite_t hb h
   refine b_skip ?_
   refine b_seq ?_
   refine b_block ?_
   obtain ⟨x42, hx42, h⟩ := bindE h
   obtain ⟨x43, hx43, h⟩ := bindE h
   refine regN ⟨38, [(0, .own 1 (v33 + List.length ([IntKind.wrap .u8 (ior .i64 (iand .i64 x42 127) 128)] : List Int)) 1), (1, .int .i64 a1), (6, .int .i64 v34)]⟩ ⟨[[], [.buf (List.map (vI .u8) x43)]], []⟩ cl_cons ?_ ?_
   ·refine kP 5 (x_ishr (k := .i64) (d := (tyT 3).d) (k' := .u64) hx42) ?_
    refine kV 10 2 0 1 (x_oapp (T := tyT) (c := (vI .u8)) (l := v35) (l2 := ([IntKind.wrap .u8 (ior .i64 (iand .i64 x42 127) 128)] : List Int)) (n := v33) (e := 5) (e2 := 5) (bytes := 1) (b2 := 1) (tok2 := .exact) (by kernel_rfl) hx43) ?_
    exact kE ⟨[0, 2], 3, [], 0⟩
   refine bk_norm ?_
   refine regN ⟨38, [(0, .own 1 (v33 + List.length ([IntKind.wrap .u8 (ior .i64 (iand .i64 x42 127) 128)] : List Int)) 1), (1, .int .i64 a1), (6, .int .i64 (IntKind.wrap .i64 (v34 - 1)))]⟩ ⟨[[], [.buf (List.map (vI .u8) x43)]], []⟩ cl_loopT ?_ ?_
   ·exact kE ⟨[0, 1], 2, [], 0⟩
   exact ⟨(v33 + List.length ([IntKind.wrap .u8 (ior .i64 (iand .i64 x42 127) 128)] : List Int), IntKind.wrap .i64 (v34 - 1), x43), h, wk ⟨[0, 1], 2, [], 0⟩⟩
  replace h := ite_f hb h
  refine b_exit ?_
  refine tk_exit ?_
  refine bl_exit ?_
  exact ⟨(v33, v35), (Option.some.inj h).symm, wk ⟨[0, 1], 2, [], 0⟩⟩
 subst hz
 refine b_seq ?_
 obtain ⟨x44, hx44, h⟩ := bindE h
 refine reg ⟨38, [(4, .own 1 (y27.1 + List.length ([IntKind.wrap .u8 (iand .i64 a1 127)] : List Int)) 1)]⟩ ⟨[[], [.buf (List.map (vI .u8) x44)]], []⟩ ?_ ?_
 ·refine kV 5 2 0 1 (x_oapp (T := tyT) (c := (vI .u8)) (l := y27.2) (l2 := ([IntKind.wrap .u8 (iand .i64 a1 127)] : List Int)) (n := y27.1) (e := 5) (e2 := 5) (bytes := 1) (b2 := 1) (tok2 := .exact) (by kernel_rfl) hx44) ?_
  exact kE ⟨[0, 2], 3, [], 0⟩
 refine b_ret ?_
 obtain rfl := Option.some.inj h
 exact rtn ⟨[0, 1], 2, [], 0⟩ (.inr rfl)
def go_oid_Encode_l1 (n : Nat) (x6 : (List Int)) : Nat → Nat → Int → (List Int) → Option (Nat × (List Int))
 | 0, _, _, _ => none
 | k + 1, v30, v31, v32 =>
  if (decide (v31 < (List.length x6 : Int))) = true then ((lidx x6 v31).bind fun x39 =>
  (go_oid_put_2 n v30 x39 v32).bind fun r40 =>
  go_oid_Encode_l1 n x6 k r40.1 (IntKind.wrap .i64 (v31 + 1)) r40.2) else (some (v30, v32))
def go_oid_Encode (n : Nat) (a0 : (List UInt8)) : Option ((List UInt8) × Int) :=
 (go_oid_arcs n a0).bind fun r1 =>
 (lne r1).bind fun x2 =>
 (lidx r1 0).bind fun x3 =>
 (lidx r1 1).bind fun x4 =>
 (go_oid_put n (IntKind.wrap .i64 ((IntKind.wrap .i64 ((40 : Int) * x3)) + x4))).bind fun r5 =>
 (lsl r1 2 (List.length r1)).bind fun x6 =>
 (go_oid_Encode_l1 n x6 n r5.1 0 r5.2).bind fun y24 =>
 (ob2s y24.1 y24.2).bind fun x41 =>
 some (x41, 0)
theorem go_oid_Encode_ok {n : Nat} {a0 : (List UInt8)} {r : ((List UInt8) × Int)} (h : go_oid_Encode n a0 = some r) : ACalls Tryz.prog (gl0 mx) 45 [.str a0] ⟨[], []⟩ (Out (.tuple [.str r.1, .int .i64 r.2]) ⟨[], []⟩) := by
 delta go_oid_Encode at h
 refine fnc Tryz.func45 rfl ?_
 refine b_seq ?_
 refine reg ⟨34, [(0, .str a0)]⟩ ⟨[], []⟩ ?_ ?_
 ·exact kE ⟨[], 0, [], 0⟩
 refine b_seq ?_
 obtain ⟨r1, hr1, h⟩ := bindE h
 refine reg ⟨34, [(4, .sl 1 (List.map (cI .i64) r1) .none)]⟩ ⟨[], []⟩ ?_ ?_
 ·refine kC 1 ⟨[], 0, [], 0⟩ (go_oid_arcs_ok hr1) ?_
  exact kE ⟨[], 0, [], 0⟩
 refine b_seq ?_
 refine b_seq ?_
 obtain ⟨x2, hx2, h⟩ := bindE h
 refine reg ⟨34, [(4, .sl 1 (List.map (cI .i64) r1) .none), (11, .bool false)]⟩ ⟨[], []⟩ ?_ ?_
 ·refine kP 1 (x_lne_eql (c := (cI .i64)) (e := 3) (sz := 1) (b := 8) (tok := .none) hx2) ?_
  exact kE ⟨[], 0, [], 0⟩
 refine bif_ false (fun hb => Bool.noConfusion hb) (fun _ => ?_)
 refine b_skip ?_
 refine b_seq ?_
 obtain ⟨x3, hx3, h⟩ := bindE h
 obtain ⟨x4, hx4, h⟩ := bindE h
 obtain ⟨r5, hr5, h⟩ := bindE h
 refine drw [0, 1, 2, 3, 4, 5, 6, 7, 8, 9] [8] [[], [0], [0, 1], [0, 1, 2], [], [4], [4, 5], [0, 1, 2, 3, 4, 5, 6], [0, 1, 2, 3, 4, 5, 6, 7], [0, 1, 2, 3, 4, 5, 6, 7, 8]] ⟨34, [(4, .sl 1 (List.map (cI .i64) r1) .none), (5, .own 0 r5.1 1)]⟩ ⟨[[.buf (List.map (vI .u8) r5.2)]], []⟩ ?_ ?_
 ·refine dS [0] ?_
  refine dP (x_lidx (c := (cI .i64)) (e := 3) (sz := 1) (b := 8) (tok := .none) hx3) ?_
  refine dS [2, 3, 4] ?_
  refine dP (x_lidx (c := (cI .i64)) (e := 3) (sz := 1) (b := 8) (tok := .none) hx4) ?_
  refine dS [6, 7] ?_
  refine dC (fxCons 5 (x_lidx (c := (cI .i64)) (e := 3) (sz := 1) (b := 8) (tok := .none) hx4) (fxCons 1 (x_lidx (c := (cI .i64)) (e := 3) (sz := 1) (b := 8) (tok := .none) hx3) fxNil)) ⟨[], 0, [], 0⟩ (go_oid_put_ok hr5) ?_
  refine dS [9] ?_
  exact dE ⟨[0], 1, [], 0⟩
 refine b_seq ?_
 refine b_seq ?_
 obtain ⟨x6, hx6, h⟩ := bindE h
 refine reg ⟨34, [(5, .own 0 r5.1 1), (22, .sl 1 (List.map (cI .i64) x6) .none), (23, .int .i64 (List.length x6 : Int)), (24, .int .i64 0)]⟩ ⟨[[.buf (List.map (vI .u8) r5.2)]], []⟩ ?_ ?_
 ·refine kP 1 (x_lsl_lo (k := .i64) (c := (cI .i64)) (e := 3) (sz := 1) (b := 8) (tok := .none) hx6) ?_
  refine kP 2 (x_len (c := (cI .i64)) (l := x6) (e := 3) (sz := 1) (sz' := 1) (b := 8) (tok := .none)) ?_
  exact kE ⟨[0], 1, [], 0⟩
 obtain ⟨y24, hE, h⟩ := bindE h
 refine b_blockE (Y := (Nat × (List Int))) (fun y24 => ⟨34, [(5, .own 0 y24.1 1)]⟩) (fun y24 => ⟨[[.buf (List.map (vI .u8) y24.2)]], []⟩) (fun z => y24 = z) ?_ cl_cons (fun z hz => ?_)
 ·replace h := hE
  refine b_loop (X := (Nat × Int × (List Int))) (fun x => ⟨34, [(5, .own 0 x.1 1), (22, .sl 1 (List.map (cI .i64) x6) .none), (23, .int .i64 (List.length x6 : Int)), (24, .int .i64 x.2.1)]⟩) (fun x => ⟨[[.buf (List.map (vI .u8) x.2.2)]], []⟩) (fun k x => go_oid_Encode_l1 n x6 k x.1 x.2.1 x.2.2 = some y24) (fun _ hx => by simp [go_oid_Encode_l1] at hx) n (r5.1, 0, r5.2) h (wk ⟨[0], 1, [], 0⟩) (fun k x h => ?_)
  obtain ⟨v30, v31, v32⟩ := x
  rw [go_oid_Encode_l1] at h
  refine b_seq ?_
  refine reg ⟨34, [(5, .own 0 v30 1), (22, .sl 1 (List.map (cI .i64) x6) .none), (23, .int .i64 (List.length x6 : Int)), (24, .int .i64 v31), (25, .bool (decide (v31 < (List.length x6 : Int))))]⟩ ⟨[[.buf (List.map (vI .u8) v32)]], []⟩ ?_ ?_
  ·exact kE ⟨[0], 1, [], 0⟩
  refine b_seq ?_
  refine bif_ (decide (v31 < (List.length x6 : Int))) (fun hb => ?_) (fun hb => ?_)
  ·replace h := ite_t hb h
   refine b_skip ?_
   refine b_seq ?_
   refine b_block ?_
   refine b_seq ?_
   obtain ⟨x39, hx39, h⟩ := bindE h
   refine reg ⟨34, [(5, .own 0 v30 1), (7, .int .i64 x39), (22, .sl 1 (List.map (cI .i64) x6) .none), (23, .int .i64 (List.length x6 : Int)), (24, .int .i64 v31)]⟩ ⟨[[.buf (List.map (vI .u8) v32)]], []⟩ ?_ ?_
   ·refine kP 0 (x_lidx (c := (cI .i64)) (e := 3) (sz := 1) (b := 8) (tok := .none) hx39) ?_
    exact kE ⟨[0], 1, [], 0⟩
   obtain ⟨r40, hr40, h⟩ := bindE h
   refine regN ⟨34, [(5, .own 0 r40.1 1), (22, .sl 1 (List.map (cI .i64) x6) .none), (23, .int .i64 (List.length x6 : Int)), (24, .int .i64 v31)]⟩ ⟨[[.buf (List.map (vI .u8) r40.2)]], []⟩ cl_cons ?_ ?_
   ·refine kC 2 ⟨[0], 1, [], 0⟩ (go_oid_put_2_ok hr40) ?_
    exact kE ⟨[1], 2, [], 0⟩
   refine bk_norm ?_
   refine regN ⟨34, [(5, .own 0 r40.1 1), (22, .sl 1 (List.map (cI .i64) x6) .none), (23, .int .i64 (List.length x6 : Int)), (24, .int .i64 (IntKind.wrap .i64 (v31 + 1)))]⟩ ⟨[[.buf (List.map (vI .u8) r40.2)]], []⟩ cl_loopT ?_ ?_
   ·exact kE ⟨[0], 1, [], 0⟩
   exact ⟨(r40.1, IntKind.wrap .i64 (v31 + 1), r40.2), h, wk ⟨[0], 1, [], 0⟩⟩
  replace h := ite_f hb h
  refine b_exit ?_
  refine tk_exit ?_
  refine bl_exit ?_
  exact ⟨(v30, v32), (Option.some.inj h).symm, wk ⟨[0], 1, [], 0⟩⟩
 subst hz
 refine b_seq ?_
 obtain ⟨x41, hx41, h⟩ := bindE h
 refine reg ⟨34, [(2, .str x41), (3, .int .i64 0)]⟩ ⟨[], []⟩ ?_ ?_
 ·refine kP 1 (x_ob2s hx41) ?_
  exact kE ⟨[], 1, [], 0⟩
 refine b_ret ?_
 obtain rfl := Option.some.inj h
 exact rtn ⟨[], 0, [], 0⟩ (.inr rfl)
def go_wire_buffer_element (n : Nat) (a1 : Int) (a2 : (List UInt8)) (m0 : T_wire_buffer) : Option T_wire_buffer :=
 (go_tlv_Wrap n a1 ([a2] : List (List UInt8))).bind fun r1 =>
 (go_wire_buffer_add n r1.1 r1.2 m0).bind fun r2 =>
 some r2
theorem go_wire_buffer_element_ok {n : Nat} {a1 : Int} {a2 : (List UInt8)} {m0 : T_wire_buffer} {r : T_wire_buffer} (h : go_wire_buffer_element n a1 a2 m0 = some r) : ACalls Tryz.prog (gl0 mx) 46 [.ptr 0 0, .int .i64 a1, .str a2] ⟨[[.str m0.f_b, .int .i64 m0.f_e]], []⟩ (Out (.tuple []) ⟨[[.str r.f_b, .int .i64 r.f_e]], []⟩) := by
 delta go_wire_buffer_element at h
 refine fnc Tryz.func46 rfl ?_
 obtain ⟨r1, hr1, h⟩ := bindE h
 obtain ⟨r2, hr2, h⟩ := bindE h
 refine regN ⟨14, []⟩ ⟨[[.str r2.f_b, .int .i64 r2.f_e]], []⟩ cl_body ?_ ?_
 ·refine kC 4 ⟨[], 1, [], 0⟩ (go_tlv_Wrap_ok hr1) ?_
  refine kC 7 ⟨[0], 1, [], 0⟩ (go_wire_buffer_add_ok hr2) ?_
  exact kE ⟨[0], 1, [], 0⟩
 obtain rfl := Option.some.inj h
 exact rtn ⟨[0], 1, [], 0⟩ (.inl rfl)
def go_prim_PutFlags_l1 (n : Nat) (a0 : Int) : Nat → Int → Option Int
 | 0, _ => none
 | k + 1, v9 =>
  (ishr .i64 a0 (IntKind.wrap .u64 v9)).bind fun x11 =>
  if (decide (x11 > 0)) = true then (go_prim_PutFlags_l1 n a0 k (IntKind.wrap .i64 (v9 + 1))) else (some v9)
def go_prim_PutFlags_l2 (n : Nat) (y7 : Int) (a0 : Int) (x12 : Nat) : Nat → Int → (List Int) → Option (List Int)
 | 0, _, _ => none
 | k + 1, v98, v99 =>
  if (decide (v98 < y7)) = true then (((ishr .i64 a0 (IntKind.wrap .u64 v98)).bind fun x136 =>
  if ((iand .i64 x136 1) == 1) = true then ((oidx x12 (IntKind.wrap .i64 ((1 : Int) + (IntKind.wrap .i64 (Int.tdiv v98 8))))).bind fun x137 =>
  ((v99)[(x137 * 1)]?).bind fun x138 =>
  (ishl .u8 1 (IntKind.wrap .u64 ((7 : Int) - (IntKind.wrap .u64 (Int.tmod v98 8))))).bind fun x139 =>
  (oidx x12 (IntKind.wrap .i64 ((1 : Int) + (IntKind.wrap .i64 (Int.tdiv v98 8))))).bind fun x140 =>
  (lset v99 (x140 * 1) (ior .u8 x138 x139)).bind fun x141 =>
  some x141) else (some v99)).bind fun y134 =>
  go_prim_PutFlags_l2 n y7 a0 x12 k (IntKind.wrap .i64 (v98 + 1)) y134) else (some v99)
def go_prim_PutFlags (n : Nat) (a0 : Int) : Option ((List UInt8) × Int) :=
 (if (decide (a0 < 0)) = true then (some true) else (some (decide (a0 > 65535)))).bind fun y2 =>
 if y2 = true then (some (([] : List UInt8), 1)) else ((go_prim_PutFlags_l1 n a0 n 0).bind fun y7 =>
 (omake 1 (IntKind.wrap .i64 ((1 : Int) + (IntKind.wrap .i64 (Int.tdiv (IntKind.wrap .i64 (y7 + 7)) 8)))) (IntKind.wrap .i64 ((1 : Int) + (IntKind.wrap .i64 (Int.tdiv (IntKind.wrap .i64 (y7 + 7)) 8))))).bind fun x12 =>
 (oidx x12 0).bind fun x13 =>
 (lset (List.replicate x12 (0 : Int)) (x13 * 1) (IntKind.wrap .u8 (IntKind.wrap .i64 ((IntKind.wrap .i64 ((8 : Int) * (IntKind.wrap .i64 (((x12 : Nat) : Int) - 1)))) - y7)))).bind fun x14 =>
 (go_prim_PutFlags_l2 n y7 a0 x12 n 0 x14).bind fun y78 =>
 (ob2s x12 y78).bind fun x142 =>
 some (x142, 0))
theorem go_prim_PutFlags_ok {n : Nat} {a0 : Int} {r : ((List UInt8) × Int)} (h : go_prim_PutFlags n a0 = some r) : ACalls Tryz.prog (gl0 mx) 47 [.int .i64 a0] ⟨[], []⟩ (Out (.tuple [.str r.1, .int .i64 r.2]) ⟨[], []⟩) := by
 delta go_prim_PutFlags at h
 refine fnc Tryz.func47 rfl ?_
 refine b_seq ?_
 refine reg ⟨60, [(0, .int .i64 a0)]⟩ ⟨[], []⟩ ?_ ?_
 ·exact kE ⟨[], 0, [], 0⟩
 refine b_seq ?_
 refine b_seq ?_
 obtain ⟨y2, hE, h⟩ := bindE h
 refine reg ⟨60, [(0, .int .i64 a0), (12, .bool y2)]⟩ ⟨[], []⟩ ?_ ?_
 ·replace h := hE
  refine kG 3 9 (decide (a0 < 0)) (fun hb => ?_) (fun hb => ?_)
  ·have h := ite_t hb h
   obtain rfl := Option.some.inj h
   exact kE ⟨[], 0, [], 0⟩
  have h := ite_f hb h
  obtain rfl := Option.some.inj h
  exact kE ⟨[], 0, [], 0⟩
 refine bif_ (y2) (fun hb => ?_) (fun hb => ?_)
 ·replace h := ite_t hb h
  refine b_seq ?_
  refine reg ⟨60, [(2, .str ([] : List UInt8)), (3, .int .i64 1)]⟩ ⟨[], []⟩ ?_ ?_
  ·exact kE ⟨[], 0, [], 0⟩
  refine b_ret ?_
  obtain rfl := Option.some.inj h
  exact rtn ⟨[], 0, [], 0⟩ (.inr rfl)
 replace h := ite_f hb h
 refine b_skip ?_
 refine b_seq ?_
 refine reg ⟨60, [(0, .int .i64 a0), (4, .int .i64 0)]⟩ ⟨[], []⟩ ?_ ?_
 ·exact kE ⟨[], 0, [], 0⟩
 refine b_seq ?_
 obtain ⟨y7, hE, h⟩ := bindE h
 refine b_blockE (Y := Int) (fun y7 => ⟨60, [(0, .int .i64 a0), (4, .int .i64 y7)]⟩) (fun y7 => ⟨[], []⟩) (fun z => y7 = z) ?_ cl_cons (fun z hz => ?_)
 ·replace h := hE
  refine b_loop (X := Int) (fun x => ⟨60, [(0, .int .i64 a0), (4, .int .i64 x)]⟩) (fun x => ⟨[], []⟩) (fun k x => go_prim_PutFlags_l1 n a0 k x = some y7) (fun _ hx => by simp [go_prim_PutFlags_l1] at hx) n 0 h (wk ⟨[], 0, [], 0⟩) (fun k x h => ?_)
  revert h; revert x; intro v9 h
  rw [go_prim_PutFlags_l1] at h
  refine b_seq ?_
  refine b_seq ?_
  obtain ⟨x11, hx11, h⟩ := bindE h
  refine reg ⟨60, [(0, .int .i64 a0), (4, .int .i64 v9), (17, .bool (decide (x11 > 0)))]⟩ ⟨[], []⟩ ?_ ?_
  ·refine kP 3 (x_ishr (k := .i64) (d := (tyT 3).d) (k' := .u64) hx11) ?_
   exact kE ⟨[], 0, [], 0⟩
  refine bif_ (decide (x11 > 0)) (fun hb => ?_) (fun hb => ?_)
  ·replace h := ite_t hb h
   refine b_skip ?_
   refine b_block ?_
   refine c_reg ⟨60, [(0, .int .i64 a0), (4, .int .i64 (IntKind.wrap .i64 (v9 + 1)))]⟩ ⟨[], []⟩ (cl_nil (cl_nil (P := Tryz.prog) (gl := gl0 mx) cl_loopT)) ?_ ?_
   ·exact kE ⟨[], 0, [], 0⟩
   refine bk_norm ?_
   exact ⟨IntKind.wrap .i64 (v9 + 1), h, wk ⟨[], 0, [], 0⟩⟩
  replace h := ite_f hb h
  refine b_exit ?_
  refine tk_exit ?_
  refine bl_exit ?_
  exact ⟨v9, (Option.some.inj h).symm, wk ⟨[], 0, [], 0⟩⟩
 subst hz
 refine b_seq ?_
 obtain ⟨x12, hx12, h⟩ := bindE h
 refine reg ⟨60, [(0, .int .i64 a0), (4, .int .i64 y7), (5, .own 0 x12 1)]⟩ ⟨[[.buf (List.map (vI .u8) (List.replicate x12 (0 : Int)))]], []⟩ ?_ ?_
 ·refine kV 4 0 0 0 (x_omake (T := tyT) (e := 5) (k1 := .i64) (k2 := .i64) (bytes := 1) (cell := none) (c := (vI .u8)) (uI .u8) 0 ⟨by kernel_rfl, by kernel_rfl⟩ hx12) ?_
  exact kE ⟨[0], 1, [], 0⟩
 refine b_seq ?_
 obtain ⟨x13, hx13, h⟩ := bindE h
 obtain ⟨x14, hx14, h⟩ := bindE h
 refine reg ⟨60, [(0, .int .i64 a0), (4, .int .i64 y7), (5, .own 0 x12 1)]⟩ ⟨[[.buf (List.map (vI .u8) x14)]], []⟩ ?_ ?_
 ·refine kP 8 (x_oidx (id := 0) (e := 5) (sz := 1) (b := 1) hx13) ?_
  refine kV 9 1 0 0 (x_ostore (T := tyT) (t := 5) (c := (vI .u8)) (l := List.replicate x12 (0 : Int)) (off := (x13 * 1)) (x := IntKind.wrap .u8 (IntKind.wrap .i64 ((IntKind.wrap .i64 ((8 : Int) * (IntKind.wrap .i64 (((x12 : Nat) : Int) - 1)))) - y7))) (uI .u8) (by kernel_rfl) hx14) ?_
  exact kE ⟨[0], 1, [], 0⟩
 refine b_seq ?_
 refine b_seq ?_
 refine reg ⟨60, [(0, .int .i64 a0), (5, .own 0 x12 1), (34, .int .i64 y7), (35, .int .i64 0)]⟩ ⟨[[.buf (List.map (vI .u8) x14)]], []⟩ ?_ ?_
 ·exact kE ⟨[0], 1, [], 0⟩
 obtain ⟨y78, hE, h⟩ := bindE h
 refine b_blockE (Y := (List Int)) (fun y78 => ⟨60, [(5, .own 0 x12 1)]⟩) (fun y78 => ⟨[[.buf (List.map (vI .u8) y78)]], []⟩) (fun z => y78 = z) ?_ cl_cons (fun z hz => ?_)
 ·replace h := hE
  refine b_loop (X := (Int × (List Int))) (fun x => ⟨60, [(0, .int .i64 a0), (5, .own 0 x12 1), (34, .int .i64 y7), (35, .int .i64 x.1)]⟩) (fun x => ⟨[[.buf (List.map (vI .u8) x.2)]], []⟩) (fun k x => go_prim_PutFlags_l2 n y7 a0 x12 k x.1 x.2 = some y78) (fun _ hx => by simp [go_prim_PutFlags_l2] at hx) n (0, x14) h (wk ⟨[0], 1, [], 0⟩) (fun k x h => ?_)
  obtain ⟨v98, v99⟩ := x
  rw [go_prim_PutFlags_l2] at h
  refine b_seq ?_
  refine reg ⟨60, [(0, .int .i64 a0), (5, .own 0 x12 1), (34, .int .i64 y7), (35, .int .i64 v98), (36, .bool (decide (v98 < y7)))]⟩ ⟨[[.buf (List.map (vI .u8) v99)]], []⟩ ?_ ?_
  ·exact kE ⟨[0], 1, [], 0⟩
  refine b_seq ?_
  refine bif_ (decide (v98 < y7)) (fun hb => ?_) (fun hb => ?_)
  ·replace h := ite_t hb h
   refine b_skip ?_
   refine b_seq ?_
   obtain ⟨y134, hE, h⟩ := bindE h
   refine b_blockE (Y := (List Int)) (fun y134 => ⟨60, [(0, .int .i64 a0), (5, .own 0 x12 1), (34, .int .i64 y7), (35, .int .i64 v98)]⟩) (fun y134 => ⟨[[.buf (List.map (vI .u8) y134)]], []⟩) (fun z => y134 = z) ?_ cl_cons (fun z hz => ?_)
   ·replace h := hE
    refine b_seq ?_
    refine reg ⟨60, [(0, .int .i64 a0), (5, .own 0 x12 1), (6, .int .i64 v98), (34, .int .i64 y7), (35, .int .i64 v98)]⟩ ⟨[[.buf (List.map (vI .u8) v99)]], []⟩ ?_ ?_
    ·exact kE ⟨[0], 1, [], 0⟩
    refine b_seq ?_
    obtain ⟨x136, hx136, h⟩ := bindE h
    refine reg ⟨60, [(0, .int .i64 a0), (5, .own 0 x12 1), (6, .int .i64 v98), (34, .int .i64 y7), (35, .int .i64 v98), (43, .bool ((iand .i64 x136 1) == 1))]⟩ ⟨[[.buf (List.map (vI .u8) v99)]], []⟩ ?_ ?_
    ·refine kP 3 (x_ishr (k := .i64) (d := (tyT 3).d) (k' := .u64) hx136) ?_
     exact kE ⟨[0], 1, [], 0⟩
    refine bif_ ((iand .i64 x136 1) == 1) (fun hb => ?_) (fun hb => ?_)
    ·replace h := ite_t hb h
     obtain ⟨x137, hx137, h⟩ := bindE h
     obtain ⟨x138, hx138, h⟩ := bindE h
     obtain ⟨x139, hx139, h⟩ := bindE h
     obtain ⟨x140, hx140, h⟩ := bindE h
     obtain ⟨x141, hx141, h⟩ := bindE h
     refine regN ⟨60, [(0, .int .i64 a0), (5, .own 0 x12 1), (34, .int .i64 y7), (35, .int .i64 v98)]⟩ ⟨[[.buf (List.map (vI .u8) x141)]], []⟩ cl_blockL ?_ ?_
     ·refine kP 4 (x_oidx (id := 0) (e := 5) (sz := 1) (b := 1) hx137) ?_
      refine kP 5 (x_oload (c := (vI .u8)) (l := v99) (off := (x137 * 1)) hx138) ?_
      refine kP 10 (x_ishl (k := .u8) (d := (tyT 5).d) (k' := .u64) hx139) ?_
      refine kP 12 (x_oidx (id := 0) (e := 5) (sz := 1) (b := 1) hx140) ?_
      refine kV 13 1 0 0 (x_ostore (T := tyT) (t := 5) (c := (vI .u8)) (l := v99) (off := (x140 * 1)) (x := ior .u8 x138 x139) (uI .u8) (by kernel_rfl) hx141) ?_
      exact kE ⟨[0], 1, [], 0⟩
     exact ⟨x141, (Option.some.inj h).symm, wk ⟨[0], 1, [], 0⟩⟩
    replace h := ite_f hb h
    refine b_skip ?_
    exact ⟨v99, (Option.some.inj h).symm, wk ⟨[0], 1, [], 0⟩⟩
   subst hz
   refine regN ⟨60, [(0, .int .i64 a0), (5, .own 0 x12 1), (34, .int .i64 y7), (35, .int .i64 (IntKind.wrap .i64 (v98 + 1)))]⟩ ⟨[[.buf (List.map (vI .u8) y134)]], []⟩ cl_loopT ?_ ?_
   ·exact kE ⟨[0], 1, [], 0⟩
   exact ⟨(IntKind.wrap .i64 (v98 + 1), y134), h, wk ⟨[0], 1, [], 0⟩⟩
  replace h := ite_f hb h
  refine b_exit ?_
  refine tk_exit ?_
  refine bl_exit ?_
  exact ⟨v99, (Option.some.inj h).symm, wk ⟨[0], 1, [], 0⟩⟩
 subst hz
 refine b_seq ?_
 obtain ⟨x142, hx142, h⟩ := bindE h
 refine reg ⟨60, [(2, .str x142), (3, .int .i64 0)]⟩ ⟨[], []⟩ ?_ ?_
 ·refine kP 1 (x_ob2s hx142) ?_
  exact kE ⟨[], 1, [], 0⟩
 refine b_ret ?_
 obtain rfl := Option.some.inj h
 exact rtn ⟨[], 0, [], 0⟩ (.inr rfl)
def go_wire_oids (n : Nat) (m0 : T_wire_buffer) : Option T_wire_buffer :=
 some m0
theorem go_wire_oids_ok {n : Nat} {m0 : T_wire_buffer} {r : T_wire_buffer} (h : go_wire_oids n m0 = some r) : ACalls Tryz.prog (gl0 mx) 49 [.ptr 0 0] ⟨[[.str m0.f_b, .int .i64 m0.f_e]], []⟩ (Out (.func (.func 118) [.ptr 0 0] []) ⟨[[.str r.f_b, .int .i64 r.f_e]], []⟩) := by
 delta go_wire_oids at h
 refine fnc Tryz.func49 rfl ?_
 refine b_seq ?_
 refine reg ⟨5, [(0, .ptr 0 0)]⟩ ⟨[[.str m0.f_b, .int .i64 m0.f_e]], []⟩ ?_ ?_
 ·exact kE ⟨[0], 1, [], 0⟩
 refine b_seq ?_
 refine reg ⟨5, [(2, .func (.func 118) [.ptr 0 0] [])]⟩ ⟨[[.str m0.f_b, .int .i64 m0.f_e]], []⟩ ?_ ?_
 ·exact kE ⟨[0], 1, [], 0⟩
 refine b_ret ?_
 obtain rfl := Option.some.inj h
 exact rtn ⟨[0], 1, [], 0⟩ (.inr rfl)
def go_wire_buffer_oid (n : Nat) (a1 : (List UInt8)) (m0 : T_wire_buffer) : Option T_wire_buffer :=
 (go_oid_Encode n a1).bind fun r1 =>
 (go_wire_buffer_add n ([] : List UInt8) r1.2 m0).bind fun r2 =>
 (go_wire_buffer_element n 6 r1.1 r2).bind fun r3 =>
 some r3
theorem go_wire_buffer_oid_ok {n : Nat} {a1 : (List UInt8)} {m0 : T_wire_buffer} {r : T_wire_buffer} (h : go_wire_buffer_oid n a1 m0 = some r) : ACalls Tryz.prog (gl0 mx) 118 [.ptr 0 0, .str a1] ⟨[[.str m0.f_b, .int .i64 m0.f_e]], []⟩ (Out (.tuple []) ⟨[[.str r.f_b, .int .i64 r.f_e]], []⟩) := by
 delta go_wire_buffer_oid at h
 refine fnc Tryz.func118 rfl ?_
 refine b_seq ?_
 obtain ⟨r1, hr1, h⟩ := bindE h
 refine reg ⟨17, [(0, .ptr 0 0), (4, .str r1.1), (5, .int .i64 r1.2)]⟩ ⟨[[.str m0.f_b, .int .i64 m0.f_e]], []⟩ ?_ ?_
 ·refine kC 1 ⟨[], 1, [], 0⟩ (go_oid_Encode_ok hr1) ?_
  exact kE ⟨[0], 1, [], 0⟩
 refine b_seq ?_
 obtain ⟨r2, hr2, h⟩ := bindE h
 refine reg ⟨17, [(0, .ptr 0 0), (4, .str r1.1)]⟩ ⟨[[.str r2.f_b, .int .i64 r2.f_e]], []⟩ ?_ ?_
 ·refine kC 2 ⟨[0], 1, [], 0⟩ (go_wire_buffer_add_ok hr2) ?_
  exact kE ⟨[0], 1, [], 0⟩
 obtain ⟨r3, hr3, h⟩ := bindE h
 refine regN ⟨17, []⟩ ⟨[[.str r3.f_b, .int .i64 r3.f_e]], []⟩ cl_body ?_ ?_
 ·refine kC 2 ⟨[0], 1, [], 0⟩ (go_wire_buffer_element_ok hr3) ?_
  exact kE ⟨[0], 1, [], 0⟩
 obtain rfl := Option.some.inj h
 exact rtn ⟨[0], 1, [], 0⟩ (.inl rfl)
def go_wire_list_string_l1 (n : Nat) (a2 : (List (List UInt8))) : Nat → Int → (List UInt8) → Int → Option ((List UInt8) × Int)
 | 0, _, _, _ => none
 | k + 1, v25, v26, v27 =>
  if (decide (v25 < (List.length a2 : Int))) = true then ((lidx a2 v25).bind fun x34 =>
  (go_wire_buffer_oid n x34 (T_wire_buffer.mk v26 v27)).bind fun r35 =>
  go_wire_list_string_l1 n a2 k (IntKind.wrap .i64 (v25 + 1)) r35.f_b r35.f_e) else (some (v26, v27))
def go_wire_list_string (n : Nat) (a1 : Int) (a2 : (List (List UInt8))) (m0 : T_wire_buffer) : Option T_wire_buffer :=
 (go_wire_oids n (T_wire_buffer.mk ([] : List UInt8) 0)).bind fun r1 =>
 (go_wire_list_string_l1 n a2 n 0 r1.f_b r1.f_e).bind fun y19 =>
 (go_wire_buffer_add n ([] : List UInt8) y19.2 m0).bind fun r36 =>
 (go_wire_buffer_element n a1 y19.1 r36).bind fun r37 =>
 some r37
theorem go_wire_list_string_ok {n : Nat} {a1 : Int} {a2 : (List (List UInt8))} {m0 : T_wire_buffer} {r : T_wire_buffer} (h : go_wire_list_string n a1 a2 m0 = some r) : ACalls Tryz.prog (gl0 mx) 48 [.ptr 0 0, .int .i64 a1, .sl 1 (List.map cS a2) .none, .func (.func 49) [] []] ⟨[[.str m0.f_b, .int .i64 m0.f_e]], []⟩ (Out (.tuple []) ⟨[[.str r.f_b, .int .i64 r.f_e]], []⟩) := by
 delta go_wire_list_string at h
 refine fnc Tryz.func48 rfl ?_
 refine b_seq ?_
 refine reg ⟨33, [(0, .ptr 0 0), (1, .int .i64 a1), (2, .sl 1 (List.map cS a2) .none), (3, .func (.func 49) [] []), (8, .ptr 1 0)]⟩ ⟨[[.str m0.f_b, .int .i64 m0.f_e], [.str ([] : List UInt8), .int .i64 0]], []⟩ ?_ ?_
 ·exact kE ⟨[0, 1], 2, [], 0⟩
 refine b_seq ?_
 obtain ⟨r1, hr1, h⟩ := bindE h
 refine reg ⟨33, [(0, .ptr 0 0), (1, .int .i64 a1), (2, .sl 1 (List.map cS a2) .none), (8, .ptr 1 0), (9, .func (.func 118) [.ptr 1 0] [])]⟩ ⟨[[.str m0.f_b, .int .i64 m0.f_e], [.str r1.f_b, .int .i64 r1.f_e]], []⟩ ?_ ?_
 ·refine kC 1 ⟨[1], 2, [], 0⟩ (go_wire_oids_ok hr1) ?_
  exact kE ⟨[0, 1], 2, [], 0⟩
 refine b_seq ?_
 refine b_seq ?_
 refine reg ⟨33, [(0, .ptr 0 0), (1, .int .i64 a1), (8, .ptr 1 0), (9, .func (.func 118) [.ptr 1 0] []), (14, .sl 1 (List.map cS a2) .none), (15, .int .i64 (List.length a2 : Int)), (16, .int .i64 0)]⟩ ⟨[[.str m0.f_b, .int .i64 m0.f_e], [.str r1.f_b, .int .i64 r1.f_e]], []⟩ ?_ ?_
 ·refine kP 1 (x_len (c := cS) (l := a2) (e := 9) (sz := 1) (sz' := 1) (b := 16) (tok := .none)) ?_
  exact kE ⟨[0, 1], 2, [], 0⟩
 obtain ⟨y19, hE, h⟩ := bindE h
 refine b_blockE (Y := ((List UInt8) × Int)) (fun y19 => ⟨33, [(0, .ptr 0 0), (1, .int .i64 a1), (8, .ptr 1 0)]⟩) (fun y19 => ⟨[[.str m0.f_b, .int .i64 m0.f_e], [.str y19.1, .int .i64 y19.2]], []⟩) (fun z => y19 = z) ?_ cl_cons (fun z hz => ?_)
 ·replace h := hE
  refine b_loop (X := (Int × (List UInt8) × Int)) (fun x => ⟨33, [(0, .ptr 0 0), (1, .int .i64 a1), (8, .ptr 1 0), (9, .func (.func 118) [.ptr 1 0] []), (14, .sl 1 (List.map cS a2) .none), (15, .int .i64 (List.length a2 : Int)), (16, .int .i64 x.1)]⟩) (fun x => ⟨[[.str m0.f_b, .int .i64 m0.f_e], [.str x.2.1, .int .i64 x.2.2]], []⟩) (fun k x => go_wire_list_string_l1 n a2 k x.1 x.2.1 x.2.2 = some y19) (fun _ hx => by simp [go_wire_list_string_l1] at hx) n (0, r1.f_b, r1.f_e) h (wk ⟨[0, 1], 2, [], 0⟩) (fun k x h => ?_)
  obtain ⟨v25, v26, v27⟩ := x
  rw [go_wire_list_string_l1] at h
  refine b_seq ?_
  refine reg ⟨33, [(0, .ptr 0 0), (1, .int .i64 a1), (8, .ptr 1 0), (9, .func (.func 118) [.ptr 1 0] []), (14, .sl 1 (List.map cS a2) .none), (15, .int .i64 (List.length a2 : Int)), (16, .int .i64 v25), (17, .bool (decide (v25 < (List.length a2 : Int))))]⟩ ⟨[[.str m0.f_b, .int .i64 m0.f_e], [.str v26, .int .i64 v27]], []⟩ ?_ ?_
  ·exact kE ⟨[0, 1], 2, [], 0⟩
  refine b_seq ?_
  refine bif_ (decide (v25 < (List.length a2 : Int))) (fun hb => ?_) (fun hb => ?_)
  ·replace h := ite_t hb h
   refine b_skip ?_
   refine b_seq ?_
   refine b_block ?_
   refine b_seq ?_
   obtain ⟨x34, hx34, h⟩ := bindE h
   refine reg ⟨33, [(0, .ptr 0 0), (1, .int .i64 a1), (8, .ptr 1 0), (9, .func (.func 118) [.ptr 1 0] []), (11, .str x34), (14, .sl 1 (List.map cS a2) .none), (15, .int .i64 (List.length a2 : Int)), (16, .int .i64 v25)]⟩ ⟨[[.str m0.f_b, .int .i64 m0.f_e], [.str v26, .int .i64 v27]], []⟩ ?_ ?_
   ·refine kP 0 (x_lidx (c := cS) (e := 9) (sz := 1) (b := 16) (tok := .none) hx34) ?_
    exact kE ⟨[0, 1], 2, [], 0⟩
   obtain ⟨r35, hr35, h⟩ := bindE h
   refine regN ⟨33, [(0, .ptr 0 0), (1, .int .i64 a1), (8, .ptr 1 0), (9, .func (.func 118) [.ptr 1 0] []), (14, .sl 1 (List.map cS a2) .none), (15, .int .i64 (List.length a2 : Int)), (16, .int .i64 v25)]⟩ ⟨[[.str m0.f_b, .int .i64 m0.f_e], [.str r35.f_b, .int .i64 r35.f_e]], []⟩ cl_cons ?_ ?_
   ·refine kC 2 ⟨[1], 2, [], 0⟩ (go_wire_buffer_oid_ok hr35) ?_
    exact kE ⟨[0, 1], 2, [], 0⟩
   refine bk_norm ?_
   refine regN ⟨33, [(0, .ptr 0 0), (1, .int .i64 a1), (8, .ptr 1 0), (9, .func (.func 118) [.ptr 1 0] []), (14, .sl 1 (List.map cS a2) .none), (15, .int .i64 (List.length a2 : Int)), (16, .int .i64 (IntKind.wrap .i64 (v25 + 1)))]⟩ ⟨[[.str m0.f_b, .int .i64 m0.f_e], [.str r35.f_b, .int .i64 r35.f_e]], []⟩ cl_loopT ?_ ?_
   ·exact kE ⟨[0, 1], 2, [], 0⟩
   exact ⟨(IntKind.wrap .i64 (v25 + 1), r35.f_b, r35.f_e), h, wk ⟨[0, 1], 2, [], 0⟩⟩
  replace h := ite_f hb h
  refine b_exit ?_
  refine tk_exit ?_
  refine bl_exit ?_
  exact ⟨(v26, v27), (Option.some.inj h).symm, wk ⟨[0, 1], 2, [], 0⟩⟩
 subst hz
 refine b_seq ?_
 obtain ⟨r36, hr36, h⟩ := bindE h
 refine reg ⟨33, [(0, .ptr 0 0), (1, .int .i64 a1), (8, .ptr 1 0)]⟩ ⟨[[.str r36.f_b, .int .i64 r36.f_e], [.str y19.1, .int .i64 y19.2]], []⟩ ?_ ?_
 ·refine kC 3 ⟨[0], 2, [], 0⟩ (go_wire_buffer_add_ok hr36) ?_
  exact kE ⟨[0, 1], 2, [], 0⟩
 obtain ⟨r37, hr37, h⟩ := bindE h
 refine regN ⟨33, []⟩ ⟨[[.str r37.f_b, .int .i64 r37.f_e]], []⟩ cl_body ?_ ?_
 ·refine kC 4 ⟨[0], 2, [], 0⟩ (go_wire_buffer_element_ok hr37) ?_
  exact kE ⟨[0], 2, [], 0⟩
 obtain rfl := Option.some.inj h
 exact rtn ⟨[0], 1, [], 0⟩ (.inl rfl)
def go_prim_PutBoolean (n : Nat) (a0 : Bool) : Option (List UInt8) :=
 if a0 = true then (some ([255] : List UInt8)) else (some ([0] : List UInt8))
theorem go_prim_PutBoolean_ok {n : Nat} {a0 : Bool} {r : (List UInt8)} (h : go_prim_PutBoolean n a0 = some r) : ACalls Tryz.prog (gl0 mx) 119 [.bool a0] ⟨[], []⟩ (Out (.str r) ⟨[], []⟩) := by
 delta go_prim_PutBoolean at h
 refine fnc Tryz.func119 rfl ?_
 refine b_seq ?_
 refine reg ⟨4, [(0, .bool a0)]⟩ ⟨[], []⟩ ?_ ?_
 ·exact kE ⟨[], 0, [], 0⟩
 refine b_seq ?_
 refine b_seq ?_
 refine reg ⟨4, [(3, .bool a0)]⟩ ⟨[], []⟩ ?_ ?_
 ·exact kE ⟨[], 0, [], 0⟩
 refine bif_ (a0) (fun hb => ?_) (fun hb => ?_)
 ·replace h := ite_t hb h
  refine b_seq ?_
  refine reg ⟨4, [(2, .str ([255] : List UInt8))]⟩ ⟨[], []⟩ ?_ ?_
  ·exact kE ⟨[], 0, [], 0⟩
  refine b_ret ?_
  obtain rfl := Option.some.inj h
  exact rtn ⟨[], 0, [], 0⟩ (.inr rfl)
 replace h := ite_f hb h
 refine b_skip ?_
 refine b_seq ?_
 refine reg ⟨4, [(2, .str ([0] : List UInt8))]⟩ ⟨[], []⟩ ?_ ?_
 ·exact kE ⟨[], 0, [], 0⟩
 refine b_ret ?_
 obtain rfl := Option.some.inj h
 exact rtn ⟨[], 0, [], 0⟩ (.inr rfl)
def go_wire_buffer_boolean (n : Nat) (a1 : Int) (a2 : Bool) (m0 : T_wire_buffer) : Option T_wire_buffer :=
 if a2 = true then ((go_prim_PutBoolean n true).bind fun r1 =>
 (go_wire_buffer_element n a1 r1 m0).bind fun r2 =>
 some r2) else (some m0)
theorem go_wire_buffer_boolean_ok {n : Nat} {a1 : Int} {a2 : Bool} {m0 : T_wire_buffer} {r : T_wire_buffer} (h : go_wire_buffer_boolean n a1 a2 m0 = some r) : ACalls Tryz.prog (gl0 mx) 50 [.ptr 0 0, .int .i64 a1, .bool a2] ⟨[[.str m0.f_b, .int .i64 m0.f_e]], []⟩ (Out (.tuple []) ⟨[[.str r.f_b, .int .i64 r.f_e]], []⟩) := by
 delta go_wire_buffer_boolean at h
 refine fnc Tryz.func50 rfl ?_
 refine b_seq ?_
 refine reg ⟨11, [(0, .ptr 0 0), (1, .int .i64 a1), (6, .bool a2)]⟩ ⟨[[.str m0.f_b, .int .i64 m0.f_e]], []⟩ ?_ ?_
 ·exact kE ⟨[0], 1, [], 0⟩
 refine bif_ (a2) (fun hb => ?_) (fun hb => ?_)
 ·replace h := ite_t hb h
  obtain ⟨r1, hr1, h⟩ := bindE h
  obtain ⟨r2, hr2, h⟩ := bindE h
  refine regN ⟨11, []⟩ ⟨[[.str r2.f_b, .int .i64 r2.f_e]], []⟩ cl_body ?_ ?_
  ·refine kC 2 ⟨[], 1, [], 0⟩ (go_prim_PutBoolean_ok hr1) ?_
   refine kC 3 ⟨[0], 1, [], 0⟩ (go_wire_buffer_element_ok hr2) ?_
   exact kE ⟨[0], 1, [], 0⟩
  obtain rfl := Option.some.inj h
  exact rtn ⟨[0], 1, [], 0⟩ (.inl rfl)
 replace h := ite_f hb h
 refine b_skip ?_
 obtain rfl := Option.some.inj h
 exact rtn ⟨[0], 1, [], 0⟩ (.inl rfl)
def go_gname_count (n : Nat) (a0 : Int) : Option Int :=
 if (a0 == 0) = true then (some 7) else (if (decide (a0 > 16)) = true then (some 2) else (some 0))
theorem go_gname_count_ok {n : Nat} {a0 : Int} {r : Int} (h : go_gname_count n a0 = some r) : ACalls Tryz.prog (gl0 mx) 120 [.int .i64 a0] ⟨[], []⟩ (Out (.int .i64 r) ⟨[], []⟩) := by
 delta go_gname_count at h
 refine fnc Tryz.func120 rfl ?_
 refine b_seq ?_
 refine reg ⟨9, [(0, .int .i64 a0)]⟩ ⟨[], []⟩ ?_ ?_
 ·exact kE ⟨[], 0, [], 0⟩
 refine b_seq ?_
 refine b_block ?_
 refine b_seq ?_
 refine reg ⟨9, [(0, .int .i64 a0), (3, .bool (a0 == 0))]⟩ ⟨[], []⟩ ?_ ?_
 ·exact kE ⟨[], 0, [], 0⟩
 refine bif_ (a0 == 0) (fun hb => ?_) (fun hb => ?_)
 ·replace h := ite_t hb h
  refine b_seq ?_
  refine reg ⟨9, [(2, .int .i64 7)]⟩ ⟨[], []⟩ ?_ ?_
  ·exact kE ⟨[], 0, [], 0⟩
  refine b_ret ?_
  refine bk_ret ?_
  obtain rfl := Option.some.inj h
  exact rtn ⟨[], 0, [], 0⟩ (.inr rfl)
 replace h := ite_f hb h
 refine b_seq ?_
 refine reg ⟨9, [(6, .bool (decide (a0 > 16)))]⟩ ⟨[], []⟩ ?_ ?_
 ·exact kE ⟨[], 0, [], 0⟩
 refine bif_ (decide (a0 > 16)) (fun hb => ?_) (fun hb => ?_)
 ·replace h := ite_t hb h
  refine b_seq ?_
  refine reg ⟨9, [(2, .int .i64 2)]⟩ ⟨[], []⟩ ?_ ?_
  ·exact kE ⟨[], 0, [], 0⟩
  refine b_ret ?_
  refine bk_ret ?_
  obtain rfl := Option.some.inj h
  exact rtn ⟨[], 0, [], 0⟩ (.inr rfl)
 replace h := ite_f hb h
 refine b_skip ?_
 refine bk_norm ?_
 refine b_seq ?_
 refine reg ⟨9, [(2, .int .i64 0)]⟩ ⟨[], []⟩ ?_ ?_
 ·exact kE ⟨[], 0, [], 0⟩
 refine b_ret ?_
 obtain rfl := Option.some.inj h
 exact rtn ⟨[], 0, [], 0⟩ (.inr rfl)
def go_dname_encodeAttribute (n : Nat) (a0 : T_api_Attribute) : Option ((List UInt8) × Int) :=
 (go_oid_Encode n a0.f_Type).bind fun r1 =>
 if (r1.2 != 0) = true then (some (([] : List UInt8), r1.2)) else ((go_tlv_Wrap n 6 ([r1.1] : List (List UInt8))).bind fun r2 =>
 if (r2.2 != 0) = true then (some (([] : List UInt8), r2.2)) else ((go_tlv_Wrap n a0.f_Kind ([a0.f_Value] : List (List UInt8))).bind fun r3 =>
 if (r3.2 != 0) = true then (some (([] : List UInt8), r3.2)) else ((go_tlv_Wrap n 48 ([r2.1, r3.1] : List (List UInt8))).bind fun r4 =>
 some (r4.1, r4.2))))
theorem go_dname_encodeAttribute_ok {n : Nat} {a0 : T_api_Attribute} {r : ((List UInt8) × Int)} (h : go_dname_encodeAttribute n a0 = some r) : ACalls Tryz.prog (gl0 mx) 214 [.agg [.str a0.f_Type, .int .i64 a0.f_Kind, .str a0.f_Value]] ⟨[], []⟩ (Out (.tuple [.str r.1, .int .i64 r.2]) ⟨[], []⟩) := by
 delta go_dname_encodeAttribute at h
 refine fnc Tryz.func214 rfl ?_
 refine b_seq ?_
 refine reg ⟨44, [(1, .ptr 0 0)]⟩ ⟨[[.str a0.f_Type, .int .i64 a0.f_Kind, .str a0.f_Value]], []⟩ ?_ ?_
 ·exact kE ⟨[0], 1, [], 0⟩
 refine b_seq ?_
 obtain ⟨r1, hr1, h⟩ := bindE h
 refine reg ⟨44, [(1, .ptr 0 0), (4, .str r1.1), (5, .int .i64 r1.2)]⟩ ⟨[[.str a0.f_Type, .int .i64 a0.f_Kind, .str a0.f_Value]], []⟩ ?_ ?_
 ·refine kC 2 ⟨[], 1, [], 0⟩ (go_oid_Encode_ok hr1) ?_
  exact kE ⟨[0], 1, [], 0⟩
 refine b_seq ?_
 refine b_seq ?_
 refine reg ⟨44, [(1, .ptr 0 0), (4, .str r1.1), (5, .int .i64 r1.2), (15, .bool (r1.2 != 0))]⟩ ⟨[[.str a0.f_Type, .int .i64 a0.f_Kind, .str a0.f_Value]], []⟩ ?_ ?_
 ·exact kE ⟨[0], 1, [], 0⟩
 refine bif_ (r1.2 != 0) (fun hb => ?_) (fun hb => ?_)
 ·replace h := ite_t hb h
  refine b_seq ?_
  refine reg ⟨44, [(2, .str ([] : List UInt8)), (3, .int .i64 r1.2)]⟩ ⟨[], []⟩ ?_ ?_
  ·exact kE ⟨[], 1, [], 0⟩
  refine b_ret ?_
  obtain rfl := Option.some.inj h
  exact rtn ⟨[], 0, [], 0⟩ (.inr rfl)
 replace h := ite_f hb h
 refine b_skip ?_
 refine b_seq ?_
 obtain ⟨r2, hr2, h⟩ := bindE h
 refine reg ⟨44, [(1, .ptr 0 0), (5, .int .i64 r2.2), (6, .str r2.1)]⟩ ⟨[[.str a0.f_Type, .int .i64 a0.f_Kind, .str a0.f_Value]], []⟩ ?_ ?_
 ·refine kC 2 ⟨[], 1, [], 0⟩ (go_tlv_Wrap_ok hr2) ?_
  exact kE ⟨[0], 1, [], 0⟩
 refine b_seq ?_
 refine b_seq ?_
 refine reg ⟨44, [(1, .ptr 0 0), (5, .int .i64 r2.2), (6, .str r2.1), (24, .bool (r2.2 != 0))]⟩ ⟨[[.str a0.f_Type, .int .i64 a0.f_Kind, .str a0.f_Value]], []⟩ ?_ ?_
 ·exact kE ⟨[0], 1, [], 0⟩
 refine bif_ (r2.2 != 0) (fun hb => ?_) (fun hb => ?_)
 ·replace h := ite_t hb h
  refine b_seq ?_
  refine reg ⟨44, [(2, .str ([] : List UInt8)), (3, .int .i64 r2.2)]⟩ ⟨[], []⟩ ?_ ?_
  ·exact kE ⟨[], 1, [], 0⟩
  refine b_ret ?_
  obtain rfl := Option.some.inj h
  exact rtn ⟨[], 0, [], 0⟩ (.inr rfl)
 replace h := ite_f hb h
 refine b_skip ?_
 refine b_seq ?_
 obtain ⟨r3, hr3, h⟩ := bindE h
 refine reg ⟨44, [(5, .int .i64 r3.2), (6, .str r2.1), (7, .str r3.1)]⟩ ⟨[], []⟩ ?_ ?_
 ·refine kC 5 ⟨[], 1, [], 0⟩ (go_tlv_Wrap_ok hr3) ?_
  exact kE ⟨[], 1, [], 0⟩
 refine b_seq ?_
 refine b_seq ?_
 refine reg ⟨44, [(5, .int .i64 r3.2), (6, .str r2.1), (7, .str r3.1), (36, .bool (r3.2 != 0))]⟩ ⟨[], []⟩ ?_ ?_
 ·exact kE ⟨[], 0, [], 0⟩
 refine bif_ (r3.2 != 0) (fun hb => ?_) (fun hb => ?_)
 ·replace h := ite_t hb h
  refine b_seq ?_
  refine reg ⟨44, [(2, .str ([] : List UInt8)), (3, .int .i64 r3.2)]⟩ ⟨[], []⟩ ?_ ?_
  ·exact kE ⟨[], 0, [], 0⟩
  refine b_ret ?_
  obtain rfl := Option.some.inj h
  exact rtn ⟨[], 0, [], 0⟩ (.inr rfl)
 replace h := ite_f hb h
 refine b_skip ?_
 refine b_seq ?_
 obtain ⟨r4, hr4, h⟩ := bindE h
 refine reg ⟨44, [(2, .str r4.1), (3, .int .i64 r4.2)]⟩ ⟨[], []⟩ ?_ ?_
 ·refine kC 3 ⟨[], 0, [], 0⟩ (go_tlv_Wrap_ok hr4) ?_
  exact kE ⟨[], 0, [], 0⟩
 refine b_ret ?_
 obtain rfl := Option.some.inj h
 exact rtn ⟨[], 0, [], 0⟩ (.inr rfl)
def go_tlv_Order (n : Nat) (a0 : (List (List UInt8))) : Option (List UInt8) :=
 (oapp0 16 a0).bind fun x1 =>
 (ct_Sort n (List.length x1) x1).bind fun r2 =>
 (ct_JoinO n (List.length x1) ([] : List UInt8) r2).bind fun r3 =>
 some r3.1
theorem go_tlv_Order_ok {n : Nat} {a0 : (List (List UInt8))} {r : (List UInt8)} (h : go_tlv_Order n a0 = some r) : ACalls Tryz.prog (gl0 mx) 215 [.sl 1 (List.map cS a0) .none] ⟨[], []⟩ (Out (.str r) ⟨[], []⟩) := by
 delta go_tlv_Order at h
 refine fnc Tryz.func215 rfl ?_
 refine b_seq ?_
 refine reg ⟨10, [(0, .sl 1 (List.map cS a0) .none)]⟩ ⟨[], []⟩ ?_ ?_
 ·exact kE ⟨[], 0, [], 0⟩
 refine b_seq ?_
 obtain ⟨x1, hx1, h⟩ := bindE h
 refine reg ⟨10, [(3, .own 0 (List.length x1) 1)]⟩ ⟨[[.buf (List.map vS x1)]], []⟩ ?_ ?_
 ·refine kV 1 0 0 0 (x_oapp0 (T := tyT) (c := vS) (l2 := a0) (e := 9) (e2 := 9) (bytes := 16) (b2 := 16) (tok2 := .none) (cell := none) (by kernel_rfl) hx1) ?_
  exact kE ⟨[0], 1, [], 0⟩
 refine b_seq ?_
 obtain ⟨r2, hr2, h⟩ := bindE h
 refine reg ⟨10, [(3, .own 0 (List.length x1) 1)]⟩ ⟨[[.buf (List.map vS r2)]], []⟩ ?_ ?_
 ·refine kC 1 ⟨[0], 1, [], 0⟩ (ct_Sort_ok hr2) ?_
  exact kE ⟨[0], 1, [], 0⟩
 refine b_seq ?_
 obtain ⟨r3, hr3, h⟩ := bindE h
 refine reg ⟨10, [(2, .str r3.1)]⟩ ⟨[], []⟩ ?_ ?_
 ·refine kC 1 ⟨[0], 1, [], 0⟩ (ct_JoinO_ok hr3) ?_
  exact kE ⟨[], 1, [], 0⟩
 refine b_ret ?_
 obtain rfl := Option.some.inj h
 exact rtn ⟨[], 0, [], 0⟩ (.inr rfl)
def go_dname_Encode_l2 (n : Nat) (x862 : (List T_api_Attribute)) : Nat → (List (List UInt8)) → Int → Option (Ctl ((List UInt8) × Int) (List (List UInt8)))
 | 0, _, _ => none
 | k + 1, v895, v896 =>
  if (decide (v896 < (List.length x862 : Int))) = true then ((lidx x862 v896).bind fun x906 =>
  (go_dname_encodeAttribute n x906).bind fun r907 =>
  if (r907.2 != 0) = true then (some (.ret (([] : List UInt8), r907.2))) else ((lapp 16 v895 ([r907.1] : List (List UInt8))).bind fun x908 =>
  go_dname_Encode_l2 n x862 k x908 (IntKind.wrap .i64 (v896 + 1)))) else (some (.nxt v895))
def go_dname_Encode_l1 (n : Nat) (a0 : T_api_Name) : Nat → (List (List UInt8)) → Int → Option (Ctl ((List UInt8) × Int) (List (List UInt8)))
 | 0, _, _ => none
 | k + 1, v610, v611 =>
  if (decide (v611 < (List.length a0.f_RDNs : Int))) = true then ((lidx a0.f_RDNs v611).bind fun x862 =>
  ctlB (go_dname_Encode_l2 n x862 n ([] : List (List UInt8)) 0) (fun r => some (.ret r)) (fun y885 =>
  (go_tlv_Order n y885).bind fun r909 =>
  (go_tlv_Wrap n 49 ([r909] : List (List UInt8))).bind fun r910 =>
  if (r910.2 != 0) = true then (some (.ret (([] : List UInt8), r910.2))) else ((lapp 16 v610 ([r910.1] : List (List UInt8))).bind fun x911 =>
  go_dname_Encode_l1 n a0 k x911 (IntKind.wrap .i64 (v611 + 1))))) else (some (.nxt v610))
def go_dname_Encode (n : Nat) (a0 : T_api_Name) : Option ((List UInt8) × Int) :=
 (go_dname_Check n a0).bind fun r1 =>
 if (r1 != 0) = true then (some (([] : List UInt8), r1)) else (ctlB (go_dname_Encode_l1 n a0 n ([] : List (List UInt8)) 0) (fun r => some r) (fun y456 =>
 (go_tlv_Wrap n 48 y456).bind fun r912 =>
 some (r912.1, r912.2)))
theorem go_dname_Encode_ok {n : Nat} {a0 : T_api_Name} {r : ((List UInt8) × Int)} (h : go_dname_Encode n a0 = some r) : ACalls Tryz.prog (gl0 mx) 164 [.agg [.sl 1 (List.map (cL 3 T_api_Attribute.cells) a0.f_RDNs) .none]] ⟨[], []⟩ (Out (.tuple [.str r.1, .int .i64 r.2]) ⟨[], []⟩) := by
 delta go_dname_Encode at h
 refine fnc Tryz.func164 rfl ?_
 refine b_seq ?_
 refine reg ⟨65, [(1, .ptr 0 0)]⟩ ⟨[[.sl 1 (List.map (cL 3 T_api_Attribute.cells) a0.f_RDNs) .none]], []⟩ ?_ ?_
 ·exact kE ⟨[0], 1, [], 0⟩
 refine b_seq ?_
 refine b_seq ?_
 obtain ⟨r1, hr1, h⟩ := bindE h
 refine reg ⟨65, [(1, .ptr 0 0), (4, .int .i64 r1)]⟩ ⟨[[.sl 1 (List.map (cL 3 T_api_Attribute.cells) a0.f_RDNs) .none]], []⟩ ?_ ?_
 ·refine kC 1 ⟨[], 1, [], 0⟩ (go_dname_Check_ok hr1) ?_
  exact kE ⟨[0], 1, [], 0⟩
 refine b_seq ?_
 refine reg ⟨65, [(1, .ptr 0 0), (4, .int .i64 r1), (18, .bool (r1 != 0))]⟩ ⟨[[.sl 1 (List.map (cL 3 T_api_Attribute.cells) a0.f_RDNs) .none]], []⟩ ?_ ?_
 ·exact kE ⟨[0], 1, [], 0⟩
 refine bif_ (r1 != 0) (fun hb => ?_) (fun hb => ?_)
 ·replace h := ite_t hb h
  refine b_seq ?_
  refine reg ⟨65, [(2, .str ([] : List UInt8)), (3, .int .i64 r1)]⟩ ⟨[], []⟩ ?_ ?_
  ·exact kE ⟨[], 1, [], 0⟩
  refine b_ret ?_
  obtain rfl := Option.some.inj h
  exact rtn ⟨[], 0, [], 0⟩ (.inr rfl)
 replace h := ite_f hb h
 refine b_skip ?_
 refine b_seq ?_
 refine reg ⟨65, [(1, .ptr 0 0), (5, .nilsl)]⟩ ⟨[[.sl 1 (List.map (cL 3 T_api_Attribute.cells) a0.f_RDNs) .none]], []⟩ ?_ ?_
 ·exact kE ⟨[0], 1, [], 0⟩
 refine b_seq ?_
 refine b_seq ?_
 refine reg ⟨65, [(5, .nilsl), (21, .sl 1 (List.map (cL 3 T_api_Attribute.cells) a0.f_RDNs) .none), (22, .int .i64 (List.length a0.f_RDNs : Int)), (23, .int .i64 0)]⟩ ⟨[], []⟩ ?_ ?_
 ·refine kP 2 (x_len (c := (cL 3 T_api_Attribute.cells)) (l := a0.f_RDNs) (e := 141) (sz := 1) (sz' := 1) (b := 24) (tok := .none)) ?_
  exact kE ⟨[], 1, [], 0⟩
 obtain ⟨o457, hE, hr458, h⟩ := ctlE h
 refine b_blockE (Y := (List (List UInt8))) (fun y456 => ⟨65, [(5, .sl 1 (List.map cS y456) (.fam 0 (List.length y456)))]⟩) (fun y456 => ⟨[], [List.length y456]⟩) (fun z => o457 = .nxt z) ?_ cl_cons (fun y456 hy => ?_)
 ·replace h := hE
  refine b_wk (wk (fr' := ⟨65, [(5, .nilsl), (21, .sl 1 (List.map (cL 3 T_api_Attribute.cells) a0.f_RDNs) .none), (22, .int .i64 (List.length a0.f_RDNs : Int)), (23, .int .i64 0)]⟩) (st' := ⟨[], []⟩) ⟨[], 0, [], 0⟩) ?_
  refine b_wk Wk.nilFam ?_
  refine b_loop (X := ((List (List UInt8)) × Int)) (fun x => ⟨65, [(5, .sl 1 (List.map cS x.1) (.fam 0 (List.length x.1))), (21, .sl 1 (List.map (cL 3 T_api_Attribute.cells) a0.f_RDNs) .none), (22, .int .i64 (List.length a0.f_RDNs : Int)), (23, .int .i64 x.2)]⟩) (fun x => ⟨[], [List.length x.1]⟩) (fun k x => go_dname_Encode_l1 n a0 k x.1 x.2 = some o457) (fun _ hx => by simp [go_dname_Encode_l1] at hx) n (([] : List (List UInt8)), 0) h (wk ⟨[], 0, [0], 1⟩) (fun k x h => ?_)
  obtain ⟨v610, v611⟩ := x
  rw [go_dname_Encode_l1] at h
  refine b_seq ?_
  refine reg ⟨65, [(5, .sl 1 (List.map cS v610) (.fam 0 (List.length v610))), (21, .sl 1 (List.map (cL 3 T_api_Attribute.cells) a0.f_RDNs) .none), (22, .int .i64 (List.length a0.f_RDNs : Int)), (23, .int .i64 v611), (24, .bool (decide (v611 < (List.length a0.f_RDNs : Int))))]⟩ ⟨[], [List.length v610]⟩ ?_ ?_
  ·exact kE ⟨[], 0, [0], 1⟩
  refine b_seq ?_
  refine bif_ (decide (v611 < (List.length a0.f_RDNs : Int))) (fun hb => ?_) (fun hb => ?_)
  ·replace h := ite_t hb h
   refine b_skip ?_
   refine b_seq ?_
   refine b_block ?_
   refine b_seq ?_
   obtain ⟨x862, hx862, h⟩ := bindE h
   refine reg ⟨65, [(5, .sl 1 (List.map cS v610) (.fam 0 (List.length v610))), (7, .sl 3 (List.map T_api_Attribute.cells x862) .none), (21, .sl 1 (List.map (cL 3 T_api_Attribute.cells) a0.f_RDNs) .none), (22, .int .i64 (List.length a0.f_RDNs : Int)), (23, .int .i64 v611)]⟩ ⟨[], [List.length v610]⟩ ?_ ?_
   ·refine kP 0 (x_lidx (c := (cL 3 T_api_Attribute.cells)) (e := 141) (sz := 1) (b := 24) (tok := .none) hx862) ?_
    exact kE ⟨[], 0, [0], 1⟩
   refine b_seq ?_
   refine reg ⟨65, [(5, .sl 1 (List.map cS v610) (.fam 0 (List.length v610))), (7, .sl 3 (List.map T_api_Attribute.cells x862) .none), (8, .nilsl), (21, .sl 1 (List.map (cL 3 T_api_Attribute.cells) a0.f_RDNs) .none), (22, .int .i64 (List.length a0.f_RDNs : Int)), (23, .int .i64 v611)]⟩ ⟨[], [List.length v610]⟩ ?_ ?_
   ·exact kE ⟨[], 0, [0], 1⟩
   refine b_seq ?_
   refine b_seq ?_
   refine reg ⟨65, [(5, .sl 1 (List.map cS v610) (.fam 0 (List.length v610))), (8, .nilsl), (21, .sl 1 (List.map (cL 3 T_api_Attribute.cells) a0.f_RDNs) .none), (22, .int .i64 (List.length a0.f_RDNs : Int)), (23, .int .i64 v611), (27, .sl 3 (List.map T_api_Attribute.cells x862) .none), (28, .int .i64 (List.length x862 : Int)), (29, .int .i64 0)]⟩ ⟨[], [List.length v610]⟩ ?_ ?_
   ·refine kP 1 (x_len (c := T_api_Attribute.cells) (l := x862) (e := 140) (sz := 3) (sz' := 3) (b := 40) (tok := .none)) ?_
    exact kE ⟨[], 0, [0], 1⟩
   obtain ⟨o886, hE, hr887, h⟩ := ctlE h
   refine b_blockE (Y := (List (List UInt8))) (fun y885 => ⟨65, [(5, .sl 1 (List.map cS v610) (.fam 0 (List.length v610))), (8, .sl 1 (List.map cS y885) (.fam 1 (List.length y885))), (21, .sl 1 (List.map (cL 3 T_api_Attribute.cells) a0.f_RDNs) .none), (22, .int .i64 (List.length a0.f_RDNs : Int)), (23, .int .i64 v611)]⟩) (fun y885 => ⟨[], [List.length v610, List.length y885]⟩) (fun z => o886 = .nxt z) ?_ cl_cons (fun y885 hy => ?_)
   ·replace h := hE
    refine b_wk (wk (fr' := ⟨65, [(5, .sl 1 (List.map cS v610) (.fam 0 (List.length v610))), (8, .nilsl), (21, .sl 1 (List.map (cL 3 T_api_Attribute.cells) a0.f_RDNs) .none), (22, .int .i64 (List.length a0.f_RDNs : Int)), (23, .int .i64 v611), (27, .sl 3 (List.map T_api_Attribute.cells x862) .none), (28, .int .i64 (List.length x862 : Int)), (29, .int .i64 0)]⟩) (st' := ⟨[], [List.length v610]⟩) ⟨[], 0, [0], 1⟩) ?_
    refine b_wk Wk.nilFam ?_
    refine b_loop (X := ((List (List UInt8)) × Int)) (fun x => ⟨65, [(5, .sl 1 (List.map cS v610) (.fam 0 (List.length v610))), (8, .sl 1 (List.map cS x.1) (.fam 1 (List.length x.1))), (21, .sl 1 (List.map (cL 3 T_api_Attribute.cells) a0.f_RDNs) .none), (22, .int .i64 (List.length a0.f_RDNs : Int)), (23, .int .i64 v611), (27, .sl 3 (List.map T_api_Attribute.cells x862) .none), (28, .int .i64 (List.length x862 : Int)), (29, .int .i64 x.2)]⟩) (fun x => ⟨[], [List.length v610, List.length x.1]⟩) (fun k x => go_dname_Encode_l2 n x862 k x.1 x.2 = some o886) (fun _ hx => by simp [go_dname_Encode_l2] at hx) n (([] : List (List UInt8)), 0) h (wk ⟨[], 0, [0, 1], 2⟩) (fun k x h => ?_)
    obtain ⟨v895, v896⟩ := x
    rw [go_dname_Encode_l2] at h
    refine b_seq ?_
    refine reg ⟨65, [(5, .sl 1 (List.map cS v610) (.fam 0 (List.length v610))), (8, .sl 1 (List.map cS v895) (.fam 1 (List.length v895))), (21, .sl 1 (List.map (cL 3 T_api_Attribute.cells) a0.f_RDNs) .none), (22, .int .i64 (List.length a0.f_RDNs : Int)), (23, .int .i64 v611), (27, .sl 3 (List.map T_api_Attribute.cells x862) .none), (28, .int .i64 (List.length x862 : Int)), (29, .int .i64 v896), (30, .bool (decide (v896 < (List.length x862 : Int))))]⟩ ⟨[], [List.length v610, List.length v895]⟩ ?_ ?_
    ·exact kE ⟨[], 0, [0, 1], 2⟩
    refine b_seq ?_
    refine bif_ (decide (v896 < (List.length x862 : Int))) (fun hb => ?_) (fun hb => ?_)
    ·replace h := ite_t hb h
     refine b_skip ?_
     refine b_seq ?_
     refine b_block ?_
     refine b_seq ?_
     obtain ⟨x906, hx906, h⟩ := bindE h
     refine reg ⟨65, [(5, .sl 1 (List.map cS v610) (.fam 0 (List.length v610))), (8, .sl 1 (List.map cS v895) (.fam 1 (List.length v895))), (10, .ptr 0 0), (21, .sl 1 (List.map (cL 3 T_api_Attribute.cells) a0.f_RDNs) .none), (22, .int .i64 (List.length a0.f_RDNs : Int)), (23, .int .i64 v611), (27, .sl 3 (List.map T_api_Attribute.cells x862) .none), (28, .int .i64 (List.length x862 : Int)), (29, .int .i64 v896)]⟩ ⟨[[.str x906.f_Type, .int .i64 x906.f_Kind, .str x906.f_Value]], [List.length v610, List.length v895]⟩ ?_ ?_
     ·refine kP 0 (x_lidx (c := T_api_Attribute.cells) (e := 140) (sz := 3) (b := 40) (tok := .none) hx906) ?_
      exact kE ⟨[0], 1, [0, 1], 2⟩
     refine b_seq ?_
     obtain ⟨r907, hr907, h⟩ := bindE h
     refine reg ⟨65, [(5, .sl 1 (List.map cS v610) (.fam 0 (List.length v610))), (8, .sl 1 (List.map cS v895) (.fam 1 (List.length v895))), (11, .str r907.1), (12, .int .i64 r907.2), (21, .sl 1 (List.map (cL 3 T_api_Attribute.cells) a0.f_RDNs) .none), (22, .int .i64 (List.length a0.f_RDNs : Int)), (23, .int .i64 v611), (27, .sl 3 (List.map T_api_Attribute.cells x862) .none), (28, .int .i64 (List.length x862 : Int)), (29, .int .i64 v896)]⟩ ⟨[], [List.length v610, List.length v895]⟩ ?_ ?_
     ·refine kC 1 ⟨[], 1, [], 2⟩ (go_dname_encodeAttribute_ok hr907) ?_
      exact kE ⟨[], 1, [0, 1], 2⟩
     refine b_seq ?_
     refine b_seq ?_
     refine reg ⟨65, [(5, .sl 1 (List.map cS v610) (.fam 0 (List.length v610))), (8, .sl 1 (List.map cS v895) (.fam 1 (List.length v895))), (11, .str r907.1), (12, .int .i64 r907.2), (21, .sl 1 (List.map (cL 3 T_api_Attribute.cells) a0.f_RDNs) .none), (22, .int .i64 (List.length a0.f_RDNs : Int)), (23, .int .i64 v611), (27, .sl 3 (List.map T_api_Attribute.cells x862) .none), (28, .int .i64 (List.length x862 : Int)), (29, .int .i64 v896), (39, .bool (r907.2 != 0))]⟩ ⟨[], [List.length v610, List.length v895]⟩ ?_ ?_
     ·exact kE ⟨[], 0, [0, 1], 2⟩
     refine bif_ (r907.2 != 0) (fun hb => ?_) (fun hb => ?_)
     ·replace h := ite_t hb h
      refine b_seq ?_
      refine reg ⟨65, [(2, .str ([] : List UInt8)), (3, .int .i64 r907.2)]⟩ ⟨[], []⟩ ?_ ?_
      ·exact kE ⟨[], 0, [], 2⟩
      refine b_ret ?_
      refine bk_ret ?_
      refine tk_ret ?_
      replace h := hr887 _ (Option.some.inj h).symm
      refine bl_ret ?_
      refine bk_ret ?_
      refine tk_ret ?_
      replace h := hr458 _ (Option.some.inj h).symm
      refine bl_ret ?_
      obtain rfl := Option.some.inj h
      exact rtn ⟨[], 0, [], 0⟩ (.inr rfl)
     replace h := ite_f hb h
     refine b_skip ?_
     obtain ⟨x908, hx908, h⟩ := bindE h
     refine regN ⟨65, [(5, .sl 1 (List.map cS v610) (.fam 0 (List.length v610))), (8, .sl 1 (List.map cS x908) (.fam 1 (List.length x908))), (21, .sl 1 (List.map (cL 3 T_api_Attribute.cells) a0.f_RDNs) .none), (22, .int .i64 (List.length a0.f_RDNs : Int)), (23, .int .i64 v611), (27, .sl 3 (List.map T_api_Attribute.cells x862) .none), (28, .int .i64 (List.length x862 : Int)), (29, .int .i64 v896)]⟩ ⟨[], [List.length v610, List.length x908]⟩ cl_cons ?_ ?_
     ·refine kA 3 1 cS (e := 9) (e2 := 9) (sz := 1) (bytes := 16) (b2 := 16) (tok2 := .exact) hx908 ?_
      exact kE ⟨[], 0, [0, 1], 2⟩
     refine bk_norm ?_
     refine regN ⟨65, [(5, .sl 1 (List.map cS v610) (.fam 0 (List.length v610))), (8, .sl 1 (List.map cS x908) (.fam 1 (List.length x908))), (21, .sl 1 (List.map (cL 3 T_api_Attribute.cells) a0.f_RDNs) .none), (22, .int .i64 (List.length a0.f_RDNs : Int)), (23, .int .i64 v611), (27, .sl 3 (List.map T_api_Attribute.cells x862) .none), (28, .int .i64 (List.length x862 : Int)), (29, .int .i64 (IntKind.wrap .i64 (v896 + 1)))]⟩ ⟨[], [List.length v610, List.length x908]⟩ cl_loopT ?_ ?_
     ·exact kE ⟨[], 0, [0, 1], 2⟩
     exact ⟨(x908, IntKind.wrap .i64 (v896 + 1)), h, wk ⟨[], 0, [0, 1], 2⟩⟩
    replace h := ite_f hb h
    refine b_exit ?_
    refine tk_exit ?_
    refine bl_exit ?_
    exact ⟨v895, (Option.some.inj h).symm, wk ⟨[], 0, [0, 1], 2⟩⟩
   replace h := h _ hy
   refine b_seq ?_
   obtain ⟨r909, hr909, h⟩ := bindE h
   obtain ⟨r910, hr910, h⟩ := bindE h
   refine reg ⟨65, [(5, .sl 1 (List.map cS v610) (.fam 0 (List.length v610))), (13, .str r910.1), (14, .int .i64 r910.2), (21, .sl 1 (List.map (cL 3 T_api_Attribute.cells) a0.f_RDNs) .none), (22, .int .i64 (List.length a0.f_RDNs : Int)), (23, .int .i64 v611)]⟩ ⟨[], [List.length v610]⟩ ?_ ?_
   ·refine kC 1 ⟨[], 0, [], 2⟩ (go_tlv_Order_ok hr909) ?_
    refine kC 3 ⟨[], 0, [], 2⟩ (go_tlv_Wrap_ok hr910) ?_
    exact kE ⟨[], 0, [0], 2⟩
   refine b_seq ?_
   refine b_seq ?_
   refine reg ⟨65, [(5, .sl 1 (List.map cS v610) (.fam 0 (List.length v610))), (13, .str r910.1), (14, .int .i64 r910.2), (21, .sl 1 (List.map (cL 3 T_api_Attribute.cells) a0.f_RDNs) .none), (22, .int .i64 (List.length a0.f_RDNs : Int)), (23, .int .i64 v611), (54, .bool (r910.2 != 0))]⟩ ⟨[], [List.length v610]⟩ ?_ ?_
   ·exact kE ⟨[], 0, [0], 1⟩
   refine bif_ (r910.2 != 0) (fun hb => ?_) (fun hb => ?_)
   ·replace h := ite_t hb h
    refine b_seq ?_
    refine reg ⟨65, [(2, .str ([] : List UInt8)), (3, .int .i64 r910.2)]⟩ ⟨[], []⟩ ?_ ?_
    ·exact kE ⟨[], 0, [], 1⟩
    refine b_ret ?_
    refine bk_ret ?_
    refine tk_ret ?_
    replace h := hr458 _ (Option.some.inj h).symm
    refine bl_ret ?_
    obtain rfl := Option.some.inj h
    exact rtn ⟨[], 0, [], 0⟩ (.inr rfl)
   replace h := ite_f hb h
   refine b_skip ?_
   obtain ⟨x911, hx911, h⟩ := bindE h
   refine regN ⟨65, [(5, .sl 1 (List.map cS x911) (.fam 0 (List.length x911))), (21, .sl 1 (List.map (cL 3 T_api_Attribute.cells) a0.f_RDNs) .none), (22, .int .i64 (List.length a0.f_RDNs : Int)), (23, .int .i64 v611)]⟩ ⟨[], [List.length x911]⟩ cl_cons ?_ ?_
   ·refine kA 3 0 cS (e := 9) (e2 := 9) (sz := 1) (bytes := 16) (b2 := 16) (tok2 := .exact) hx911 ?_
    exact kE ⟨[], 0, [0], 1⟩
   refine bk_norm ?_
   refine regN ⟨65, [(5, .sl 1 (List.map cS x911) (.fam 0 (List.length x911))), (21, .sl 1 (List.map (cL 3 T_api_Attribute.cells) a0.f_RDNs) .none), (22, .int .i64 (List.length a0.f_RDNs : Int)), (23, .int .i64 (IntKind.wrap .i64 (v611 + 1)))]⟩ ⟨[], [List.length x911]⟩ cl_loopT ?_ ?_
   ·exact kE ⟨[], 0, [0], 1⟩
   exact ⟨(x911, IntKind.wrap .i64 (v611 + 1)), h, wk ⟨[], 0, [0], 1⟩⟩
  replace h := ite_f hb h
  refine b_exit ?_
  refine tk_exit ?_
  refine bl_exit ?_
  exact ⟨v610, (Option.some.inj h).symm, wk ⟨[], 0, [0], 1⟩⟩
 replace h := h _ hy
 refine b_seq ?_
 obtain ⟨r912, hr912, h⟩ := bindE h
 refine reg ⟨65, [(2, .str r912.1), (3, .int .i64 r912.2)]⟩ ⟨[], []⟩ ?_ ?_
 ·refine kC 1 ⟨[], 0, [], 1⟩ (go_tlv_Wrap_ok hr912) ?_
  exact kE ⟨[], 0, [], 1⟩
 refine b_ret ?_
 obtain rfl := Option.some.inj h
 exact rtn ⟨[], 0, [], 0⟩ (.inr rfl)
def go_gname_Encode (n : Nat) (a0 : T_api_GeneralName) (a1 : Bool) : Option ((List UInt8) × Int) :=
 (go_gname_Check n (T_api_GeneralName.mk a0.f_Kind a0.f_Text (T_api_Name.mk a0.f_Name.f_RDNs)) a1).bind fun r1 =>
 if (r1 != 0) = true then (some (([] : List UInt8), r1)) else (if (a0.f_Kind != 4) = true then ((go_tlv_Wrap n (IntKind.wrap .i64 ((128 : Int) + a0.f_Kind)) ([a0.f_Text] : List (List UInt8))).bind fun r2 =>
 some (r2.1, r2.2)) else ((go_dname_Encode n (T_api_Name.mk a0.f_Name.f_RDNs)).bind fun r3 =>
 if (r3.2 != 0) = true then (some (([] : List UInt8), r3.2)) else ((go_tlv_Wrap n (IntKind.wrap .i64 ((160 : Int) + a0.f_Kind)) ([r3.1] : List (List UInt8))).bind fun r4 =>
 some (r4.1, r4.2))))
theorem go_gname_Encode_ok {n : Nat} {a0 : T_api_GeneralName} {a1 : Bool} {r : ((List UInt8) × Int)} (h : go_gname_Encode n a0 a1 = some r) : ACalls Tryz.prog (gl0 mx) 121 [.agg [.int .i64 a0.f_Kind, .str a0.f_Text, .sl 1 (List.map (cL 3 T_api_Attribute.cells) a0.f_Name.f_RDNs) .none], .bool a1] ⟨[], []⟩ (Out (.tuple [.str r.1, .int .i64 r.2]) ⟨[], []⟩) := by
 delta go_gname_Encode at h
 refine fnc Tryz.func121 rfl ?_
 refine b_seq ?_
 refine reg ⟨44, [(1, .bool a1), (2, .ptr 0 0)]⟩ ⟨[[.int .i64 a0.f_Kind, .str a0.f_Text, .sl 1 (List.map (cL 3 T_api_Attribute.cells) a0.f_Name.f_RDNs) .none]], []⟩ ?_ ?_
 ·exact kE ⟨[0], 1, [], 0⟩
 refine b_seq ?_
 refine b_seq ?_
 obtain ⟨r1, hr1, h⟩ := bindE h
 refine reg ⟨44, [(2, .ptr 0 0), (6, .int .i64 r1)]⟩ ⟨[[.int .i64 a0.f_Kind, .str a0.f_Text, .sl 1 (List.map (cL 3 T_api_Attribute.cells) a0.f_Name.f_RDNs) .none]], []⟩ ?_ ?_
 ·refine kC 2 ⟨[], 1, [], 0⟩ (go_gname_Check_ok hr1) ?_
  exact kE ⟨[0], 1, [], 0⟩
 refine b_seq ?_
 refine reg ⟨44, [(2, .ptr 0 0), (6, .int .i64 r1), (13, .bool (r1 != 0))]⟩ ⟨[[.int .i64 a0.f_Kind, .str a0.f_Text, .sl 1 (List.map (cL 3 T_api_Attribute.cells) a0.f_Name.f_RDNs) .none]], []⟩ ?_ ?_
 ·exact kE ⟨[0], 1, [], 0⟩
 refine bif_ (r1 != 0) (fun hb => ?_) (fun hb => ?_)
 ·replace h := ite_t hb h
  refine b_seq ?_
  refine reg ⟨44, [(4, .str ([] : List UInt8)), (5, .int .i64 r1)]⟩ ⟨[], []⟩ ?_ ?_
  ·exact kE ⟨[], 1, [], 0⟩
  refine b_ret ?_
  obtain rfl := Option.some.inj h
  exact rtn ⟨[], 0, [], 0⟩ (.inr rfl)
 replace h := ite_f hb h
 refine b_skip ?_
 refine b_seq ?_
 refine b_seq ?_
 refine reg ⟨44, [(2, .ptr 0 0), (17, .bool (a0.f_Kind != 4))]⟩ ⟨[[.int .i64 a0.f_Kind, .str a0.f_Text, .sl 1 (List.map (cL 3 T_api_Attribute.cells) a0.f_Name.f_RDNs) .none]], []⟩ ?_ ?_
 ·exact kE ⟨[0], 1, [], 0⟩
 refine bif_ (a0.f_Kind != 4) (fun hb => ?_) (fun hb => ?_)
 ·replace h := ite_t hb h
  refine b_seq ?_
  obtain ⟨r2, hr2, h⟩ := bindE h
  refine reg ⟨44, [(4, .str r2.1), (5, .int .i64 r2.2)]⟩ ⟨[], []⟩ ?_ ?_
  ·refine kC 6 ⟨[], 1, [], 0⟩ (go_tlv_Wrap_ok hr2) ?_
   exact kE ⟨[], 1, [], 0⟩
  refine b_ret ?_
  obtain rfl := Option.some.inj h
  exact rtn ⟨[], 0, [], 0⟩ (.inr rfl)
 replace h := ite_f hb h
 refine b_skip ?_
 refine b_seq ?_
 obtain ⟨r3, hr3, h⟩ := bindE h
 refine reg ⟨44, [(2, .ptr 0 0), (7, .str r3.1), (8, .int .i64 r3.2)]⟩ ⟨[[.int .i64 a0.f_Kind, .str a0.f_Text, .sl 1 (List.map (cL 3 T_api_Attribute.cells) a0.f_Name.f_RDNs) .none]], []⟩ ?_ ?_
 ·refine kC 2 ⟨[], 1, [], 0⟩ (go_dname_Encode_ok hr3) ?_
  exact kE ⟨[0], 1, [], 0⟩
 refine b_seq ?_
 refine b_seq ?_
 refine reg ⟨44, [(2, .ptr 0 0), (7, .str r3.1), (8, .int .i64 r3.2), (34, .bool (r3.2 != 0))]⟩ ⟨[[.int .i64 a0.f_Kind, .str a0.f_Text, .sl 1 (List.map (cL 3 T_api_Attribute.cells) a0.f_Name.f_RDNs) .none]], []⟩ ?_ ?_
 ·exact kE ⟨[0], 1, [], 0⟩
 refine bif_ (r3.2 != 0) (fun hb => ?_) (fun hb => ?_)
 ·replace h := ite_t hb h
  refine b_seq ?_
  refine reg ⟨44, [(4, .str ([] : List UInt8)), (5, .int .i64 r3.2)]⟩ ⟨[], []⟩ ?_ ?_
  ·exact kE ⟨[], 1, [], 0⟩
  refine b_ret ?_
  obtain rfl := Option.some.inj h
  exact rtn ⟨[], 0, [], 0⟩ (.inr rfl)
 replace h := ite_f hb h
 refine b_skip ?_
 refine b_seq ?_
 obtain ⟨r4, hr4, h⟩ := bindE h
 refine reg ⟨44, [(4, .str r4.1), (5, .int .i64 r4.2)]⟩ ⟨[], []⟩ ?_ ?_
 ·refine kC 5 ⟨[], 1, [], 0⟩ (go_tlv_Wrap_ok hr4) ?_
  exact kE ⟨[], 1, [], 0⟩
 refine b_ret ?_
 obtain rfl := Option.some.inj h
 exact rtn ⟨[], 0, [], 0⟩ (.inr rfl)
def go_gname_EncodeList_l1 (n : Nat) (a0 : (List T_api_GeneralName)) : Nat → (List UInt8) → Int → Option (Ctl ((List UInt8) × Int) (List UInt8))
 | 0, _, _ => none
 | k + 1, v32, v33 =>
  if (decide (v33 < (List.length a0 : Int))) = true then ((lidx a0 v33).bind fun x43 =>
  (go_gname_Encode n (T_api_GeneralName.mk x43.f_Kind x43.f_Text (T_api_Name.mk x43.f_Name.f_RDNs)) false).bind fun r44 =>
  if (r44.2 != 0) = true then (some (.ret (([] : List UInt8), r44.2))) else ((sadd v32 r44.1).bind fun x45 =>
  go_gname_EncodeList_l1 n a0 k x45 (IntKind.wrap .i64 (v33 + 1)))) else (some (.nxt v32))
def go_gname_EncodeList (n : Nat) (a0 : (List T_api_GeneralName)) : Option ((List UInt8) × Int) :=
 (go_gname_count n (List.length a0 : Int)).bind fun r1 =>
 if (r1 != 0) = true then (some (([] : List UInt8), r1)) else (ctlB (go_gname_EncodeList_l1 n a0 n ([] : List UInt8) 0) (fun r => some r) (fun y23 =>
 some (y23, 0)))
theorem go_gname_EncodeList_ok {n : Nat} {a0 : (List T_api_GeneralName)} {r : ((List UInt8) × Int)} (h : go_gname_EncodeList n a0 = some r) : ACalls Tryz.prog (gl0 mx) 51 [.sl 3 (List.map T_api_GeneralName.cells a0) .none] ⟨[], []⟩ (Out (.tuple [.str r.1, .int .i64 r.2]) ⟨[], []⟩) := by
 delta go_gname_EncodeList at h
 refine fnc Tryz.func51 rfl ?_
 refine b_seq ?_
 refine reg ⟨35, [(0, .sl 3 (List.map T_api_GeneralName.cells a0) .none)]⟩ ⟨[], []⟩ ?_ ?_
 ·exact kE ⟨[], 0, [], 0⟩
 refine b_seq ?_
 refine b_seq ?_
 obtain ⟨r1, hr1, h⟩ := bindE h
 refine reg ⟨35, [(0, .sl 3 (List.map T_api_GeneralName.cells a0) .none), (4, .int .i64 r1)]⟩ ⟨[], []⟩ ?_ ?_
 ·refine kP 1 (x_len (c := T_api_GeneralName.cells) (l := a0) (e := 59) (sz := 3) (sz' := 3) (b := 48) (tok := .none)) ?_
  refine kC 2 ⟨[], 0, [], 0⟩ (go_gname_count_ok hr1) ?_
  exact kE ⟨[], 0, [], 0⟩
 refine b_seq ?_
 refine reg ⟨35, [(0, .sl 3 (List.map T_api_GeneralName.cells a0) .none), (4, .int .i64 r1), (14, .bool (r1 != 0))]⟩ ⟨[], []⟩ ?_ ?_
 ·exact kE ⟨[], 0, [], 0⟩
 refine bif_ (r1 != 0) (fun hb => ?_) (fun hb => ?_)
 ·replace h := ite_t hb h
  refine b_seq ?_
  refine reg ⟨35, [(2, .str ([] : List UInt8)), (3, .int .i64 r1)]⟩ ⟨[], []⟩ ?_ ?_
  ·exact kE ⟨[], 0, [], 0⟩
  refine b_ret ?_
  obtain rfl := Option.some.inj h
  exact rtn ⟨[], 0, [], 0⟩ (.inr rfl)
 replace h := ite_f hb h
 refine b_skip ?_
 refine b_seq ?_
 refine reg ⟨35, [(0, .sl 3 (List.map T_api_GeneralName.cells a0) .none), (5, .str ([] : List UInt8))]⟩ ⟨[], []⟩ ?_ ?_
 ·exact kE ⟨[], 0, [], 0⟩
 refine b_seq ?_
 refine b_seq ?_
 refine reg ⟨35, [(5, .str ([] : List UInt8)), (16, .sl 3 (List.map T_api_GeneralName.cells a0) .none), (17, .int .i64 (List.length a0 : Int)), (18, .int .i64 0)]⟩ ⟨[], []⟩ ?_ ?_
 ·refine kP 1 (x_len (c := T_api_GeneralName.cells) (l := a0) (e := 59) (sz := 3) (sz' := 3) (b := 48) (tok := .none)) ?_
  exact kE ⟨[], 0, [], 0⟩
 obtain ⟨o24, hE, hr25, h⟩ := ctlE h
 refine b_blockE (Y := (List UInt8)) (fun y23 => ⟨35, [(5, .str y23)]⟩) (fun y23 => ⟨[], []⟩) (fun z => o24 = .nxt z) ?_ cl_cons (fun y23 hy => ?_)
 ·replace h := hE
  refine b_loop (X := ((List UInt8) × Int)) (fun x => ⟨35, [(5, .str x.1), (16, .sl 3 (List.map T_api_GeneralName.cells a0) .none), (17, .int .i64 (List.length a0 : Int)), (18, .int .i64 x.2)]⟩) (fun x => ⟨[], []⟩) (fun k x => go_gname_EncodeList_l1 n a0 k x.1 x.2 = some o24) (fun _ hx => by simp [go_gname_EncodeList_l1] at hx) n (([] : List UInt8), 0) h (wk ⟨[], 0, [], 0⟩) (fun k x h => ?_)
  obtain ⟨v32, v33⟩ := x
  rw [go_gname_EncodeList_l1] at h
  refine b_seq ?_
  refine reg ⟨35, [(5, .str v32), (16, .sl 3 (List.map T_api_GeneralName.cells a0) .none), (17, .int .i64 (List.length a0 : Int)), (18, .int .i64 v33), (19, .bool (decide (v33 < (List.length a0 : Int))))]⟩ ⟨[], []⟩ ?_ ?_
  ·exact kE ⟨[], 0, [], 0⟩
  refine b_seq ?_
  refine bif_ (decide (v33 < (List.length a0 : Int))) (fun hb => ?_) (fun hb => ?_)
  ·replace h := ite_t hb h
   refine b_skip ?_
   refine b_seq ?_
   refine b_block ?_
   refine b_seq ?_
   obtain ⟨x43, hx43, h⟩ := bindE h
   refine reg ⟨35, [(5, .str v32), (7, .ptr 0 0), (16, .sl 3 (List.map T_api_GeneralName.cells a0) .none), (17, .int .i64 (List.length a0 : Int)), (18, .int .i64 v33)]⟩ ⟨[[.int .i64 x43.f_Kind, .str x43.f_Text, .sl 1 (List.map (cL 3 T_api_Attribute.cells) x43.f_Name.f_RDNs) .none]], []⟩ ?_ ?_
   ·refine kP 0 (x_lidx (c := T_api_GeneralName.cells) (e := 59) (sz := 3) (b := 48) (tok := .none) hx43) ?_
    exact kE ⟨[0], 1, [], 0⟩
   refine b_seq ?_
   obtain ⟨r44, hr44, h⟩ := bindE h
   refine reg ⟨35, [(5, .str v32), (8, .str r44.1), (9, .int .i64 r44.2), (16, .sl 3 (List.map T_api_GeneralName.cells a0) .none), (17, .int .i64 (List.length a0 : Int)), (18, .int .i64 v33)]⟩ ⟨[], []⟩ ?_ ?_
   ·refine kC 1 ⟨[], 1, [], 0⟩ (go_gname_Encode_ok hr44) ?_
    exact kE ⟨[], 1, [], 0⟩
   refine b_seq ?_
   refine b_seq ?_
   refine reg ⟨35, [(5, .str v32), (8, .str r44.1), (9, .int .i64 r44.2), (16, .sl 3 (List.map T_api_GeneralName.cells a0) .none), (17, .int .i64 (List.length a0 : Int)), (18, .int .i64 v33), (28, .bool (r44.2 != 0))]⟩ ⟨[], []⟩ ?_ ?_
   ·exact kE ⟨[], 0, [], 0⟩
   refine bif_ (r44.2 != 0) (fun hb => ?_) (fun hb => ?_)
   ·replace h := ite_t hb h
    refine b_seq ?_
    refine reg ⟨35, [(2, .str ([] : List UInt8)), (3, .int .i64 r44.2)]⟩ ⟨[], []⟩ ?_ ?_
    ·exact kE ⟨[], 0, [], 0⟩
    refine b_ret ?_
    refine bk_ret ?_
    refine tk_ret ?_
    replace h := hr25 _ (Option.some.inj h).symm
    refine bl_ret ?_
    obtain rfl := Option.some.inj h
    exact rtn ⟨[], 0, [], 0⟩ (.inr rfl)
   replace h := ite_f hb h
   refine b_skip ?_
   obtain ⟨x45, hx45, h⟩ := bindE h
   refine regN ⟨35, [(5, .str x45), (16, .sl 3 (List.map T_api_GeneralName.cells a0) .none), (17, .int .i64 (List.length a0 : Int)), (18, .int .i64 v33)]⟩ ⟨[], []⟩ cl_cons ?_ ?_
   ·refine kP 2 (x_sadd (d := (tyT 9).d) hx45) ?_
    exact kE ⟨[], 0, [], 0⟩
   refine bk_norm ?_
   refine regN ⟨35, [(5, .str x45), (16, .sl 3 (List.map T_api_GeneralName.cells a0) .none), (17, .int .i64 (List.length a0 : Int)), (18, .int .i64 (IntKind.wrap .i64 (v33 + 1)))]⟩ ⟨[], []⟩ cl_loopT ?_ ?_
   ·exact kE ⟨[], 0, [], 0⟩
   exact ⟨(x45, IntKind.wrap .i64 (v33 + 1)), h, wk ⟨[], 0, [], 0⟩⟩
  replace h := ite_f hb h
  refine b_exit ?_
  refine tk_exit ?_
  refine bl_exit ?_
  exact ⟨v32, (Option.some.inj h).symm, wk ⟨[], 0, [], 0⟩⟩
 replace h := h _ hy
 refine b_seq ?_
 refine reg ⟨35, [(2, .str y23), (3, .int .i64 0)]⟩ ⟨[], []⟩ ?_ ?_
 ·exact kE ⟨[], 0, [], 0⟩
 refine b_ret ?_
 obtain rfl := Option.some.inj h
 exact rtn ⟨[], 0, [], 0⟩ (.inr rfl)
def go_prim_PutInteger_l1 (n : Nat) : Nat → Int → Int → Option Int
 | 0, _, _ => none
 | k + 1, v14, v15 =>
  (if (decide (v15 < (-128))) = true then (some true) else (some (decide (v15 > 127)))).bind fun y19 =>
  if y19 = true then (go_prim_PutInteger_l1 n k (IntKind.wrap .i64 (v14 + 1)) (Int.fdiv v15 256)) else (some v14)
def go_prim_PutInteger_l2 (n : Nat) (y10 : Int) (a0 : Int) : Nat → (List Int) → Int → Option (List Int)
 | 0, _, _ => none
 | k + 1, v43, v44 =>
  if (decide (v44 < y10)) = true then ((ishr .i64 a0 (IntKind.wrap .u64 ((8 : Int) * (IntKind.wrap .u64 (IntKind.wrap .i64 ((IntKind.wrap .i64 (y10 - 1)) - v44)))))).bind fun x51 =>
  (lapp 1 v43 ([IntKind.wrap .u8 x51] : List Int)).bind fun x52 =>
  go_prim_PutInteger_l2 n y10 a0 k x52 (IntKind.wrap .i64 (v44 + 1))) else (some v43)
def go_prim_PutInteger (n : Nat) (a0 : Int) : Option (List UInt8) :=
 (go_prim_PutInteger_l1 n  n 1 a0).bind fun y10 =>
 (go_prim_PutInteger_l2 n y10 a0 n ([] : List Int) 0).bind fun y36 =>
 some (b2s y36)
theorem go_prim_PutInteger_ok {n : Nat} {a0 : Int} {r : (List UInt8)} (h : go_prim_PutInteger n a0 = some r) : ACalls Tryz.prog (gl0 mx) 157 [.int .i64 a0] ⟨[], []⟩ (Out (.str r) ⟨[], []⟩) := by
 delta go_prim_PutInteger at h
 refine fnc Tryz.func157 rfl ?_
 refine b_seq ?_
 refine reg ⟨37, [(0, .int .i64 a0)]⟩ ⟨[], []⟩ ?_ ?_
 ·exact kE ⟨[], 0, [], 0⟩
 refine b_seq ?_
 refine reg ⟨37, [(0, .int .i64 a0), (3, .int .i64 1)]⟩ ⟨[], []⟩ ?_ ?_
 ·exact kE ⟨[], 0, [], 0⟩
 refine b_seq ?_
 refine b_seq ?_
 refine reg ⟨37, [(0, .int .i64 a0), (3, .int .i64 1), (4, .int .i64 a0)]⟩ ⟨[], []⟩ ?_ ?_
 ·exact kE ⟨[], 0, [], 0⟩
 obtain ⟨y10, hE, h⟩ := bindE h
 refine b_blockE (Y := Int) (fun y10 => ⟨37, [(0, .int .i64 a0), (3, .int .i64 y10)]⟩) (fun y10 => ⟨[], []⟩) (fun z => y10 = z) ?_ cl_cons (fun z hz => ?_)
 ·replace h := hE
  refine b_loop (X := (Int × Int)) (fun x => ⟨37, [(0, .int .i64 a0), (3, .int .i64 x.1), (4, .int .i64 x.2)]⟩) (fun x => ⟨[], []⟩) (fun k x => go_prim_PutInteger_l1 n  k x.1 x.2 = some y10) (fun _ hx => by simp [go_prim_PutInteger_l1] at hx) n (1, a0) h (wk ⟨[], 0, [], 0⟩) (fun k x h => ?_)
  obtain ⟨v14, v15⟩ := x
  rw [go_prim_PutInteger_l1] at h
  refine b_seq ?_
  refine b_seq ?_
  obtain ⟨y19, hE, h⟩ := bindE h
  refine reg ⟨37, [(0, .int .i64 a0), (3, .int .i64 v14), (4, .int .i64 v15), (13, .bool y19)]⟩ ⟨[], []⟩ ?_ ?_
  ·replace h := hE
   refine kG 3 10 (decide (v15 < (-128))) (fun hb => ?_) (fun hb => ?_)
   ·have h := ite_t hb h
    obtain rfl := Option.some.inj h
    exact kE ⟨[], 0, [], 0⟩
   have h := ite_f hb h
   obtain rfl := Option.some.inj h
   exact kE ⟨[], 0, [], 0⟩
  refine bif_ (y19) (fun hb => ?_) (fun hb => ?_)
  ·replace h := ite_t hb h
   refine b_skip ?_
   refine b_seq ?_
   refine b_block ?_
   refine regN ⟨37, [(0, .int .i64 a0), (3, .int .i64 (IntKind.wrap .i64 (v14 + 1))), (4, .int .i64 v15)]⟩ ⟨[], []⟩ cl_cons ?_ ?_
   ·exact kE ⟨[], 0, [], 0⟩
   refine bk_norm ?_
   refine regN ⟨37, [(0, .int .i64 a0), (3, .int .i64 (IntKind.wrap .i64 (v14 + 1))), (4, .int .i64 (Int.fdiv v15 256))]⟩ ⟨[], []⟩ cl_loopT ?_ ?_
   ·exact kE ⟨[], 0, [], 0⟩
   exact ⟨(IntKind.wrap .i64 (v14 + 1), Int.fdiv v15 256), h, wk ⟨[], 0, [], 0⟩⟩
  replace h := ite_f hb h
  refine b_exit ?_
  refine tk_exit ?_
  refine bl_exit ?_
  exact ⟨v14, (Option.some.inj h).symm, wk ⟨[], 0, [], 0⟩⟩
 subst hz
 refine b_seq ?_
 refine reg ⟨37, [(0, .int .i64 a0), (3, .int .i64 y10), (5, .nilsl)]⟩ ⟨[], []⟩ ?_ ?_
 ·exact kE ⟨[], 0, [], 0⟩
 refine b_seq ?_
 refine b_seq ?_
 refine reg ⟨37, [(0, .int .i64 a0), (3, .int .i64 y10), (5, .nilsl), (18, .int .i64 y10), (19, .int .i64 0)]⟩ ⟨[], []⟩ ?_ ?_
 ·exact kE ⟨[], 0, [], 0⟩
 obtain ⟨y36, hE, h⟩ := bindE h
 refine b_blockE (Y := (List Int)) (fun y36 => ⟨37, [(5, .sl 1 (List.map (cI .u8) y36) (.fam 0 (List.length y36)))]⟩) (fun y36 => ⟨[], [List.length y36]⟩) (fun z => y36 = z) ?_ cl_cons (fun z hz => ?_)
 ·replace h := hE
  refine b_wk (wk (fr' := ⟨37, [(0, .int .i64 a0), (3, .int .i64 y10), (5, .nilsl), (18, .int .i64 y10), (19, .int .i64 0)]⟩) (st' := ⟨[], []⟩) ⟨[], 0, [], 0⟩) ?_
  refine b_wk Wk.nilFam ?_
  refine b_loop (X := ((List Int) × Int)) (fun x => ⟨37, [(0, .int .i64 a0), (3, .int .i64 y10), (5, .sl 1 (List.map (cI .u8) x.1) (.fam 0 (List.length x.1))), (18, .int .i64 y10), (19, .int .i64 x.2)]⟩) (fun x => ⟨[], [List.length x.1]⟩) (fun k x => go_prim_PutInteger_l2 n y10 a0 k x.1 x.2 = some y36) (fun _ hx => by simp [go_prim_PutInteger_l2] at hx) n (([] : List Int), 0) h (wk ⟨[], 0, [0], 1⟩) (fun k x h => ?_)
  obtain ⟨v43, v44⟩ := x
  rw [go_prim_PutInteger_l2] at h
  refine b_seq ?_
  refine reg ⟨37, [(0, .int .i64 a0), (3, .int .i64 y10), (5, .sl 1 (List.map (cI .u8) v43) (.fam 0 (List.length v43))), (18, .int .i64 y10), (19, .int .i64 v44), (20, .bool (decide (v44 < y10)))]⟩ ⟨[], [List.length v43]⟩ ?_ ?_
  ·exact kE ⟨[], 0, [0], 1⟩
  refine b_seq ?_
  refine bif_ (decide (v44 < y10)) (fun hb => ?_) (fun hb => ?_)
  ·replace h := ite_t hb h
   refine b_skip ?_
   refine b_seq ?_
   refine b_block ?_
   refine b_seq ?_
   refine reg ⟨37, [(0, .int .i64 a0), (3, .int .i64 y10), (5, .sl 1 (List.map (cI .u8) v43) (.fam 0 (List.length v43))), (6, .int .i64 v44), (18, .int .i64 y10), (19, .int .i64 v44)]⟩ ⟨[], [List.length v43]⟩ ?_ ?_
   ·exact kE ⟨[], 0, [0], 1⟩
   obtain ⟨x51, hx51, h⟩ := bindE h
   obtain ⟨x52, hx52, h⟩ := bindE h
   refine regN ⟨37, [(0, .int .i64 a0), (3, .int .i64 y10), (5, .sl 1 (List.map (cI .u8) x52) (.fam 0 (List.length x52))), (18, .int .i64 y10), (19, .int .i64 v44)]⟩ ⟨[], [List.length x52]⟩ cl_cons ?_ ?_
   ·refine kP 8 (x_ishr (k := .i64) (d := (tyT 3).d) (k' := .u64) hx51) ?_
    refine kA 11 0 (cI .u8) (e := 5) (e2 := 5) (sz := 1) (bytes := 1) (b2 := 1) (tok2 := .exact) hx52 ?_
    exact kE ⟨[], 0, [0], 1⟩
   refine bk_norm ?_
   refine regN ⟨37, [(0, .int .i64 a0), (3, .int .i64 y10), (5, .sl 1 (List.map (cI .u8) x52) (.fam 0 (List.length x52))), (18, .int .i64 y10), (19, .int .i64 (IntKind.wrap .i64 (v44 + 1)))]⟩ ⟨[], [List.length x52]⟩ cl_loopT ?_ ?_
   ·exact kE ⟨[], 0, [0], 1⟩
   exact ⟨(x52, IntKind.wrap .i64 (v44 + 1)), h, wk ⟨[], 0, [0], 1⟩⟩
  replace h := ite_f hb h
  refine b_exit ?_
  refine tk_exit ?_
  refine bl_exit ?_
  exact ⟨v43, (Option.some.inj h).symm, wk ⟨[], 0, [0], 1⟩⟩
 subst hz
 refine b_seq ?_
 refine reg ⟨37, [(2, .str (b2s y36))]⟩ ⟨[], []⟩ ?_ ?_
 ·refine kB 1 y36 ?_
  exact kE ⟨[], 0, [], 1⟩
 refine b_ret ?_
 obtain rfl := Option.some.inj h
 exact rtn ⟨[], 0, [], 0⟩ (.inr rfl)
def go_wire_buffer_integer (n : Nat) (a1 : Int) (a2 : Int) (m0 : T_wire_buffer) : Option T_wire_buffer :=
 (go_prim_PutInteger n a2).bind fun r1 =>
 (go_wire_buffer_element n a1 r1 m0).bind fun r2 =>
 some r2
theorem go_wire_buffer_integer_ok {n : Nat} {a1 : Int} {a2 : Int} {m0 : T_wire_buffer} {r : T_wire_buffer} (h : go_wire_buffer_integer n a1 a2 m0 = some r) : ACalls Tryz.prog (gl0 mx) 91 [.ptr 0 0, .int .i64 a1, .int .i64 a2] ⟨[[.str m0.f_b, .int .i64 m0.f_e]], []⟩ (Out (.tuple []) ⟨[[.str r.f_b, .int .i64 r.f_e]], []⟩) := by
 delta go_wire_buffer_integer at h
 refine fnc Tryz.func91 rfl ?_
 obtain ⟨r1, hr1, h⟩ := bindE h
 obtain ⟨r2, hr2, h⟩ := bindE h
 refine regN ⟨11, []⟩ ⟨[[.str r2.f_b, .int .i64 r2.f_e]], []⟩ cl_body ?_ ?_
 ·refine kC 3 ⟨[], 1, [], 0⟩ (go_prim_PutInteger_ok hr1) ?_
  refine kC 4 ⟨[0], 1, [], 0⟩ (go_wire_buffer_element_ok hr2) ?_
  exact kE ⟨[0], 1, [], 0⟩
 obtain rfl := Option.some.inj h
 exact rtn ⟨[0], 1, [], 0⟩ (.inl rfl)
def go_wire_buffer_number (n : Nat) (a1 : Int) (m0 : T_wire_buffer) : Option T_wire_buffer :=
 (go_wire_buffer_integer n 2 a1 m0).bind fun r1 =>
 some r1
theorem go_wire_buffer_number_ok {n : Nat} {a1 : Int} {m0 : T_wire_buffer} {r : T_wire_buffer} (h : go_wire_buffer_number n a1 m0 = some r) : ACalls Tryz.prog (gl0 mx) 52 [.ptr 0 0, .int .i64 a1] ⟨[[.str m0.f_b, .int .i64 m0.f_e]], []⟩ (Out (.tuple []) ⟨[[.str r.f_b, .int .i64 r.f_e]], []⟩) := by
 delta go_wire_buffer_number at h
 refine fnc Tryz.func52 rfl ?_
 obtain ⟨r1, hr1, h⟩ := bindE h
 refine regN ⟨7, []⟩ ⟨[[.str r1.f_b, .int .i64 r1.f_e]], []⟩ cl_body ?_ ?_
 ·refine kC 2 ⟨[0], 1, [], 0⟩ (go_wire_buffer_integer_ok hr1) ?_
  exact kE ⟨[0], 1, [], 0⟩
 obtain rfl := Option.some.inj h
 exact rtn ⟨[0], 1, [], 0⟩ (.inl rfl)
def go_wire_anchors (n : Nat) (m0 : T_wire_buffer) : Option T_wire_buffer :=
 some m0
theorem go_wire_anchors_ok {n : Nat} {m0 : T_wire_buffer} {r : T_wire_buffer} (h : go_wire_anchors n m0 = some r) : ACalls Tryz.prog (gl0 mx) 54 [.ptr 0 0] ⟨[[.str m0.f_b, .int .i64 m0.f_e]], []⟩ (Out (.func (.func 104) [.ptr 0 0] []) ⟨[[.str r.f_b, .int .i64 r.f_e]], []⟩) := by
 delta go_wire_anchors at h
 refine fnc Tryz.func54 rfl ?_
 refine b_seq ?_
 refine reg ⟨5, [(0, .ptr 0 0)]⟩ ⟨[[.str m0.f_b, .int .i64 m0.f_e]], []⟩ ?_ ?_
 ·exact kE ⟨[0], 1, [], 0⟩
 refine b_seq ?_
 refine reg ⟨5, [(2, .func (.func 104) [.ptr 0 0] [])]⟩ ⟨[[.str m0.f_b, .int .i64 m0.f_e]], []⟩ ?_ ?_
 ·exact kE ⟨[0], 1, [], 0⟩
 refine b_ret ?_
 obtain rfl := Option.some.inj h
 exact rtn ⟨[0], 1, [], 0⟩ (.inr rfl)
def go_keyinfo_content (n : Nat) (a0 : T_api_Key) : Option (List UInt8) :=
 (sadd (b2s ([IntKind.wrap .u8 a0.f_Height] : List Int)) a0.f_ID).bind fun x1 =>
 (sadd x1 a0.f_Root).bind fun x2 =>
 some x2
theorem go_keyinfo_content_ok {n : Nat} {a0 : T_api_Key} {r : (List UInt8)} (h : go_keyinfo_content n a0 = some r) : ACalls Tryz.prog (gl0 mx) 162 [.agg [.int .i64 a0.f_Height, .str a0.f_ID, .str a0.f_Root]] ⟨[], []⟩ (Out (.str r) ⟨[], []⟩) := by
 delta go_keyinfo_content at h
 refine fnc Tryz.func162 rfl ?_
 refine b_seq ?_
 refine reg ⟨14, [(1, .ptr 0 0)]⟩ ⟨[[.int .i64 a0.f_Height, .str a0.f_ID, .str a0.f_Root]], []⟩ ?_ ?_
 ·exact kE ⟨[0], 1, [], 0⟩
 refine b_seq ?_
 obtain ⟨x1, hx1, h⟩ := bindE h
 obtain ⟨x2, hx2, h⟩ := bindE h
 refine reg ⟨14, [(2, .str x2)]⟩ ⟨[], []⟩ ?_ ?_
 ·refine kB 4 ([IntKind.wrap .u8 a0.f_Height] : List Int) ?_
  refine kP 7 (x_sadd (d := (tyT 9).d) hx1) ?_
  refine kP 10 (x_sadd (d := (tyT 9).d) hx2) ?_
  exact kE ⟨[], 1, [], 0⟩
 refine b_ret ?_
 obtain rfl := Option.some.inj h
 exact rtn ⟨[], 0, [], 0⟩ (.inr rfl)
def go_prim_spare (n : Nat) (a0 : (List UInt8)) (a1 : Int) : Option Bool :=
 if (a1 == 0) = true then (some true) else ((if (!(a0 == ([] : List UInt8))) = true then ((bidx a0 (IntKind.wrap .i64 ((List.length a0 : Int) - 1))).bind fun x1 =>
 (ishl .u8 1 (IntKind.wrap .u64 a1)).bind fun x2 =>
 some ((iand .u8 x1 (IntKind.wrap .u8 (x2 - 1))) == 0)) else (some false)).bind fun y4 =>
 some y4)
theorem go_prim_spare_ok {n : Nat} {a0 : (List UInt8)} {a1 : Int} {r : Bool} (h : go_prim_spare n a0 a1 = some r) : ACalls Tryz.prog (gl0 mx) 213 [.str a0, .int .i64 a1] ⟨[], []⟩ (Out (.bool r) ⟨[], []⟩) := by
 delta go_prim_spare at h
 refine fnc Tryz.func213 rfl ?_
 refine b_seq ?_
 refine reg ⟨22, [(0, .str a0), (1, .int .i64 a1)]⟩ ⟨[], []⟩ ?_ ?_
 ·exact kE ⟨[], 0, [], 0⟩
 refine b_seq ?_
 refine b_seq ?_
 refine reg ⟨22, [(0, .str a0), (1, .int .i64 a1), (6, .bool (a1 == 0))]⟩ ⟨[], []⟩ ?_ ?_
 ·exact kE ⟨[], 0, [], 0⟩
 refine bif_ (a1 == 0) (fun hb => ?_) (fun hb => ?_)
 ·replace h := ite_t hb h
  refine b_seq ?_
  refine reg ⟨22, [(4, .bool true)]⟩ ⟨[], []⟩ ?_ ?_
  ·exact kE ⟨[], 0, [], 0⟩
  refine b_ret ?_
  obtain rfl := Option.some.inj h
  exact rtn ⟨[], 0, [], 0⟩ (.inr rfl)
 replace h := ite_f hb h
 refine b_skip ?_
 refine b_seq ?_
 obtain ⟨y4, hE, h⟩ := bindE h
 refine reg ⟨22, [(4, .bool y4)]⟩ ⟨[], []⟩ ?_ ?_
 ·replace h := hE
  refine kG 3 9 (!(a0 == ([] : List UInt8))) (fun hb => ?_) (fun hb => ?_)
  ·have h := ite_t hb h
   obtain ⟨x1, hx1, h⟩ := bindE h
   obtain ⟨x2, hx2, h⟩ := bindE h
   refine kP 7 (x_bidx hx1) ?_
   refine kP 10 (x_ishl (k := .u8) (d := (tyT 5).d) (k' := .u64) hx2) ?_
   obtain rfl := Option.some.inj h
   exact kE ⟨[], 0, [], 0⟩
  have h := ite_f hb h
  obtain rfl := Option.some.inj h
  exact kE ⟨[], 0, [], 0⟩
 refine b_ret ?_
 obtain rfl := Option.some.inj h
 exact rtn ⟨[], 0, [], 0⟩ (.inr rfl)
def go_prim_PutBits (n : Nat) (a0 : (List UInt8)) (a1 : Int) : Option ((List UInt8) × Int) :=
 (if (decide (a1 < 0)) = true then (some true) else (some (decide (a1 > 7)))).bind fun y2 =>
 if y2 = true then (some (([] : List UInt8), 1)) else ((go_prim_spare n a0 a1).bind fun r3 =>
 if (!r3) = true then (some (([] : List UInt8), 7)) else ((sadd (b2s ([IntKind.wrap .u8 a1] : List Int)) a0).bind fun x4 =>
 some (x4, 0)))
theorem go_prim_PutBits_ok {n : Nat} {a0 : (List UInt8)} {a1 : Int} {r : ((List UInt8) × Int)} (h : go_prim_PutBits n a0 a1 = some r) : ACalls Tryz.prog (gl0 mx) 161 [.str a0, .int .i64 a1] ⟨[], []⟩ (Out (.tuple [.str r.1, .int .i64 r.2]) ⟨[], []⟩) := by
 delta go_prim_PutBits at h
 refine fnc Tryz.func161 rfl ?_
 refine b_seq ?_
 refine reg ⟨22, [(0, .str a0), (1, .int .i64 a1)]⟩ ⟨[], []⟩ ?_ ?_
 ·exact kE ⟨[], 0, [], 0⟩
 refine b_seq ?_
 refine b_seq ?_
 obtain ⟨y2, hE, h⟩ := bindE h
 refine reg ⟨22, [(0, .str a0), (1, .int .i64 a1), (11, .bool y2)]⟩ ⟨[], []⟩ ?_ ?_
 ·replace h := hE
  refine kG 3 8 (decide (a1 < 0)) (fun hb => ?_) (fun hb => ?_)
  ·have h := ite_t hb h
   obtain rfl := Option.some.inj h
   exact kE ⟨[], 0, [], 0⟩
  have h := ite_f hb h
  obtain rfl := Option.some.inj h
  exact kE ⟨[], 0, [], 0⟩
 refine bif_ (y2) (fun hb => ?_) (fun hb => ?_)
 ·replace h := ite_t hb h
  refine b_seq ?_
  refine reg ⟨22, [(4, .str ([] : List UInt8)), (5, .int .i64 1)]⟩ ⟨[], []⟩ ?_ ?_
  ·exact kE ⟨[], 0, [], 0⟩
  refine b_ret ?_
  obtain rfl := Option.some.inj h
  exact rtn ⟨[], 0, [], 0⟩ (.inr rfl)
 replace h := ite_f hb h
 refine b_skip ?_
 refine b_seq ?_
 refine b_seq ?_
 obtain ⟨r3, hr3, h⟩ := bindE h
 refine reg ⟨22, [(0, .str a0), (1, .int .i64 a1), (15, .bool (!r3))]⟩ ⟨[], []⟩ ?_ ?_
 ·refine kC 2 ⟨[], 0, [], 0⟩ (go_prim_spare_ok hr3) ?_
  exact kE ⟨[], 0, [], 0⟩
 refine bif_ (!r3) (fun hb => ?_) (fun hb => ?_)
 ·replace h := ite_t hb h
  refine b_seq ?_
  refine reg ⟨22, [(4, .str ([] : List UInt8)), (5, .int .i64 7)]⟩ ⟨[], []⟩ ?_ ?_
  ·exact kE ⟨[], 0, [], 0⟩
  refine b_ret ?_
  obtain rfl := Option.some.inj h
  exact rtn ⟨[], 0, [], 0⟩ (.inr rfl)
 replace h := ite_f hb h
 refine b_skip ?_
 refine b_seq ?_
 obtain ⟨x4, hx4, h⟩ := bindE h
 refine reg ⟨22, [(4, .str x4), (5, .int .i64 0)]⟩ ⟨[], []⟩ ?_ ?_
 ·refine kB 3 ([IntKind.wrap .u8 a1] : List Int) ?_
  refine kP 5 (x_sadd (d := (tyT 9).d) hx4) ?_
  exact kE ⟨[], 0, [], 0⟩
 refine b_ret ?_
 obtain rfl := Option.some.inj h
 exact rtn ⟨[], 0, [], 0⟩ (.inr rfl)
def go_keyinfo_Algorithm (n : Nat) : Option (List UInt8) :=
 (go_oid_Encode n ([49, 46, 51, 46, 54, 46, 49, 46, 52, 46, 49, 46, 53, 56, 56, 56, 56, 46, 49, 46, 49] : List UInt8)).bind fun r1 =>
 (go_tlv_Wrap n 6 ([r1.1] : List (List UInt8))).bind fun r2 =>
 (go_tlv_Wrap n 48 ([r2.1] : List (List UInt8))).bind fun r3 =>
 some r3.1
theorem go_keyinfo_Algorithm_ok {n : Nat} {r : (List UInt8)} (h : go_keyinfo_Algorithm n  = some r) : ACalls Tryz.prog (gl0 mx) 163 [] ⟨[], []⟩ (Out (.str r) ⟨[], []⟩) := by
 delta go_keyinfo_Algorithm at h
 refine fnc Tryz.func163 rfl ?_
 refine b_seq ?_
 refine reg ⟨24, []⟩ ⟨[], []⟩ ?_ ?_
 ·exact kE ⟨[], 0, [], 0⟩
 refine b_seq ?_
 obtain ⟨r1, hr1, h⟩ := bindE h
 refine reg ⟨24, [(1, .str r1.1)]⟩ ⟨[], []⟩ ?_ ?_
 ·refine kC 0 ⟨[], 0, [], 0⟩ (go_oid_Encode_ok hr1) ?_
  exact kE ⟨[], 0, [], 0⟩
 refine b_seq ?_
 obtain ⟨r2, hr2, h⟩ := bindE h
 refine reg ⟨24, [(3, .str r2.1)]⟩ ⟨[], []⟩ ?_ ?_
 ·refine kC 2 ⟨[], 0, [], 0⟩ (go_tlv_Wrap_ok hr2) ?_
  exact kE ⟨[], 0, [], 0⟩
 refine b_seq ?_
 obtain ⟨r3, hr3, h⟩ := bindE h
 refine reg ⟨24, [(5, .str r3.1)]⟩ ⟨[], []⟩ ?_ ?_
 ·refine kC 2 ⟨[], 0, [], 0⟩ (go_tlv_Wrap_ok hr3) ?_
  exact kE ⟨[], 0, [], 0⟩
 refine b_seq ?_
 refine reg ⟨24, [(0, .str r3.1)]⟩ ⟨[], []⟩ ?_ ?_
 ·exact kE ⟨[], 0, [], 0⟩
 refine b_ret ?_
 obtain rfl := Option.some.inj h
 exact rtn ⟨[], 0, [], 0⟩ (.inr rfl)
def go_keyinfo_Encode (n : Nat) (a0 : T_api_Key) : Option ((List UInt8) × Int) :=
 (go_merkle_Check n a0).bind fun r1 =>
 if (r1 != 0) = true then (some (([] : List UInt8), r1)) else ((go_keyinfo_content n a0).bind fun r2 =>
 (go_prim_PutBits n r2 0).bind fun r3 =>
 if (r3.2 != 0) = true then (some (([] : List UInt8), r3.2)) else ((go_tlv_Wrap n 3 ([r3.1] : List (List UInt8))).bind fun r4 =>
 if (r4.2 != 0) = true then (some (([] : List UInt8), r4.2)) else ((go_keyinfo_Algorithm n).bind fun r5 =>
 (go_tlv_Wrap n 48 ([r5, r4.1] : List (List UInt8))).bind fun r6 =>
 some (r6.1, r6.2))))
theorem go_keyinfo_Encode_ok {n : Nat} {a0 : T_api_Key} {r : ((List UInt8) × Int)} (h : go_keyinfo_Encode n a0 = some r) : ACalls Tryz.prog (gl0 mx) 103 [.agg [.int .i64 a0.f_Height, .str a0.f_ID, .str a0.f_Root]] ⟨[], []⟩ (Out (.tuple [.str r.1, .int .i64 r.2]) ⟨[], []⟩) := by
 delta go_keyinfo_Encode at h
 refine fnc Tryz.func103 rfl ?_
 refine b_seq ?_
 refine reg ⟨37, [(1, .ptr 0 0)]⟩ ⟨[[.int .i64 a0.f_Height, .str a0.f_ID, .str a0.f_Root]], []⟩ ?_ ?_
 ·exact kE ⟨[0], 1, [], 0⟩
 refine b_seq ?_
 refine b_seq ?_
 obtain ⟨r1, hr1, h⟩ := bindE h
 refine reg ⟨37, [(1, .ptr 0 0), (4, .int .i64 r1)]⟩ ⟨[[.int .i64 a0.f_Height, .str a0.f_ID, .str a0.f_Root]], []⟩ ?_ ?_
 ·refine kC 1 ⟨[], 1, [], 0⟩ (go_merkle_Check_ok hr1) ?_
  exact kE ⟨[0], 1, [], 0⟩
 refine b_seq ?_
 refine reg ⟨37, [(1, .ptr 0 0), (4, .int .i64 r1), (11, .bool (r1 != 0))]⟩ ⟨[[.int .i64 a0.f_Height, .str a0.f_ID, .str a0.f_Root]], []⟩ ?_ ?_
 ·exact kE ⟨[0], 1, [], 0⟩
 refine bif_ (r1 != 0) (fun hb => ?_) (fun hb => ?_)
 ·replace h := ite_t hb h
  refine b_seq ?_
  refine reg ⟨37, [(2, .str ([] : List UInt8)), (3, .int .i64 r1)]⟩ ⟨[], []⟩ ?_ ?_
  ·exact kE ⟨[], 1, [], 0⟩
  refine b_ret ?_
  obtain rfl := Option.some.inj h
  exact rtn ⟨[], 0, [], 0⟩ (.inr rfl)
 replace h := ite_f hb h
 refine b_skip ?_
 refine b_seq ?_
 obtain ⟨r2, hr2, h⟩ := bindE h
 obtain ⟨r3, hr3, h⟩ := bindE h
 refine reg ⟨37, [(5, .str r3.1), (6, .int .i64 r3.2)]⟩ ⟨[], []⟩ ?_ ?_
 ·refine kC 1 ⟨[], 1, [], 0⟩ (go_keyinfo_content_ok hr2) ?_
  refine kC 2 ⟨[], 1, [], 0⟩ (go_prim_PutBits_ok hr3) ?_
  exact kE ⟨[], 1, [], 0⟩
 refine b_seq ?_
 refine b_seq ?_
 refine reg ⟨37, [(5, .str r3.1), (6, .int .i64 r3.2), (20, .bool (r3.2 != 0))]⟩ ⟨[], []⟩ ?_ ?_
 ·exact kE ⟨[], 0, [], 0⟩
 refine bif_ (r3.2 != 0) (fun hb => ?_) (fun hb => ?_)
 ·replace h := ite_t hb h
  refine b_seq ?_
  refine reg ⟨37, [(2, .str ([] : List UInt8)), (3, .int .i64 r3.2)]⟩ ⟨[], []⟩ ?_ ?_
  ·exact kE ⟨[], 0, [], 0⟩
  refine b_ret ?_
  obtain rfl := Option.some.inj h
  exact rtn ⟨[], 0, [], 0⟩ (.inr rfl)
 replace h := ite_f hb h
 refine b_skip ?_
 refine b_seq ?_
 obtain ⟨r4, hr4, h⟩ := bindE h
 refine reg ⟨37, [(6, .int .i64 r4.2), (7, .str r4.1)]⟩ ⟨[], []⟩ ?_ ?_
 ·refine kC 2 ⟨[], 0, [], 0⟩ (go_tlv_Wrap_ok hr4) ?_
  exact kE ⟨[], 0, [], 0⟩
 refine b_seq ?_
 refine b_seq ?_
 refine reg ⟨37, [(6, .int .i64 r4.2), (7, .str r4.1), (29, .bool (r4.2 != 0))]⟩ ⟨[], []⟩ ?_ ?_
 ·exact kE ⟨[], 0, [], 0⟩
 refine bif_ (r4.2 != 0) (fun hb => ?_) (fun hb => ?_)
 ·replace h := ite_t hb h
  refine b_seq ?_
  refine reg ⟨37, [(2, .str ([] : List UInt8)), (3, .int .i64 r4.2)]⟩ ⟨[], []⟩ ?_ ?_
  ·exact kE ⟨[], 0, [], 0⟩
  refine b_ret ?_
  obtain rfl := Option.some.inj h
  exact rtn ⟨[], 0, [], 0⟩ (.inr rfl)
 replace h := ite_f hb h
 refine b_skip ?_
 refine b_seq ?_
 obtain ⟨r5, hr5, h⟩ := bindE h
 obtain ⟨r6, hr6, h⟩ := bindE h
 refine reg ⟨37, [(2, .str r6.1), (3, .int .i64 r6.2)]⟩ ⟨[], []⟩ ?_ ?_
 ·refine kC 0 ⟨[], 0, [], 0⟩ (go_keyinfo_Algorithm_ok hr5) ?_
  refine kC 3 ⟨[], 0, [], 0⟩ (go_tlv_Wrap_ok hr6) ?_
  exact kE ⟨[], 0, [], 0⟩
 refine b_ret ?_
 obtain rfl := Option.some.inj h
 exact rtn ⟨[], 0, [], 0⟩ (.inr rfl)
def go_wire_buffer_anchor (n : Nat) (a1 : T_api_Anchor) (m0 : T_wire_buffer) : Option T_wire_buffer :=
 (go_dname_Encode n (T_api_Name.mk a1.f_Name.f_RDNs)).bind fun r1 =>
 (go_wire_buffer_add n r1.1 r1.2 (T_wire_buffer.mk ([] : List UInt8) 0)).bind fun r2 =>
 (go_keyinfo_Encode n (T_api_Key.mk a1.f_Key.f_Height a1.f_Key.f_ID a1.f_Key.f_Root)).bind fun r3 =>
 (go_wire_buffer_add n r3.1 r3.2 r2).bind fun r4 =>
 (go_wire_buffer_add n ([] : List UInt8) r4.f_e m0).bind fun r5 =>
 (go_wire_buffer_element n 48 r4.f_b r5).bind fun r6 =>
 some r6
theorem go_wire_buffer_anchor_ok {n : Nat} {a1 : T_api_Anchor} {m0 : T_wire_buffer} {r : T_wire_buffer} (h : go_wire_buffer_anchor n a1 m0 = some r) : ACalls Tryz.prog (gl0 mx) 104 [.ptr 0 0, .agg [.sl 1 (List.map (cL 3 T_api_Attribute.cells) a1.f_Name.f_RDNs) .none, .int .i64 a1.f_Key.f_Height, .str a1.f_Key.f_ID, .str a1.f_Key.f_Root]] ⟨[[.str m0.f_b, .int .i64 m0.f_e]], []⟩ (Out (.tuple []) ⟨[[.str r.f_b, .int .i64 r.f_e]], []⟩) := by
 delta go_wire_buffer_anchor at h
 refine fnc Tryz.func104 rfl ?_
 refine b_seq ?_
 refine reg ⟨25, [(0, .ptr 0 0), (3, .ptr 1 0)]⟩ ⟨[[.str m0.f_b, .int .i64 m0.f_e], [.sl 1 (List.map (cL 3 T_api_Attribute.cells) a1.f_Name.f_RDNs) .none, .int .i64 a1.f_Key.f_Height, .str a1.f_Key.f_ID, .str a1.f_Key.f_Root]], []⟩ ?_ ?_
 ·exact kE ⟨[0, 1], 2, [], 0⟩
 refine b_seq ?_
 refine reg ⟨25, [(0, .ptr 0 0), (3, .ptr 1 0), (4, .ptr 2 0)]⟩ ⟨[[.str m0.f_b, .int .i64 m0.f_e], [.sl 1 (List.map (cL 3 T_api_Attribute.cells) a1.f_Name.f_RDNs) .none, .int .i64 a1.f_Key.f_Height, .str a1.f_Key.f_ID, .str a1.f_Key.f_Root], [.str ([] : List UInt8), .int .i64 0]], []⟩ ?_ ?_
 ·exact kE ⟨[0, 1, 2], 3, [], 0⟩
 refine b_seq ?_
 obtain ⟨r1, hr1, h⟩ := bindE h
 obtain ⟨r2, hr2, h⟩ := bindE h
 refine reg ⟨25, [(0, .ptr 0 0), (3, .ptr 1 0), (4, .ptr 2 0)]⟩ ⟨[[.str m0.f_b, .int .i64 m0.f_e], [.sl 1 (List.map (cL 3 T_api_Attribute.cells) a1.f_Name.f_RDNs) .none, .int .i64 a1.f_Key.f_Height, .str a1.f_Key.f_ID, .str a1.f_Key.f_Root], [.str r2.f_b, .int .i64 r2.f_e]], []⟩ ?_ ?_
 ·refine kC 2 ⟨[], 3, [], 0⟩ (go_dname_Encode_ok hr1) ?_
  refine kC 5 ⟨[2], 3, [], 0⟩ (go_wire_buffer_add_ok hr2) ?_
  exact kE ⟨[0, 1, 2], 3, [], 0⟩
 refine b_seq ?_
 obtain ⟨r3, hr3, h⟩ := bindE h
 obtain ⟨r4, hr4, h⟩ := bindE h
 refine reg ⟨25, [(0, .ptr 0 0), (4, .ptr 1 0)]⟩ ⟨[[.str m0.f_b, .int .i64 m0.f_e], [.str r4.f_b, .int .i64 r4.f_e]], []⟩ ?_ ?_
 ·refine kC 2 ⟨[], 3, [], 0⟩ (go_keyinfo_Encode_ok hr3) ?_
  refine kC 5 ⟨[2], 3, [], 0⟩ (go_wire_buffer_add_ok hr4) ?_
  exact kE ⟨[0, 2], 3, [], 0⟩
 refine b_seq ?_
 obtain ⟨r5, hr5, h⟩ := bindE h
 refine reg ⟨25, [(0, .ptr 0 0), (4, .ptr 1 0)]⟩ ⟨[[.str r5.f_b, .int .i64 r5.f_e], [.str r4.f_b, .int .i64 r4.f_e]], []⟩ ?_ ?_
 ·refine kC 3 ⟨[0], 2, [], 0⟩ (go_wire_buffer_add_ok hr5) ?_
  exact kE ⟨[0, 1], 2, [], 0⟩
 obtain ⟨r6, hr6, h⟩ := bindE h
 refine regN ⟨25, []⟩ ⟨[[.str r6.f_b, .int .i64 r6.f_e]], []⟩ cl_body ?_ ?_
 ·refine kC 3 ⟨[0], 2, [], 0⟩ (go_wire_buffer_element_ok hr6) ?_
  exact kE ⟨[0], 2, [], 0⟩
 obtain rfl := Option.some.inj h
 exact rtn ⟨[0], 1, [], 0⟩ (.inl rfl)
def go_wire_list_api_Anchor_l1 (n : Nat) (a2 : (List T_api_Anchor)) : Nat → Int → (List UInt8) → Int → Option ((List UInt8) × Int)
 | 0, _, _, _ => none
 | k + 1, v25, v26, v27 =>
  if (decide (v25 < (List.length a2 : Int))) = true then ((lidx a2 v25).bind fun x34 =>
  (go_wire_buffer_anchor n (T_api_Anchor.mk (T_api_Name.mk x34.f_Name.f_RDNs) (T_api_Key.mk x34.f_Key.f_Height x34.f_Key.f_ID x34.f_Key.f_Root)) (T_wire_buffer.mk v26 v27)).bind fun r35 =>
  go_wire_list_api_Anchor_l1 n a2 k (IntKind.wrap .i64 (v25 + 1)) r35.f_b r35.f_e) else (some (v26, v27))
def go_wire_list_api_Anchor (n : Nat) (a1 : Int) (a2 : (List T_api_Anchor)) (m0 : T_wire_buffer) : Option T_wire_buffer :=
 (go_wire_anchors n (T_wire_buffer.mk ([] : List UInt8) 0)).bind fun r1 =>
 (go_wire_list_api_Anchor_l1 n a2 n 0 r1.f_b r1.f_e).bind fun y19 =>
 (go_wire_buffer_add n ([] : List UInt8) y19.2 m0).bind fun r36 =>
 (go_wire_buffer_element n a1 y19.1 r36).bind fun r37 =>
 some r37
theorem go_wire_list_api_Anchor_ok {n : Nat} {a1 : Int} {a2 : (List T_api_Anchor)} {m0 : T_wire_buffer} {r : T_wire_buffer} (h : go_wire_list_api_Anchor n a1 a2 m0 = some r) : ACalls Tryz.prog (gl0 mx) 53 [.ptr 0 0, .int .i64 a1, .sl 4 (List.map T_api_Anchor.cells a2) .none, .func (.func 54) [] []] ⟨[[.str m0.f_b, .int .i64 m0.f_e]], []⟩ (Out (.tuple []) ⟨[[.str r.f_b, .int .i64 r.f_e]], []⟩) := by
 delta go_wire_list_api_Anchor at h
 refine fnc Tryz.func53 rfl ?_
 refine b_seq ?_
 refine reg ⟨33, [(0, .ptr 0 0), (1, .int .i64 a1), (2, .sl 4 (List.map T_api_Anchor.cells a2) .none), (3, .func (.func 54) [] []), (8, .ptr 1 0)]⟩ ⟨[[.str m0.f_b, .int .i64 m0.f_e], [.str ([] : List UInt8), .int .i64 0]], []⟩ ?_ ?_
 ·exact kE ⟨[0, 1], 2, [], 0⟩
 refine b_seq ?_
 obtain ⟨r1, hr1, h⟩ := bindE h
 refine reg ⟨33, [(0, .ptr 0 0), (1, .int .i64 a1), (2, .sl 4 (List.map T_api_Anchor.cells a2) .none), (8, .ptr 1 0), (9, .func (.func 104) [.ptr 1 0] [])]⟩ ⟨[[.str m0.f_b, .int .i64 m0.f_e], [.str r1.f_b, .int .i64 r1.f_e]], []⟩ ?_ ?_
 ·refine kC 1 ⟨[1], 2, [], 0⟩ (go_wire_anchors_ok hr1) ?_
  exact kE ⟨[0, 1], 2, [], 0⟩
 refine b_seq ?_
 refine b_seq ?_
 refine reg ⟨33, [(0, .ptr 0 0), (1, .int .i64 a1), (8, .ptr 1 0), (9, .func (.func 104) [.ptr 1 0] []), (14, .sl 4 (List.map T_api_Anchor.cells a2) .none), (15, .int .i64 (List.length a2 : Int)), (16, .int .i64 0)]⟩ ⟨[[.str m0.f_b, .int .i64 m0.f_e], [.str r1.f_b, .int .i64 r1.f_e]], []⟩ ?_ ?_
 ·refine kP 1 (x_len (c := T_api_Anchor.cells) (l := a2) (e := 68) (sz := 4) (sz' := 4) (b := 64) (tok := .none)) ?_
  exact kE ⟨[0, 1], 2, [], 0⟩
 obtain ⟨y19, hE, h⟩ := bindE h
 refine b_blockE (Y := ((List UInt8) × Int)) (fun y19 => ⟨33, [(0, .ptr 0 0), (1, .int .i64 a1), (8, .ptr 1 0)]⟩) (fun y19 => ⟨[[.str m0.f_b, .int .i64 m0.f_e], [.str y19.1, .int .i64 y19.2]], []⟩) (fun z => y19 = z) ?_ cl_cons (fun z hz => ?_)
 ·replace h := hE
  refine b_loop (X := (Int × (List UInt8) × Int)) (fun x => ⟨33, [(0, .ptr 0 0), (1, .int .i64 a1), (8, .ptr 1 0), (9, .func (.func 104) [.ptr 1 0] []), (14, .sl 4 (List.map T_api_Anchor.cells a2) .none), (15, .int .i64 (List.length a2 : Int)), (16, .int .i64 x.1)]⟩) (fun x => ⟨[[.str m0.f_b, .int .i64 m0.f_e], [.str x.2.1, .int .i64 x.2.2]], []⟩) (fun k x => go_wire_list_api_Anchor_l1 n a2 k x.1 x.2.1 x.2.2 = some y19) (fun _ hx => by simp [go_wire_list_api_Anchor_l1] at hx) n (0, r1.f_b, r1.f_e) h (wk ⟨[0, 1], 2, [], 0⟩) (fun k x h => ?_)
  obtain ⟨v25, v26, v27⟩ := x
  rw [go_wire_list_api_Anchor_l1] at h
  refine b_seq ?_
  refine reg ⟨33, [(0, .ptr 0 0), (1, .int .i64 a1), (8, .ptr 1 0), (9, .func (.func 104) [.ptr 1 0] []), (14, .sl 4 (List.map T_api_Anchor.cells a2) .none), (15, .int .i64 (List.length a2 : Int)), (16, .int .i64 v25), (17, .bool (decide (v25 < (List.length a2 : Int))))]⟩ ⟨[[.str m0.f_b, .int .i64 m0.f_e], [.str v26, .int .i64 v27]], []⟩ ?_ ?_
  ·exact kE ⟨[0, 1], 2, [], 0⟩
  refine b_seq ?_
  refine bif_ (decide (v25 < (List.length a2 : Int))) (fun hb => ?_) (fun hb => ?_)
  ·replace h := ite_t hb h
   refine b_skip ?_
   refine b_seq ?_
   refine b_block ?_
   refine b_seq ?_
   obtain ⟨x34, hx34, h⟩ := bindE h
   refine reg ⟨33, [(0, .ptr 0 0), (1, .int .i64 a1), (8, .ptr 1 0), (9, .func (.func 104) [.ptr 1 0] []), (11, .ptr 2 0), (14, .sl 4 (List.map T_api_Anchor.cells a2) .none), (15, .int .i64 (List.length a2 : Int)), (16, .int .i64 v25)]⟩ ⟨[[.str m0.f_b, .int .i64 m0.f_e], [.str v26, .int .i64 v27], [.sl 1 (List.map (cL 3 T_api_Attribute.cells) x34.f_Name.f_RDNs) .none, .int .i64 x34.f_Key.f_Height, .str x34.f_Key.f_ID, .str x34.f_Key.f_Root]], []⟩ ?_ ?_
   ·refine kP 0 (x_lidx (c := T_api_Anchor.cells) (e := 68) (sz := 4) (b := 64) (tok := .none) hx34) ?_
    exact kE ⟨[0, 1, 2], 3, [], 0⟩
   obtain ⟨r35, hr35, h⟩ := bindE h
   refine regN ⟨33, [(0, .ptr 0 0), (1, .int .i64 a1), (8, .ptr 1 0), (9, .func (.func 104) [.ptr 1 0] []), (14, .sl 4 (List.map T_api_Anchor.cells a2) .none), (15, .int .i64 (List.length a2 : Int)), (16, .int .i64 v25)]⟩ ⟨[[.str m0.f_b, .int .i64 m0.f_e], [.str r35.f_b, .int .i64 r35.f_e]], []⟩ cl_cons ?_ ?_
   ·refine kC 2 ⟨[1], 3, [], 0⟩ (go_wire_buffer_anchor_ok hr35) ?_
    exact kE ⟨[0, 1], 3, [], 0⟩
   refine bk_norm ?_
   refine regN ⟨33, [(0, .ptr 0 0), (1, .int .i64 a1), (8, .ptr 1 0), (9, .func (.func 104) [.ptr 1 0] []), (14, .sl 4 (List.map T_api_Anchor.cells a2) .none), (15, .int .i64 (List.length a2 : Int)), (16, .int .i64 (IntKind.wrap .i64 (v25 + 1)))]⟩ ⟨[[.str m0.f_b, .int .i64 m0.f_e], [.str r35.f_b, .int .i64 r35.f_e]], []⟩ cl_loopT ?_ ?_
   ·exact kE ⟨[0, 1], 2, [], 0⟩
   exact ⟨(IntKind.wrap .i64 (v25 + 1), r35.f_b, r35.f_e), h, wk ⟨[0, 1], 2, [], 0⟩⟩
  replace h := ite_f hb h
  refine b_exit ?_
  refine tk_exit ?_
  refine bl_exit ?_
  exact ⟨(v26, v27), (Option.some.inj h).symm, wk ⟨[0, 1], 2, [], 0⟩⟩
 subst hz
 refine b_seq ?_
 obtain ⟨r36, hr36, h⟩ := bindE h
 refine reg ⟨33, [(0, .ptr 0 0), (1, .int .i64 a1), (8, .ptr 1 0)]⟩ ⟨[[.str r36.f_b, .int .i64 r36.f_e], [.str y19.1, .int .i64 y19.2]], []⟩ ?_ ?_
 ·refine kC 3 ⟨[0], 2, [], 0⟩ (go_wire_buffer_add_ok hr36) ?_
  exact kE ⟨[0, 1], 2, [], 0⟩
 obtain ⟨r37, hr37, h⟩ := bindE h
 refine regN ⟨33, []⟩ ⟨[[.str r37.f_b, .int .i64 r37.f_e]], []⟩ cl_body ?_ ?_
 ·refine kC 4 ⟨[0], 2, [], 0⟩ (go_wire_buffer_element_ok hr37) ?_
  exact kE ⟨[0], 2, [], 0⟩
 obtain rfl := Option.some.inj h
 exact rtn ⟨[0], 1, [], 0⟩ (.inl rfl)
def go_wire_buffer_whole (n : Nat) (m0 : T_wire_buffer) : Option ((List UInt8) × Int × T_wire_buffer) :=
 (go_tlv_Wrap n 48 ([m0.f_b] : List (List UInt8))).bind fun r1 =>
 (if (m0.f_e != 0) = true then (some true) else (some (r1.2 != 0))).bind fun y3 =>
 if y3 = true then (some (([] : List UInt8), 2, m0)) else (some (r1.1, 0, m0))
theorem go_wire_buffer_whole_ok {n : Nat} {m0 : T_wire_buffer} {r : ((List UInt8) × Int × T_wire_buffer)} (h : go_wire_buffer_whole n m0 = some r) : ACalls Tryz.prog (gl0 mx) 55 [.ptr 0 0] ⟨[[.str m0.f_b, .int .i64 m0.f_e]], []⟩ (Out (.tuple [.str r.1, .int .i64 r.2.1]) ⟨[[.str r.2.2.f_b, .int .i64 r.2.2.f_e]], []⟩) := by
 delta go_wire_buffer_whole at h
 refine fnc Tryz.func55 rfl ?_
 refine b_seq ?_
 refine reg ⟨25, [(0, .ptr 0 0)]⟩ ⟨[[.str m0.f_b, .int .i64 m0.f_e]], []⟩ ?_ ?_
 ·exact kE ⟨[0], 1, [], 0⟩
 refine b_seq ?_
 obtain ⟨r1, hr1, h⟩ := bindE h
 refine reg ⟨25, [(0, .ptr 0 0), (4, .str r1.1), (5, .int .i64 r1.2)]⟩ ⟨[[.str m0.f_b, .int .i64 m0.f_e]], []⟩ ?_ ?_
 ·refine kC 5 ⟨[], 1, [], 0⟩ (go_tlv_Wrap_ok hr1) ?_
  exact kE ⟨[0], 1, [], 0⟩
 refine b_seq ?_
 refine b_seq ?_
 obtain ⟨y3, hE, h⟩ := bindE h
 refine reg ⟨25, [(4, .str r1.1), (23, .bool y3)]⟩ ⟨[[.str m0.f_b, .int .i64 m0.f_e]], []⟩ ?_ ?_
 ·replace h := hE
  refine kG 6 20 (m0.f_e != 0) (fun hb => ?_) (fun hb => ?_)
  ·have h := ite_t hb h
   obtain rfl := Option.some.inj h
   exact kE ⟨[0], 1, [], 0⟩
  have h := ite_f hb h
  obtain rfl := Option.some.inj h
  exact kE ⟨[0], 1, [], 0⟩
 refine bif_ (y3) (fun hb => ?_) (fun hb => ?_)
 ·replace h := ite_t hb h
  refine b_seq ?_
  refine reg ⟨25, [(2, .str ([] : List UInt8)), (3, .int .i64 2)]⟩ ⟨[[.str m0.f_b, .int .i64 m0.f_e]], []⟩ ?_ ?_
  ·exact kE ⟨[0], 1, [], 0⟩
  refine b_ret ?_
  obtain rfl := Option.some.inj h
  exact rtn ⟨[0], 1, [], 0⟩ (.inr rfl)
 replace h := ite_f hb h
 refine b_skip ?_
 refine b_seq ?_
 refine reg ⟨25, [(2, .str r1.1), (3, .int .i64 0)]⟩ ⟨[[.str m0.f_b, .int .i64 m0.f_e]], []⟩ ?_ ?_
 ·exact kE ⟨[0], 1, [], 0⟩
 refine b_ret ?_
 obtain rfl := Option.some.inj h
 exact rtn ⟨[0], 1, [], 0⟩ (.inr rfl)
def go_wire_EncodeQuery (n : Nat) (a0 : T_api_Query) : Option ((List UInt8) × Int) :=
 (go_validate_Query n a0).bind fun r1 =>
 if (r1 != 0) = true then (some (([] : List UInt8), r1)) else ((go_date_Encode n a0.f_Time).bind fun r2 =>
 (go_wire_buffer_add n r2.1 r2.2 (T_wire_buffer.mk ([] : List UInt8) 0)).bind fun r3 =>
 (if (!(a0.f_Purpose == ([] : List UInt8))) = true then ((go_oid_Encode n a0.f_Purpose).bind fun r11 =>
 (go_wire_buffer_add n ([] : List UInt8) r11.2 r3).bind fun r12 =>
 (go_wire_buffer_element n 128 r11.1 r12).bind fun r13 =>
 some (r13.f_b, r13.f_e)) else (some (r3.f_b, r3.f_e))).bind fun y9 =>
 (if (a0.f_Usage != 0) = true then ((go_prim_PutFlags n a0.f_Usage).bind fun r21 =>
 (go_wire_buffer_add n ([] : List UInt8) r21.2 (T_wire_buffer.mk y9.1 y9.2)).bind fun r22 =>
 (go_wire_buffer_element n 129 r21.1 r22).bind fun r23 =>
 some (r23.f_b, r23.f_e)) else (some (y9.1, y9.2))).bind fun y19 =>
 (if (decide ((List.length a0.f_Policies : Int) > 0)) = true then ((go_wire_list_string n 162 a0.f_Policies (T_wire_buffer.mk y19.1 y19.2)).bind fun r29 =>
 some (r29.f_b, r29.f_e)) else (some (y19.1, y19.2))).bind fun y27 =>
 (go_wire_buffer_boolean n 131 a0.f_Explicit (T_wire_buffer.mk y27.1 y27.2)).bind fun r30 =>
 (go_wire_buffer_boolean n 132 a0.f_NoMapping r30).bind fun r31 =>
 (go_wire_buffer_boolean n 133 a0.f_NoAny r31).bind fun r32 =>
 (if (decide ((List.length a0.f_Names : Int) > 0)) = true then ((go_gname_EncodeList n a0.f_Names).bind fun r40 =>
 (go_wire_buffer_add n ([] : List UInt8) r40.2 r32).bind fun r41 =>
 (go_wire_buffer_element n 166 r40.1 r41).bind fun r42 =>
 some (r42.f_b, r42.f_e)) else (some (r32.f_b, r32.f_e))).bind fun y38 =>
 (go_wire_buffer_number n a0.f_MaxLength (T_wire_buffer.mk y38.1 y38.2)).bind fun r43 =>
 (go_wire_buffer_boolean n 135 a0.f_Status r43).bind fun r44 =>
 if (decide ((List.length a0.f_Issuers : Int) > 0)) = true then ((go_wire_list_api_Anchor n 168 a0.f_Issuers r44).bind fun r45 =>
 (go_wire_buffer_whole n r45).bind fun r46 =>
 some (r46.1, r46.2.1)) else ((go_wire_buffer_whole n r44).bind fun r47 =>
 some (r47.1, r47.2.1)))
theorem go_wire_EncodeQuery_ok {n : Nat} {a0 : T_api_Query} {r : ((List UInt8) × Int)} (h : go_wire_EncodeQuery n a0 = some r) : ACalls Tryz.prog (gl0 mx) 14 [.agg [.int .i64 a0.f_Time, .str a0.f_Purpose, .int .i64 a0.f_Usage, .sl 1 (List.map cS a0.f_Policies) .none, .bool a0.f_Explicit, .bool a0.f_NoMapping, .bool a0.f_NoAny, .sl 3 (List.map T_api_GeneralName.cells a0.f_Names) .none, .int .i64 a0.f_MaxLength, .bool a0.f_Status, .sl 4 (List.map T_api_Anchor.cells a0.f_Issuers) .none]] ⟨[], []⟩ (Out (.tuple [.str r.1, .int .i64 r.2]) ⟨[], []⟩) := by
 delta go_wire_EncodeQuery at h
 refine fnc Tryz.func14 rfl ?_
 refine b_seq ?_
 refine reg ⟨95, [(1, .ptr 0 0)]⟩ ⟨[[.int .i64 a0.f_Time, .str a0.f_Purpose, .int .i64 a0.f_Usage, .sl 1 (List.map cS a0.f_Policies) .none, .bool a0.f_Explicit, .bool a0.f_NoMapping, .bool a0.f_NoAny, .sl 3 (List.map T_api_GeneralName.cells a0.f_Names) .none, .int .i64 a0.f_MaxLength, .bool a0.f_Status, .sl 4 (List.map T_api_Anchor.cells a0.f_Issuers) .none]], []⟩ ?_ ?_
 ·exact kE ⟨[0], 1, [], 0⟩
 refine b_seq ?_
 refine b_seq ?_
 obtain ⟨r1, hr1, h⟩ := bindE h
 refine reg ⟨95, [(1, .ptr 0 0), (4, .int .i64 r1)]⟩ ⟨[[.int .i64 a0.f_Time, .str a0.f_Purpose, .int .i64 a0.f_Usage, .sl 1 (List.map cS a0.f_Policies) .none, .bool a0.f_Explicit, .bool a0.f_NoMapping, .bool a0.f_NoAny, .sl 3 (List.map T_api_GeneralName.cells a0.f_Names) .none, .int .i64 a0.f_MaxLength, .bool a0.f_Status, .sl 4 (List.map T_api_Anchor.cells a0.f_Issuers) .none]], []⟩ ?_ ?_
 ·refine kC 1 ⟨[], 1, [], 0⟩ (go_validate_Query_ok hr1) ?_
  exact kE ⟨[0], 1, [], 0⟩
 refine b_seq ?_
 refine reg ⟨95, [(1, .ptr 0 0), (4, .int .i64 r1), (15, .bool (r1 != 0))]⟩ ⟨[[.int .i64 a0.f_Time, .str a0.f_Purpose, .int .i64 a0.f_Usage, .sl 1 (List.map cS a0.f_Policies) .none, .bool a0.f_Explicit, .bool a0.f_NoMapping, .bool a0.f_NoAny, .sl 3 (List.map T_api_GeneralName.cells a0.f_Names) .none, .int .i64 a0.f_MaxLength, .bool a0.f_Status, .sl 4 (List.map T_api_Anchor.cells a0.f_Issuers) .none]], []⟩ ?_ ?_
 ·exact kE ⟨[0], 1, [], 0⟩
 refine bif_ (r1 != 0) (fun hb => ?_) (fun hb => ?_)
 ·replace h := ite_t hb h
  refine b_seq ?_
  refine reg ⟨95, [(2, .str ([] : List UInt8)), (3, .int .i64 r1)]⟩ ⟨[], []⟩ ?_ ?_
  ·exact kE ⟨[], 1, [], 0⟩
  refine b_ret ?_
  obtain rfl := Option.some.inj h
  exact rtn ⟨[], 0, [], 0⟩ (.inr rfl)
 replace h := ite_f hb h
 refine b_skip ?_
 refine b_seq ?_
 refine reg ⟨95, [(1, .ptr 0 0), (5, .ptr 1 0)]⟩ ⟨[[.int .i64 a0.f_Time, .str a0.f_Purpose, .int .i64 a0.f_Usage, .sl 1 (List.map cS a0.f_Policies) .none, .bool a0.f_Explicit, .bool a0.f_NoMapping, .bool a0.f_NoAny, .sl 3 (List.map T_api_GeneralName.cells a0.f_Names) .none, .int .i64 a0.f_MaxLength, .bool a0.f_Status, .sl 4 (List.map T_api_Anchor.cells a0.f_Issuers) .none], [.str ([] : List UInt8), .int .i64 0]], []⟩ ?_ ?_
 ·exact kE ⟨[0, 1], 2, [], 0⟩
 refine b_seq ?_
 obtain ⟨r2, hr2, h⟩ := bindE h
 obtain ⟨r3, hr3, h⟩ := bindE h
 refine reg ⟨95, [(1, .ptr 0 0), (5, .ptr 1 0)]⟩ ⟨[[.int .i64 a0.f_Time, .str a0.f_Purpose, .int .i64 a0.f_Usage, .sl 1 (List.map cS a0.f_Policies) .none, .bool a0.f_Explicit, .bool a0.f_NoMapping, .bool a0.f_NoAny, .sl 3 (List.map T_api_GeneralName.cells a0.f_Names) .none, .int .i64 a0.f_MaxLength, .bool a0.f_Status, .sl 4 (List.map T_api_Anchor.cells a0.f_Issuers) .none], [.str r3.f_b, .int .i64 r3.f_e]], []⟩ ?_ ?_
 ·refine kC 2 ⟨[], 2, [], 0⟩ (go_date_Encode_ok hr2) ?_
  refine kC 5 ⟨[1], 2, [], 0⟩ (go_wire_buffer_add_ok hr3) ?_
  exact kE ⟨[0, 1], 2, [], 0⟩
 refine b_seq ?_
 refine b_seq ?_
 refine reg ⟨95, [(1, .ptr 0 0), (5, .ptr 1 0), (25, .bool (!(a0.f_Purpose == ([] : List UInt8))))]⟩ ⟨[[.int .i64 a0.f_Time, .str a0.f_Purpose, .int .i64 a0.f_Usage, .sl 1 (List.map cS a0.f_Policies) .none, .bool a0.f_Explicit, .bool a0.f_NoMapping, .bool a0.f_NoAny, .sl 3 (List.map T_api_GeneralName.cells a0.f_Names) .none, .int .i64 a0.f_MaxLength, .bool a0.f_Status, .sl 4 (List.map T_api_Anchor.cells a0.f_Issuers) .none], [.str r3.f_b, .int .i64 r3.f_e]], []⟩ ?_ ?_
 ·exact kE ⟨[0, 1], 2, [], 0⟩
 obtain ⟨y9, hE, h⟩ := bindE h
 refine b_cutE (Y := ((List UInt8) × Int)) (fun y9 => ⟨95, [(1, .ptr 0 0), (5, .ptr 1 0)]⟩) (fun y9 => ⟨[[.int .i64 a0.f_Time, .str a0.f_Purpose, .int .i64 a0.f_Usage, .sl 1 (List.map cS a0.f_Policies) .none, .bool a0.f_Explicit, .bool a0.f_NoMapping, .bool a0.f_NoAny, .sl 3 (List.map T_api_GeneralName.cells a0.f_Names) .none, .int .i64 a0.f_MaxLength, .bool a0.f_Status, .sl 4 (List.map T_api_Anchor.cells a0.f_Issuers) .none], [.str y9.1, .int .i64 y9.2]], []⟩) (fun z => y9 = z) ?_ cl_cons (fun z hz => ?_)
 ·replace h := hE
  refine bif_ (!(a0.f_Purpose == ([] : List UInt8))) (fun hb => ?_) (fun hb => ?_)
  ·replace h := ite_t hb h
   refine b_seq ?_
   obtain ⟨r11, hr11, h⟩ := bindE h
   refine reg ⟨95, [(1, .ptr 0 0), (5, .ptr 1 0), (6, .str r11.1), (7, .int .i64 r11.2)]⟩ ⟨[[.int .i64 a0.f_Time, .str a0.f_Purpose, .int .i64 a0.f_Usage, .sl 1 (List.map cS a0.f_Policies) .none, .bool a0.f_Explicit, .bool a0.f_NoMapping, .bool a0.f_NoAny, .sl 3 (List.map T_api_GeneralName.cells a0.f_Names) .none, .int .i64 a0.f_MaxLength, .bool a0.f_Status, .sl 4 (List.map T_api_Anchor.cells a0.f_Issuers) .none], [.str r3.f_b, .int .i64 r3.f_e]], []⟩ ?_ ?_
   ·refine kC 2 ⟨[], 2, [], 0⟩ (go_oid_Encode_ok hr11) ?_
    exact kE ⟨[0, 1], 2, [], 0⟩
   refine b_seq ?_
   obtain ⟨r12, hr12, h⟩ := bindE h
   refine reg ⟨95, [(1, .ptr 0 0), (5, .ptr 1 0), (6, .str r11.1)]⟩ ⟨[[.int .i64 a0.f_Time, .str a0.f_Purpose, .int .i64 a0.f_Usage, .sl 1 (List.map cS a0.f_Policies) .none, .bool a0.f_Explicit, .bool a0.f_NoMapping, .bool a0.f_NoAny, .sl 3 (List.map T_api_GeneralName.cells a0.f_Names) .none, .int .i64 a0.f_MaxLength, .bool a0.f_Status, .sl 4 (List.map T_api_Anchor.cells a0.f_Issuers) .none], [.str r12.f_b, .int .i64 r12.f_e]], []⟩ ?_ ?_
   ·refine kC 1 ⟨[1], 2, [], 0⟩ (go_wire_buffer_add_ok hr12) ?_
    exact kE ⟨[0, 1], 2, [], 0⟩
   obtain ⟨r13, hr13, h⟩ := bindE h
   refine regN ⟨95, [(1, .ptr 0 0), (5, .ptr 1 0)]⟩ ⟨[[.int .i64 a0.f_Time, .str a0.f_Purpose, .int .i64 a0.f_Usage, .sl 1 (List.map cS a0.f_Policies) .none, .bool a0.f_Explicit, .bool a0.f_NoMapping, .bool a0.f_NoAny, .sl 3 (List.map T_api_GeneralName.cells a0.f_Names) .none, .int .i64 a0.f_MaxLength, .bool a0.f_Status, .sl 4 (List.map T_api_Anchor.cells a0.f_Issuers) .none], [.str r13.f_b, .int .i64 r13.f_e]], []⟩ cl_loopT ?_ ?_
   ·refine kC 1 ⟨[1], 2, [], 0⟩ (go_wire_buffer_element_ok hr13) ?_
    exact kE ⟨[0, 1], 2, [], 0⟩
   exact ⟨(r13.f_b, r13.f_e), (Option.some.inj h).symm, wk ⟨[0, 1], 2, [], 0⟩⟩
  replace h := ite_f hb h
  refine b_skip ?_
  exact ⟨(r3.f_b, r3.f_e), (Option.some.inj h).symm, wk ⟨[0, 1], 2, [], 0⟩⟩
 subst hz
 refine b_seq ?_
 refine b_seq ?_
 refine reg ⟨95, [(1, .ptr 0 0), (5, .ptr 1 0), (38, .bool (a0.f_Usage != 0))]⟩ ⟨[[.int .i64 a0.f_Time, .str a0.f_Purpose, .int .i64 a0.f_Usage, .sl 1 (List.map cS a0.f_Policies) .none, .bool a0.f_Explicit, .bool a0.f_NoMapping, .bool a0.f_NoAny, .sl 3 (List.map T_api_GeneralName.cells a0.f_Names) .none, .int .i64 a0.f_MaxLength, .bool a0.f_Status, .sl 4 (List.map T_api_Anchor.cells a0.f_Issuers) .none], [.str y9.1, .int .i64 y9.2]], []⟩ ?_ ?_
 ·exact kE ⟨[0, 1], 2, [], 0⟩
 obtain ⟨y19, hE, h⟩ := bindE h
 refine b_cutE (Y := ((List UInt8) × Int)) (fun y19 => ⟨95, [(1, .ptr 0 0), (5, .ptr 1 0)]⟩) (fun y19 => ⟨[[.int .i64 a0.f_Time, .str a0.f_Purpose, .int .i64 a0.f_Usage, .sl 1 (List.map cS a0.f_Policies) .none, .bool a0.f_Explicit, .bool a0.f_NoMapping, .bool a0.f_NoAny, .sl 3 (List.map T_api_GeneralName.cells a0.f_Names) .none, .int .i64 a0.f_MaxLength, .bool a0.f_Status, .sl 4 (List.map T_api_Anchor.cells a0.f_Issuers) .none], [.str y19.1, .int .i64 y19.2]], []⟩) (fun z => y19 = z) ?_ cl_cons (fun z hz => ?_)
 ·replace h := hE
  refine bif_ (a0.f_Usage != 0) (fun hb => ?_) (fun hb => ?_)
  ·replace h := ite_t hb h
   refine b_seq ?_
   obtain ⟨r21, hr21, h⟩ := bindE h
   refine reg ⟨95, [(1, .ptr 0 0), (5, .ptr 1 0), (8, .str r21.1), (9, .int .i64 r21.2)]⟩ ⟨[[.int .i64 a0.f_Time, .str a0.f_Purpose, .int .i64 a0.f_Usage, .sl 1 (List.map cS a0.f_Policies) .none, .bool a0.f_Explicit, .bool a0.f_NoMapping, .bool a0.f_NoAny, .sl 3 (List.map T_api_GeneralName.cells a0.f_Names) .none, .int .i64 a0.f_MaxLength, .bool a0.f_Status, .sl 4 (List.map T_api_Anchor.cells a0.f_Issuers) .none], [.str y9.1, .int .i64 y9.2]], []⟩ ?_ ?_
   ·refine kC 2 ⟨[], 2, [], 0⟩ (go_prim_PutFlags_ok hr21) ?_
    exact kE ⟨[0, 1], 2, [], 0⟩
   refine b_seq ?_
   obtain ⟨r22, hr22, h⟩ := bindE h
   refine reg ⟨95, [(1, .ptr 0 0), (5, .ptr 1 0), (8, .str r21.1)]⟩ ⟨[[.int .i64 a0.f_Time, .str a0.f_Purpose, .int .i64 a0.f_Usage, .sl 1 (List.map cS a0.f_Policies) .none, .bool a0.f_Explicit, .bool a0.f_NoMapping, .bool a0.f_NoAny, .sl 3 (List.map T_api_GeneralName.cells a0.f_Names) .none, .int .i64 a0.f_MaxLength, .bool a0.f_Status, .sl 4 (List.map T_api_Anchor.cells a0.f_Issuers) .none], [.str r22.f_b, .int .i64 r22.f_e]], []⟩ ?_ ?_
   ·refine kC 1 ⟨[1], 2, [], 0⟩ (go_wire_buffer_add_ok hr22) ?_
    exact kE ⟨[0, 1], 2, [], 0⟩
   obtain ⟨r23, hr23, h⟩ := bindE h
   refine regN ⟨95, [(1, .ptr 0 0), (5, .ptr 1 0)]⟩ ⟨[[.int .i64 a0.f_Time, .str a0.f_Purpose, .int .i64 a0.f_Usage, .sl 1 (List.map cS a0.f_Policies) .none, .bool a0.f_Explicit, .bool a0.f_NoMapping, .bool a0.f_NoAny, .sl 3 (List.map T_api_GeneralName.cells a0.f_Names) .none, .int .i64 a0.f_MaxLength, .bool a0.f_Status, .sl 4 (List.map T_api_Anchor.cells a0.f_Issuers) .none], [.str r23.f_b, .int .i64 r23.f_e]], []⟩ cl_loopT ?_ ?_
   ·refine kC 1 ⟨[1], 2, [], 0⟩ (go_wire_buffer_element_ok hr23) ?_
    exact kE ⟨[0, 1], 2, [], 0⟩
   exact ⟨(r23.f_b, r23.f_e), (Option.some.inj h).symm, wk ⟨[0, 1], 2, [], 0⟩⟩
  replace h := ite_f hb h
  refine b_skip ?_
  exact ⟨(y9.1, y9.2), (Option.some.inj h).symm, wk ⟨[0, 1], 2, [], 0⟩⟩
 subst hz
 refine b_seq ?_
 refine b_seq ?_
 refine reg ⟨95, [(1, .ptr 0 0), (5, .ptr 1 0), (52, .bool (decide ((List.length a0.f_Policies : Int) > 0)))]⟩ ⟨[[.int .i64 a0.f_Time, .str a0.f_Purpose, .int .i64 a0.f_Usage, .sl 1 (List.map cS a0.f_Policies) .none, .bool a0.f_Explicit, .bool a0.f_NoMapping, .bool a0.f_NoAny, .sl 3 (List.map T_api_GeneralName.cells a0.f_Names) .none, .int .i64 a0.f_MaxLength, .bool a0.f_Status, .sl 4 (List.map T_api_Anchor.cells a0.f_Issuers) .none], [.str y19.1, .int .i64 y19.2]], []⟩ ?_ ?_
 ·refine kP 2 (x_len (c := cS) (l := a0.f_Policies) (e := 9) (sz := 1) (sz' := 1) (b := 16) (tok := .none)) ?_
  exact kE ⟨[0, 1], 2, [], 0⟩
 obtain ⟨y27, hE, h⟩ := bindE h
 refine b_cutE (Y := ((List UInt8) × Int)) (fun y27 => ⟨95, [(1, .ptr 0 0), (5, .ptr 1 0)]⟩) (fun y27 => ⟨[[.int .i64 a0.f_Time, .str a0.f_Purpose, .int .i64 a0.f_Usage, .sl 1 (List.map cS a0.f_Policies) .none, .bool a0.f_Explicit, .bool a0.f_NoMapping, .bool a0.f_NoAny, .sl 3 (List.map T_api_GeneralName.cells a0.f_Names) .none, .int .i64 a0.f_MaxLength, .bool a0.f_Status, .sl 4 (List.map T_api_Anchor.cells a0.f_Issuers) .none], [.str y27.1, .int .i64 y27.2]], []⟩) (fun z => y27 = z) ?_ cl_cons (fun z hz => ?_)
 ·replace h := hE
  refine bif_ (decide ((List.length a0.f_Policies : Int) > 0)) (fun hb => ?_) (fun hb => ?_)
  ·replace h := ite_t hb h
   obtain ⟨r29, hr29, h⟩ := bindE h
   refine regN ⟨95, [(1, .ptr 0 0), (5, .ptr 1 0)]⟩ ⟨[[.int .i64 a0.f_Time, .str a0.f_Purpose, .int .i64 a0.f_Usage, .sl 1 (List.map cS a0.f_Policies) .none, .bool a0.f_Explicit, .bool a0.f_NoMapping, .bool a0.f_NoAny, .sl 3 (List.map T_api_GeneralName.cells a0.f_Names) .none, .int .i64 a0.f_MaxLength, .bool a0.f_Status, .sl 4 (List.map T_api_Anchor.cells a0.f_Issuers) .none], [.str r29.f_b, .int .i64 r29.f_e]], []⟩ cl_loopT ?_ ?_
   ·refine kC 2 ⟨[1], 2, [], 0⟩ (go_wire_list_string_ok hr29) ?_
    exact kE ⟨[0, 1], 2, [], 0⟩
   exact ⟨(r29.f_b, r29.f_e), (Option.some.inj h).symm, wk ⟨[0, 1], 2, [], 0⟩⟩
  replace h := ite_f hb h
  refine b_skip ?_
  exact ⟨(y19.1, y19.2), (Option.some.inj h).symm, wk ⟨[0, 1], 2, [], 0⟩⟩
 subst hz
 refine b_seq ?_
 obtain ⟨r30, hr30, h⟩ := bindE h
 refine reg ⟨95, [(1, .ptr 0 0), (5, .ptr 1 0)]⟩ ⟨[[.int .i64 a0.f_Time, .str a0.f_Purpose, .int .i64 a0.f_Usage, .sl 1 (List.map cS a0.f_Policies) .none, .bool a0.f_Explicit, .bool a0.f_NoMapping, .bool a0.f_NoAny, .sl 3 (List.map T_api_GeneralName.cells a0.f_Names) .none, .int .i64 a0.f_MaxLength, .bool a0.f_Status, .sl 4 (List.map T_api_Anchor.cells a0.f_Issuers) .none], [.str r30.f_b, .int .i64 r30.f_e]], []⟩ ?_ ?_
 ·refine kC 2 ⟨[1], 2, [], 0⟩ (go_wire_buffer_boolean_ok hr30) ?_
  exact kE ⟨[0, 1], 2, [], 0⟩
 refine b_seq ?_
 obtain ⟨r31, hr31, h⟩ := bindE h
 refine reg ⟨95, [(1, .ptr 0 0), (5, .ptr 1 0)]⟩ ⟨[[.int .i64 a0.f_Time, .str a0.f_Purpose, .int .i64 a0.f_Usage, .sl 1 (List.map cS a0.f_Policies) .none, .bool a0.f_Explicit, .bool a0.f_NoMapping, .bool a0.f_NoAny, .sl 3 (List.map T_api_GeneralName.cells a0.f_Names) .none, .int .i64 a0.f_MaxLength, .bool a0.f_Status, .sl 4 (List.map T_api_Anchor.cells a0.f_Issuers) .none], [.str r31.f_b, .int .i64 r31.f_e]], []⟩ ?_ ?_
 ·refine kC 2 ⟨[1], 2, [], 0⟩ (go_wire_buffer_boolean_ok hr31) ?_
  exact kE ⟨[0, 1], 2, [], 0⟩
 refine b_seq ?_
 obtain ⟨r32, hr32, h⟩ := bindE h
 refine reg ⟨95, [(1, .ptr 0 0), (5, .ptr 1 0)]⟩ ⟨[[.int .i64 a0.f_Time, .str a0.f_Purpose, .int .i64 a0.f_Usage, .sl 1 (List.map cS a0.f_Policies) .none, .bool a0.f_Explicit, .bool a0.f_NoMapping, .bool a0.f_NoAny, .sl 3 (List.map T_api_GeneralName.cells a0.f_Names) .none, .int .i64 a0.f_MaxLength, .bool a0.f_Status, .sl 4 (List.map T_api_Anchor.cells a0.f_Issuers) .none], [.str r32.f_b, .int .i64 r32.f_e]], []⟩ ?_ ?_
 ·refine kC 2 ⟨[1], 2, [], 0⟩ (go_wire_buffer_boolean_ok hr32) ?_
  exact kE ⟨[0, 1], 2, [], 0⟩
 refine b_seq ?_
 refine b_seq ?_
 refine reg ⟨95, [(1, .ptr 0 0), (5, .ptr 1 0), (68, .bool (decide ((List.length a0.f_Names : Int) > 0)))]⟩ ⟨[[.int .i64 a0.f_Time, .str a0.f_Purpose, .int .i64 a0.f_Usage, .sl 1 (List.map cS a0.f_Policies) .none, .bool a0.f_Explicit, .bool a0.f_NoMapping, .bool a0.f_NoAny, .sl 3 (List.map T_api_GeneralName.cells a0.f_Names) .none, .int .i64 a0.f_MaxLength, .bool a0.f_Status, .sl 4 (List.map T_api_Anchor.cells a0.f_Issuers) .none], [.str r32.f_b, .int .i64 r32.f_e]], []⟩ ?_ ?_
 ·refine kP 2 (x_len (c := T_api_GeneralName.cells) (l := a0.f_Names) (e := 59) (sz := 3) (sz' := 3) (b := 48) (tok := .none)) ?_
  exact kE ⟨[0, 1], 2, [], 0⟩
 obtain ⟨y38, hE, h⟩ := bindE h
 refine b_cutE (Y := ((List UInt8) × Int)) (fun y38 => ⟨95, [(1, .ptr 0 0), (5, .ptr 1 0)]⟩) (fun y38 => ⟨[[.int .i64 a0.f_Time, .str a0.f_Purpose, .int .i64 a0.f_Usage, .sl 1 (List.map cS a0.f_Policies) .none, .bool a0.f_Explicit, .bool a0.f_NoMapping, .bool a0.f_NoAny, .sl 3 (List.map T_api_GeneralName.cells a0.f_Names) .none, .int .i64 a0.f_MaxLength, .bool a0.f_Status, .sl 4 (List.map T_api_Anchor.cells a0.f_Issuers) .none], [.str y38.1, .int .i64 y38.2]], []⟩) (fun z => y38 = z) ?_ cl_cons (fun z hz => ?_)
 ·replace h := hE
  refine bif_ (decide ((List.length a0.f_Names : Int) > 0)) (fun hb => ?_) (fun hb => ?_)
  ·replace h := ite_t hb h
   refine b_seq ?_
   obtain ⟨r40, hr40, h⟩ := bindE h
   refine reg ⟨95, [(1, .ptr 0 0), (5, .ptr 1 0), (10, .str r40.1), (11, .int .i64 r40.2)]⟩ ⟨[[.int .i64 a0.f_Time, .str a0.f_Purpose, .int .i64 a0.f_Usage, .sl 1 (List.map cS a0.f_Policies) .none, .bool a0.f_Explicit, .bool a0.f_NoMapping, .bool a0.f_NoAny, .sl 3 (List.map T_api_GeneralName.cells a0.f_Names) .none, .int .i64 a0.f_MaxLength, .bool a0.f_Status, .sl 4 (List.map T_api_Anchor.cells a0.f_Issuers) .none], [.str r32.f_b, .int .i64 r32.f_e]], []⟩ ?_ ?_
   ·refine kC 2 ⟨[], 2, [], 0⟩ (go_gname_EncodeList_ok hr40) ?_
    exact kE ⟨[0, 1], 2, [], 0⟩
   refine b_seq ?_
   obtain ⟨r41, hr41, h⟩ := bindE h
   refine reg ⟨95, [(1, .ptr 0 0), (5, .ptr 1 0), (10, .str r40.1)]⟩ ⟨[[.int .i64 a0.f_Time, .str a0.f_Purpose, .int .i64 a0.f_Usage, .sl 1 (List.map cS a0.f_Policies) .none, .bool a0.f_Explicit, .bool a0.f_NoMapping, .bool a0.f_NoAny, .sl 3 (List.map T_api_GeneralName.cells a0.f_Names) .none, .int .i64 a0.f_MaxLength, .bool a0.f_Status, .sl 4 (List.map T_api_Anchor.cells a0.f_Issuers) .none], [.str r41.f_b, .int .i64 r41.f_e]], []⟩ ?_ ?_
   ·refine kC 1 ⟨[1], 2, [], 0⟩ (go_wire_buffer_add_ok hr41) ?_
    exact kE ⟨[0, 1], 2, [], 0⟩
   obtain ⟨r42, hr42, h⟩ := bindE h
   refine regN ⟨95, [(1, .ptr 0 0), (5, .ptr 1 0)]⟩ ⟨[[.int .i64 a0.f_Time, .str a0.f_Purpose, .int .i64 a0.f_Usage, .sl 1 (List.map cS a0.f_Policies) .none, .bool a0.f_Explicit, .bool a0.f_NoMapping, .bool a0.f_NoAny, .sl 3 (List.map T_api_GeneralName.cells a0.f_Names) .none, .int .i64 a0.f_MaxLength, .bool a0.f_Status, .sl 4 (List.map T_api_Anchor.cells a0.f_Issuers) .none], [.str r42.f_b, .int .i64 r42.f_e]], []⟩ cl_loopT ?_ ?_
   ·refine kC 1 ⟨[1], 2, [], 0⟩ (go_wire_buffer_element_ok hr42) ?_
    exact kE ⟨[0, 1], 2, [], 0⟩
   exact ⟨(r42.f_b, r42.f_e), (Option.some.inj h).symm, wk ⟨[0, 1], 2, [], 0⟩⟩
  replace h := ite_f hb h
  refine b_skip ?_
  exact ⟨(r32.f_b, r32.f_e), (Option.some.inj h).symm, wk ⟨[0, 1], 2, [], 0⟩⟩
 subst hz
 refine b_seq ?_
 obtain ⟨r43, hr43, h⟩ := bindE h
 refine reg ⟨95, [(1, .ptr 0 0), (5, .ptr 1 0)]⟩ ⟨[[.int .i64 a0.f_Time, .str a0.f_Purpose, .int .i64 a0.f_Usage, .sl 1 (List.map cS a0.f_Policies) .none, .bool a0.f_Explicit, .bool a0.f_NoMapping, .bool a0.f_NoAny, .sl 3 (List.map T_api_GeneralName.cells a0.f_Names) .none, .int .i64 a0.f_MaxLength, .bool a0.f_Status, .sl 4 (List.map T_api_Anchor.cells a0.f_Issuers) .none], [.str r43.f_b, .int .i64 r43.f_e]], []⟩ ?_ ?_
 ·refine kC 2 ⟨[1], 2, [], 0⟩ (go_wire_buffer_number_ok hr43) ?_
  exact kE ⟨[0, 1], 2, [], 0⟩
 refine b_seq ?_
 obtain ⟨r44, hr44, h⟩ := bindE h
 refine reg ⟨95, [(1, .ptr 0 0), (5, .ptr 1 0)]⟩ ⟨[[.int .i64 a0.f_Time, .str a0.f_Purpose, .int .i64 a0.f_Usage, .sl 1 (List.map cS a0.f_Policies) .none, .bool a0.f_Explicit, .bool a0.f_NoMapping, .bool a0.f_NoAny, .sl 3 (List.map T_api_GeneralName.cells a0.f_Names) .none, .int .i64 a0.f_MaxLength, .bool a0.f_Status, .sl 4 (List.map T_api_Anchor.cells a0.f_Issuers) .none], [.str r44.f_b, .int .i64 r44.f_e]], []⟩ ?_ ?_
 ·refine kC 2 ⟨[1], 2, [], 0⟩ (go_wire_buffer_boolean_ok hr44) ?_
  exact kE ⟨[0, 1], 2, [], 0⟩
 refine b_seq ?_
 refine b_seq ?_
 refine reg ⟨95, [(1, .ptr 0 0), (5, .ptr 1 0), (88, .bool (decide ((List.length a0.f_Issuers : Int) > 0)))]⟩ ⟨[[.int .i64 a0.f_Time, .str a0.f_Purpose, .int .i64 a0.f_Usage, .sl 1 (List.map cS a0.f_Policies) .none, .bool a0.f_Explicit, .bool a0.f_NoMapping, .bool a0.f_NoAny, .sl 3 (List.map T_api_GeneralName.cells a0.f_Names) .none, .int .i64 a0.f_MaxLength, .bool a0.f_Status, .sl 4 (List.map T_api_Anchor.cells a0.f_Issuers) .none], [.str r44.f_b, .int .i64 r44.f_e]], []⟩ ?_ ?_
 ·refine kP 2 (x_len (c := T_api_Anchor.cells) (l := a0.f_Issuers) (e := 68) (sz := 4) (sz' := 4) (b := 64) (tok := .none)) ?_
  exact kE ⟨[0, 1], 2, [], 0⟩
 refine bif_ (decide ((List.length a0.f_Issuers : Int) > 0)) (fun hb => ?_) (fun hb => ?_)
 ·replace h := ite_t hb h
  obtain ⟨r45, hr45, h⟩ := bindE h
  refine reg ⟨95, [(5, .ptr 0 0)]⟩ ⟨[[.str r45.f_b, .int .i64 r45.f_e]], []⟩ ?_ ?_
  ·refine kC 2 ⟨[1], 2, [], 0⟩ (go_wire_list_api_Anchor_ok hr45) ?_
   exact kE ⟨[1], 2, [], 0⟩
  refine b_seq ?_
  obtain ⟨r46, hr46, h⟩ := bindE h
  refine reg ⟨95, [(2, .str r46.1), (3, .int .i64 r46.2.1)]⟩ ⟨[], []⟩ ?_ ?_
  ·refine kC 0 ⟨[0], 1, [], 0⟩ (go_wire_buffer_whole_ok hr46) ?_
   exact kE ⟨[], 1, [], 0⟩
  refine b_ret ?_
  obtain rfl := Option.some.inj h
  exact rtn ⟨[], 0, [], 0⟩ (.inr rfl)
 replace h := ite_f hb h
 refine b_skip ?_
 refine b_seq ?_
 obtain ⟨r47, hr47, h⟩ := bindE h
 refine reg ⟨95, [(2, .str r47.1), (3, .int .i64 r47.2.1)]⟩ ⟨[], []⟩ ?_ ?_
 ·refine kC 0 ⟨[1], 2, [], 0⟩ (go_wire_buffer_whole_ok hr47) ?_
  exact kE ⟨[], 2, [], 0⟩
 refine b_ret ?_
 obtain rfl := Option.some.inj h
 exact rtn ⟨[], 0, [], 0⟩ (.inr rfl)
def go_certpathmade_attribute (n : Nat) (m0 : T_certpathmade_Deck) : Option (T_api_Attribute × T_certpathmade_Deck) :=
 (go_certpathmade_Deck_Next n 12 m0).bind fun r1 =>
 (lidx ([(T_api_Attribute.mk ([50, 46, 53, 46, 52, 46, 51] : List UInt8) 12 ([65, 110, 110] : List UInt8)), (T_api_Attribute.mk ([50, 46, 53, 46, 52, 46, 51] : List UInt8) 19 ([32, 97, 110, 110] : List UInt8)), (T_api_Attribute.mk ([50, 46, 53, 46, 52, 46, 51] : List UInt8) 12 ([103, 114, 195, 182, 195, 159, 101] : List UInt8)), (T_api_Attribute.mk ([50, 46, 53, 46, 52, 46, 54] : List UInt8) 19 ([85, 83] : List UInt8)), (T_api_Attribute.mk ([50, 46, 53, 46, 52, 46, 49, 48] : List UInt8) 19 ([69, 120, 97, 109, 112, 108, 101, 32, 32, 67, 111, 114, 112] : List UInt8)), (T_api_Attribute.mk ([50, 46, 53, 46, 52, 46, 49, 48] : List UInt8) 12 ([101, 120, 97, 109, 112, 108, 101, 32, 99, 111, 114, 112] : List UInt8)), (T_api_Attribute.mk ([50, 46, 53, 46, 52, 46, 49, 49] : List UInt8) 22 ([97, 44, 98, 43, 99, 61, 100, 92, 101] : List UInt8)), (T_api_Attribute.mk ([48, 46, 57, 46, 50, 51, 52, 50, 46, 49, 57, 50, 48, 48, 51, 48, 48, 46, 49, 48, 48, 46, 49, 46, 50, 53] : List UInt8) 22 ([111, 114, 103] : List UInt8)), (T_api_Attribute.mk ([49, 46, 50, 46, 56, 52, 48, 46, 49, 49, 51, 53, 52, 57, 46, 49, 46, 57, 46, 49] : List UInt8) 22 ([97, 110, 110, 64, 101, 120, 97, 109, 112, 108, 101, 46, 111, 114, 103] : List UInt8)), (T_api_Attribute.mk ([49, 46, 50, 46, 56, 52, 48, 46, 49, 49, 51, 53, 52, 57, 46, 49, 46, 57, 46, 49] : List UInt8) 22 ([110, 111, 32, 97, 100, 100, 114, 101, 115, 115] : List UInt8)), (T_api_Attribute.mk ([50, 46, 53, 46, 52, 46, 57, 57] : List UInt8) 19 ([120] : List UInt8)), (T_api_Attribute.mk ([50, 46, 53, 46, 52, 46, 55] : List UInt8) 12 ([76] : List UInt8))] : List T_api_Attribute) r1.1).bind fun x2 =>
 some (x2, r1.2)
theorem go_certpathmade_attribute_ok {n : Nat} {m0 : T_certpathmade_Deck} {r : (T_api_Attribute × T_certpathmade_Deck)} (h : go_certpathmade_attribute n m0 = some r) : ACalls Tryz.prog (gl0 mx) 101 [.ptr 0 0] ⟨[[.sl 1 (List.map (cI .i64) m0.f_L) .none, .int .i64 m0.f_At]], []⟩ (Out (.agg [.str r.1.f_Type, .int .i64 r.1.f_Kind, .str r.1.f_Value]) ⟨[[.sl 1 (List.map (cI .i64) r.2.f_L) .none, .int .i64 r.2.f_At]], []⟩) := by
 delta go_certpathmade_attribute at h
 refine fnc Tryz.func101 rfl ?_
 refine b_seq ?_
 refine reg ⟨20, [(0, .ptr 0 0), (2, .ptr 1 0)]⟩ ⟨[[.sl 1 (List.map (cI .i64) m0.f_L) .none, .int .i64 m0.f_At], [.str ([] : List UInt8), .int .i64 0, .str ([] : List UInt8)]], []⟩ ?_ ?_
 ·exact kE ⟨[0, 1], 2, [], 0⟩
 refine b_seq ?_
 obtain ⟨r1, hr1, h⟩ := bindE h
 obtain ⟨x2, hx2, h⟩ := bindE h
 refine reg ⟨20, [(2, .ptr 1 0)]⟩ ⟨[[.sl 1 (List.map (cI .i64) r1.2.f_L) .none, .int .i64 r1.2.f_At], [.str x2.f_Type, .int .i64 x2.f_Kind, .str x2.f_Value]], []⟩ ?_ ?_
 ·refine kC 14 ⟨[0], 2, [], 0⟩ (go_certpathmade_Deck_Next_ok hr1) ?_
  refine kP 15 (x_lidx (c := T_api_Attribute.cells) (e := 140) (sz := 3) (b := 40) (tok := .exact) hx2) ?_
  exact kE ⟨[0, 1], 2, [], 0⟩
 refine b_ret ?_
 obtain rfl := Option.some.inj h
 exact rtn ⟨[0], 2, [], 0⟩ (.inr rfl)
def go_certpathmade_Name_l2 (n : Nat) : Nat → (List T_api_Attribute) → Int → (List Int) → Int → Option ((List T_api_Attribute) × (List Int) × Int)
 | 0, _, _, _, _ => none
 | k + 1, v2438, v2439, v2440, v2441 =>
  if (decide (v2439 > 0)) = true then (((go_certpathmade_attribute n (T_certpathmade_Deck.mk v2440 v2441)).bind fun r2477 =>
  (if ((List.length v2438 : Int) == 0) = true then (some true) else ((lidx v2438 0).bind fun x2478 =>
  some (!(x2478.f_Type == r2477.1.f_Type)))).bind fun y2480 =>
  if y2480 = true then ((lapp 40 v2438 ([r2477.1] : List T_api_Attribute)).bind fun x2481 =>
  some (x2481, r2477.2.f_L, r2477.2.f_At)) else (some (v2438, r2477.2.f_L, r2477.2.f_At))).bind fun y2475 =>
  go_certpathmade_Name_l2 n k y2475.1 (IntKind.wrap .i64 (v2439 - 1)) y2475.2.1 y2475.2.2) else (some (v2438, v2440, v2441))
def go_certpathmade_Name_l1 (n : Nat) : Nat → Int → (List Int) → Int → (List (List T_api_Attribute)) → Option ((List Int) × Int × (List (List T_api_Attribute)))
 | 0, _, _, _, _ => none
 | k + 1, v1657, v1658, v1659, v1660 =>
  if (decide (v1657 > 0)) = true then ((go_certpathmade_Deck_Next n 5 (T_certpathmade_Deck.mk v1658 v1659)).bind fun r2346 =>
  (go_certpathmade_Name_l2 n n ([] : List T_api_Attribute) (IntKind.wrap .i64 ((1 : Int) + (IntKind.wrap .i64 (Int.tdiv r2346.1 4)))) r2346.2.f_L r2346.2.f_At).bind fun y2415 =>
  (lapp 24 v1660 ([y2415.1] : List (List T_api_Attribute))).bind fun x2482 =>
  go_certpathmade_Name_l1 n k (IntKind.wrap .i64 (v1657 - 1)) y2415.2.1 y2415.2.2 x2482) else (some (v1658, v1659, v1660))
def go_certpathmade_Name (n : Nat) (m0 : T_certpathmade_Deck) : Option (T_api_Name × T_certpathmade_Deck) :=
 (go_certpathmade_Deck_Next n 4 m0).bind fun r1 =>
 (go_certpathmade_Name_l1 n  n r1.1 r1.2.f_L r1.2.f_At ([] : List (List T_api_Attribute))).bind fun y1243 =>
 some ((T_api_Name.mk y1243.2.2), (T_certpathmade_Deck.mk y1243.1 y1243.2.1))
theorem go_certpathmade_Name_ok {n : Nat} {m0 : T_certpathmade_Deck} {r : (T_api_Name × T_certpathmade_Deck)} (h : go_certpathmade_Name n m0 = some r) : ACalls Tryz.prog (gl0 mx) 34 [.ptr 0 0] ⟨[[.sl 1 (List.map (cI .i64) m0.f_L) .none, .int .i64 m0.f_At]], []⟩ (Out (.agg [.sl 1 (List.map (cL 3 T_api_Attribute.cells) r.1.f_RDNs) .none]) ⟨[[.sl 1 (List.map (cI .i64) r.2.f_L) .none, .int .i64 r.2.f_At]], []⟩) := by
 delta go_certpathmade_Name at h
 refine fnc Tryz.func34 rfl ?_
 refine b_seq ?_
 refine reg ⟨48, [(0, .ptr 0 0), (2, .ptr 1 0)]⟩ ⟨[[.sl 1 (List.map (cI .i64) m0.f_L) .none, .int .i64 m0.f_At], [.nilsl]], []⟩ ?_ ?_
 ·exact kE ⟨[0, 1], 2, [], 0⟩
 refine b_seq ?_
 refine reg ⟨48, [(0, .ptr 0 0), (2, .ptr 1 0), (3, .ptr 2 0)]⟩ ⟨[[.sl 1 (List.map (cI .i64) m0.f_L) .none, .int .i64 m0.f_At], [.nilsl], [.nilsl]], []⟩ ?_ ?_
 ·exact kE ⟨[0, 1, 2], 3, [], 0⟩
 refine b_seq ?_
 refine b_seq ?_
 obtain ⟨r1, hr1, h⟩ := bindE h
 refine reg ⟨48, [(0, .ptr 0 0), (2, .ptr 1 0), (3, .ptr 2 0), (4, .int .i64 r1.1)]⟩ ⟨[[.sl 1 (List.map (cI .i64) r1.2.f_L) .none, .int .i64 r1.2.f_At], [.nilsl], [.nilsl]], []⟩ ?_ ?_
 ·refine kC 1 ⟨[0], 3, [], 0⟩ (go_certpathmade_Deck_Next_ok hr1) ?_
  exact kE ⟨[0, 1, 2], 3, [], 0⟩
 obtain ⟨y1243, hE, h⟩ := bindE h
 refine b_blockE (Y := ((List Int) × Int × (List (List T_api_Attribute)))) (fun y1243 => ⟨48, [(2, .ptr 1 0), (3, .ptr 2 0)]⟩) (fun y1243 => ⟨[[.sl 1 (List.map (cI .i64) y1243.1) .none, .int .i64 y1243.2.1], [.nilsl], [.sl 1 (List.map (cL 3 T_api_Attribute.cells) y1243.2.2) (.fam 0 (List.length y1243.2.2))]], [List.length y1243.2.2]⟩) (fun z => y1243 = z) ?_ cl_cons (fun z hz => ?_)
 ·replace h := hE
  refine b_wk (wk (fr' := ⟨48, [(0, .ptr 0 0), (2, .ptr 1 0), (3, .ptr 2 0), (4, .int .i64 r1.1)]⟩) (st' := ⟨[[.sl 1 (List.map (cI .i64) r1.2.f_L) .none, .int .i64 r1.2.f_At], [.nilsl], [.nilsl]], []⟩) ⟨[0, 1, 2], 3, [], 0⟩) ?_
  refine b_wk Wk.nilFam ?_
  refine b_loop (X := (Int × (List Int) × Int × (List (List T_api_Attribute)))) (fun x => ⟨48, [(0, .ptr 0 0), (2, .ptr 1 0), (3, .ptr 2 0), (4, .int .i64 x.1)]⟩) (fun x => ⟨[[.sl 1 (List.map (cI .i64) x.2.1) .none, .int .i64 x.2.2.1], [.nilsl], [.sl 1 (List.map (cL 3 T_api_Attribute.cells) x.2.2.2) (.fam 0 (List.length x.2.2.2))]], [List.length x.2.2.2]⟩) (fun k x => go_certpathmade_Name_l1 n  k x.1 x.2.1 x.2.2.1 x.2.2.2 = some y1243) (fun _ hx => by simp [go_certpathmade_Name_l1] at hx) n (r1.1, r1.2.f_L, r1.2.f_At, ([] : List (List T_api_Attribute))) h (wk ⟨[0, 1, 2], 3, [0], 1⟩) (fun k x h => ?_)
  obtain ⟨v1657, v1658, v1659, v1660⟩ := x
  rw [go_certpathmade_Name_l1] at h
  refine b_seq ?_
  refine b_seq ?_
  refine reg ⟨48, [(0, .ptr 0 0), (2, .ptr 1 0), (3, .ptr 2 0), (4, .int .i64 v1657), (12, .bool (decide (v1657 > 0)))]⟩ ⟨[[.sl 1 (List.map (cI .i64) v1658) .none, .int .i64 v1659], [.nilsl], [.sl 1 (List.map (cL 3 T_api_Attribute.cells) v1660) (.fam 0 (List.length v1660))]], [List.length v1660]⟩ ?_ ?_
  ·exact kE ⟨[0, 1, 2], 3, [0], 1⟩
  refine bif_ (decide (v1657 > 0)) (fun hb => ?_) (fun hb => ?_)
  ·replace h := ite_t hb h
   refine b_skip ?_
   refine b_seq ?_
   refine b_block ?_
   refine b_seq ?_
   refine reg ⟨48, [(0, .ptr 0 0), (2, .ptr 1 0), (3, .ptr 2 0), (4, .int .i64 v1657), (5, .nilsl)]⟩ ⟨[[.sl 1 (List.map (cI .i64) v1658) .none, .int .i64 v1659], [.nilsl], [.sl 1 (List.map (cL 3 T_api_Attribute.cells) v1660) (.fam 0 (List.length v1660))]], [List.length v1660]⟩ ?_ ?_
   ·exact kE ⟨[0, 1, 2], 3, [0], 1⟩
   refine b_seq ?_
   refine b_seq ?_
   obtain ⟨r2346, hr2346, h⟩ := bindE h
   refine reg ⟨48, [(0, .ptr 0 0), (2, .ptr 1 0), (3, .ptr 2 0), (4, .int .i64 v1657), (5, .nilsl), (6, .int .i64 (IntKind.wrap .i64 ((1 : Int) + (IntKind.wrap .i64 (Int.tdiv r2346.1 4)))))]⟩ ⟨[[.sl 1 (List.map (cI .i64) r2346.2.f_L) .none, .int .i64 r2346.2.f_At], [.nilsl], [.sl 1 (List.map (cL 3 T_api_Attribute.cells) v1660) (.fam 0 (List.length v1660))]], [List.length v1660]⟩ ?_ ?_
   ·refine kC 1 ⟨[0], 3, [], 1⟩ (go_certpathmade_Deck_Next_ok hr2346) ?_
    exact kE ⟨[0, 1, 2], 3, [0], 1⟩
   obtain ⟨y2415, hE, h⟩ := bindE h
   refine b_blockE (Y := ((List T_api_Attribute) × (List Int) × Int)) (fun y2415 => ⟨48, [(0, .ptr 0 0), (2, .ptr 1 0), (3, .ptr 2 0), (4, .int .i64 v1657), (5, .sl 3 (List.map T_api_Attribute.cells y2415.1) (.fam 1 (List.length y2415.1)))]⟩) (fun y2415 => ⟨[[.sl 1 (List.map (cI .i64) y2415.2.1) .none, .int .i64 y2415.2.2], [.nilsl], [.sl 1 (List.map (cL 3 T_api_Attribute.cells) v1660) (.fam 0 (List.length v1660))]], [List.length v1660, List.length y2415.1]⟩) (fun z => y2415 = z) ?_ cl_cons (fun z hz => ?_)
   ·replace h := hE
    refine b_wk (wk (fr' := ⟨48, [(0, .ptr 0 0), (2, .ptr 1 0), (3, .ptr 2 0), (4, .int .i64 v1657), (5, .nilsl), (6, .int .i64 (IntKind.wrap .i64 ((1 : Int) + (IntKind.wrap .i64 (Int.tdiv r2346.1 4)))))]⟩) (st' := ⟨[[.sl 1 (List.map (cI .i64) r2346.2.f_L) .none, .int .i64 r2346.2.f_At], [.nilsl], [.sl 1 (List.map (cL 3 T_api_Attribute.cells) v1660) (.fam 0 (List.length v1660))]], [List.length v1660]⟩) ⟨[0, 1, 2], 3, [0], 1⟩) ?_
    refine b_wk Wk.nilFam ?_
    refine b_loop (X := ((List T_api_Attribute) × Int × (List Int) × Int)) (fun x => ⟨48, [(0, .ptr 0 0), (2, .ptr 1 0), (3, .ptr 2 0), (4, .int .i64 v1657), (5, .sl 3 (List.map T_api_Attribute.cells x.1) (.fam 1 (List.length x.1))), (6, .int .i64 x.2.1)]⟩) (fun x => ⟨[[.sl 1 (List.map (cI .i64) x.2.2.1) .none, .int .i64 x.2.2.2], [.nilsl], [.sl 1 (List.map (cL 3 T_api_Attribute.cells) v1660) (.fam 0 (List.length v1660))]], [List.length v1660, List.length x.1]⟩) (fun k x => go_certpathmade_Name_l2 n  k x.1 x.2.1 x.2.2.1 x.2.2.2 = some y2415) (fun _ hx => by simp [go_certpathmade_Name_l2] at hx) n (([] : List T_api_Attribute), IntKind.wrap .i64 ((1 : Int) + (IntKind.wrap .i64 (Int.tdiv r2346.1 4))), r2346.2.f_L, r2346.2.f_At) h (wk ⟨[0, 1, 2], 3, [0, 1], 2⟩) (fun k x h => ?_)
    obtain ⟨v2438, v2439, v2440, v2441⟩ := x
    rw [go_certpathmade_Name_l2] at h
    refine b_seq ?_
    refine b_seq ?_
    refine reg ⟨48, [(0, .ptr 0 0), (2, .ptr 1 0), (3, .ptr 2 0), (4, .int .i64 v1657), (5, .sl 3 (List.map T_api_Attribute.cells v2438) (.fam 1 (List.length v2438))), (6, .int .i64 v2439), (20, .bool (decide (v2439 > 0)))]⟩ ⟨[[.sl 1 (List.map (cI .i64) v2440) .none, .int .i64 v2441], [.nilsl], [.sl 1 (List.map (cL 3 T_api_Attribute.cells) v1660) (.fam 0 (List.length v1660))]], [List.length v1660, List.length v2438]⟩ ?_ ?_
    ·exact kE ⟨[0, 1, 2], 3, [0, 1], 2⟩
    refine bif_ (decide (v2439 > 0)) (fun hb => ?_) (fun hb => ?_)
    ·replace h := ite_t hb h
     refine b_skip ?_
     refine b_seq ?_
     obtain ⟨y2475, hE, h⟩ := bindE h
     refine b_blockE (Y := ((List T_api_Attribute) × (List Int) × Int)) (fun y2475 => ⟨48, [(0, .ptr 0 0), (2, .ptr 1 0), (3, .ptr 2 0), (4, .int .i64 v1657), (5, .sl 3 (List.map T_api_Attribute.cells y2475.1) (.fam 1 (List.length y2475.1))), (6, .int .i64 v2439)]⟩) (fun y2475 => ⟨[[.sl 1 (List.map (cI .i64) y2475.2.1) .none, .int .i64 y2475.2.2], [.nilsl], [.sl 1 (List.map (cL 3 T_api_Attribute.cells) v1660) (.fam 0 (List.length v1660))]], [List.length v1660, List.length y2475.1]⟩) (fun z => y2475 = z) ?_ cl_cons (fun z hz => ?_)
     ·replace h := hE
      refine b_seq ?_
      obtain ⟨r2477, hr2477, h⟩ := bindE h
      refine reg ⟨48, [(0, .ptr 0 0), (2, .ptr 1 0), (3, .ptr 2 0), (4, .int .i64 v1657), (5, .sl 3 (List.map T_api_Attribute.cells v2438) (.fam 1 (List.length v2438))), (6, .int .i64 v2439), (7, .ptr 3 0)]⟩ ⟨[[.sl 1 (List.map (cI .i64) r2477.2.f_L) .none, .int .i64 r2477.2.f_At], [.nilsl], [.sl 1 (List.map (cL 3 T_api_Attribute.cells) v1660) (.fam 0 (List.length v1660))], [.str r2477.1.f_Type, .int .i64 r2477.1.f_Kind, .str r2477.1.f_Value]], [List.length v1660, List.length v2438]⟩ ?_ ?_
      ·refine kC 1 ⟨[0], 3, [], 2⟩ (go_certpathmade_attribute_ok hr2477) ?_
       exact kE ⟨[0, 1, 2, 3], 4, [0, 1], 2⟩
      refine b_seq ?_
      obtain ⟨y2480, hE, h⟩ := bindE h
      refine drw [0, 1, 2, 3, 4, 5, 6, 7, 8, 9, 10, 11] [] [[], [0], [0, 1], [0, 1, 2], [0, 1, 2, 3], [0, 1, 2, 3, 4], [0, 1, 2, 3, 4, 5], [0, 1, 2, 3, 4, 5, 6], [0, 1, 2, 3], [0, 1, 2, 3, 8], [0, 1, 2, 3, 4, 5, 6, 7, 8, 9], [0, 1, 2, 3, 4, 5, 6, 7, 8, 9, 10]] ⟨48, [(0, .ptr 0 0), (2, .ptr 1 0), (3, .ptr 2 0), (4, .int .i64 v1657), (5, .sl 3 (List.map T_api_Attribute.cells v2438) (.fam 1 (List.length v2438))), (6, .int .i64 v2439), (7, .ptr 3 0), (36, .bool y2480)]⟩ ⟨[[.sl 1 (List.map (cI .i64) r2477.2.f_L) .none, .int .i64 r2477.2.f_At], [.nilsl], [.sl 1 (List.map (cL 3 T_api_Attribute.cells) v1660) (.fam 0 (List.length v1660))], [.str r2477.1.f_Type, .int .i64 r2477.1.f_Kind, .str r2477.1.f_Value]], [List.length v1660, List.length v2438]⟩ ?_ ?_
      ·replace h := hE
       refine dS [0] ?_
       refine dP (x_len (c := T_api_Attribute.cells) (l := v2438) (e := 140) (sz := 3) (sz' := 3) (b := 40) (tok := (.fam 1 (List.length v2438)))) ?_
       refine dS [2, 3] ?_
       refine dG 28 ((List.length v2438 : Int) == 0) (fun hb => ?_) (fun hb => ?_)
       ·have h := ite_t hb h
        refine dS [4, 5, 6, 7, 8, 9, 10, 11] ?_
        obtain rfl := Option.some.inj h
        exact dE ⟨[0, 1, 2, 3], 4, [0, 1], 2⟩
       have h := ite_f hb h
       obtain ⟨x2478, hx2478, h⟩ := bindE h
       refine dS [4] ?_
       refine dP (x_lidx (c := T_api_Attribute.cells) (e := 140) (sz := 3) (b := 40) (tok := (.fam 1 (List.length v2438))) hx2478) ?_
       refine dS [6, 7, 8, 9, 10, 11] ?_
       obtain rfl := Option.some.inj h
       exact dE ⟨[0, 1, 2, 3], 4, [0, 1], 2⟩
      refine bif_ (y2480) (fun hb => ?_) (fun hb => ?_)
      ·replace h := ite_t hb h
       obtain ⟨x2481, hx2481, h⟩ := bindE h
       refine regN ⟨48, [(0, .ptr 0 0), (2, .ptr 1 0), (3, .ptr 2 0), (4, .int .i64 v1657), (5, .sl 3 (List.map T_api_Attribute.cells x2481) (.fam 1 (List.length x2481))), (6, .int .i64 v2439)]⟩ ⟨[[.sl 1 (List.map (cI .i64) r2477.2.f_L) .none, .int .i64 r2477.2.f_At], [.nilsl], [.sl 1 (List.map (cL 3 T_api_Attribute.cells) v1660) (.fam 0 (List.length v1660))]], [List.length v1660, List.length x2481]⟩ cl_blockL ?_ ?_
       ·refine kA 3 1 T_api_Attribute.cells (e := 140) (e2 := 140) (sz := 3) (bytes := 40) (b2 := 40) (tok2 := .exact) hx2481 ?_
        exact kE ⟨[0, 1, 2], 4, [0, 1], 2⟩
       exact ⟨(x2481, r2477.2.f_L, r2477.2.f_At), (Option.some.inj h).symm, wk ⟨[0, 1, 2], 3, [0, 1], 2⟩⟩
      replace h := ite_f hb h
      refine b_skip ?_
      exact ⟨(v2438, r2477.2.f_L, r2477.2.f_At), (Option.some.inj h).symm, wk ⟨[0, 1, 2], 4, [0, 1], 2⟩⟩
     subst hz
     refine regN ⟨48, [(0, .ptr 0 0), (2, .ptr 1 0), (3, .ptr 2 0), (4, .int .i64 v1657), (5, .sl 3 (List.map T_api_Attribute.cells y2475.1) (.fam 1 (List.length y2475.1))), (6, .int .i64 (IntKind.wrap .i64 (v2439 - 1)))]⟩ ⟨[[.sl 1 (List.map (cI .i64) y2475.2.1) .none, .int .i64 y2475.2.2], [.nilsl], [.sl 1 (List.map (cL 3 T_api_Attribute.cells) v1660) (.fam 0 (List.length v1660))]], [List.length v1660, List.length y2475.1]⟩ cl_loopT ?_ ?_
     ·exact kE ⟨[0, 1, 2], 3, [0, 1], 2⟩
     exact ⟨(y2475.1, IntKind.wrap .i64 (v2439 - 1), y2475.2.1, y2475.2.2), h, wk ⟨[0, 1, 2], 3, [0, 1], 2⟩⟩
    replace h := ite_f hb h
    refine b_exit ?_
    refine tk_exit ?_
    refine bl_exit ?_
    exact ⟨(v2438, v2440, v2441), (Option.some.inj h).symm, wk ⟨[0, 1, 2], 3, [0, 1], 2⟩⟩
   subst hz
   obtain ⟨x2482, hx2482, h⟩ := bindE h
   refine regN ⟨48, [(0, .ptr 0 0), (2, .ptr 1 0), (3, .ptr 2 0), (4, .int .i64 v1657)]⟩ ⟨[[.sl 1 (List.map (cI .i64) y2415.2.1) .none, .int .i64 y2415.2.2], [.nilsl], [.sl 1 (List.map (cL 3 T_api_Attribute.cells) x2482) (.fam 0 (List.length x2482))]], [List.length x2482]⟩ cl_cons ?_ ?_
   ·refine kA 4 0 (cL 3 T_api_Attribute.cells) (e := 141) (e2 := 141) (sz := 1) (bytes := 24) (b2 := 24) (tok2 := .exact) hx2482 ?_
    exact kE ⟨[0, 1, 2], 3, [0], 2⟩
   refine bk_norm ?_
   refine regN ⟨48, [(0, .ptr 0 0), (2, .ptr 1 0), (3, .ptr 2 0), (4, .int .i64 (IntKind.wrap .i64 (v1657 - 1)))]⟩ ⟨[[.sl 1 (List.map (cI .i64) y2415.2.1) .none, .int .i64 y2415.2.2], [.nilsl], [.sl 1 (List.map (cL 3 T_api_Attribute.cells) x2482) (.fam 0 (List.length x2482))]], [List.length x2482]⟩ cl_loopT ?_ ?_
   ·exact kE ⟨[0, 1, 2], 3, [0], 1⟩
   exact ⟨(IntKind.wrap .i64 (v1657 - 1), y2415.2.1, y2415.2.2, x2482), h, wk ⟨[0, 1, 2], 3, [0], 1⟩⟩
  replace h := ite_f hb h
  refine b_exit ?_
  refine tk_exit ?_
  refine bl_exit ?_
  exact ⟨(v1658, v1659, v1660), (Option.some.inj h).symm, wk ⟨[0, 1, 2], 3, [0], 1⟩⟩
 subst hz
 refine b_seq ?_
 refine reg ⟨48, [(2, .ptr 1 0)]⟩ ⟨[[.sl 1 (List.map (cI .i64) y1243.1) .none, .int .i64 y1243.2.1], [.sl 1 (List.map (cL 3 T_api_Attribute.cells) y1243.2.2) (.fam 0 (List.length y1243.2.2))]], [List.length y1243.2.2]⟩ ?_ ?_
 ·exact kE ⟨[0, 1], 3, [0], 1⟩
 refine b_ret ?_
 obtain rfl := Option.some.inj h
 exact rtn ⟨[0], 2, [], 1⟩ (.inr rfl)
def go_certpathmade_General (n : Nat) (m0 : T_certpathmade_Deck) : Option (T_api_GeneralName × T_certpathmade_Deck) :=
 (go_certpathmade_Deck_Next n 4 m0).bind fun r1 =>
 if (r1.1 == 0) = true then ((go_certpathmade_Deck_Next n 6 r1.2).bind fun r8 =>
 (lidx ([([97, 110, 110, 64, 101, 120, 97, 109, 112, 108, 101, 46, 111, 114, 103] : List UInt8), ([65, 78, 78, 64, 101, 120, 97, 109, 112, 108, 101, 46, 111, 114, 103] : List UInt8), ([97, 110, 110, 64, 69, 120, 97, 109, 112, 108, 101, 46, 79, 82, 71] : List UInt8), ([98, 46, 99, 64, 109, 97, 105, 108, 46, 101, 120, 97, 109, 112, 108, 101, 46, 111, 114, 103] : List UInt8), ([120, 64, 111, 114, 103] : List UInt8), ([97, 39, 98, 64, 97, 46, 98] : List UInt8)] : List (List UInt8)) r8.1).bind fun x9 =>
 some ((T_api_GeneralName.mk 1 x9 (T_api_Name.mk ([] : (List (List T_api_Attribute))))), r8.2)) else (if (r1.1 == 1) = true then ((go_certpathmade_Deck_Next n 7 r1.2).bind fun r10 =>
 (lidx ([([101, 120, 97, 109, 112, 108, 101, 46, 111, 114, 103] : List UInt8), ([119, 119, 119, 46, 101, 120, 97, 109, 112, 108, 101, 46, 111, 114, 103] : List UInt8), ([87, 87, 87, 46, 69, 120, 97, 109, 112, 108, 101, 46, 111, 114, 103] : List UInt8), ([42, 46, 101, 120, 97, 109, 112, 108, 101, 46, 111, 114, 103] : List UInt8), ([97, 46, 98] : List UInt8), ([111, 114, 103] : List UInt8), ([109, 121, 101, 120, 97, 109, 112, 108, 101, 46, 111, 114, 103] : List UInt8)] : List (List UInt8)) r10.1).bind fun x11 =>
 some ((T_api_GeneralName.mk 2 x11 (T_api_Name.mk ([] : (List (List T_api_Attribute))))), r10.2)) else (if (r1.1 == 2) = true then ((go_certpathmade_Deck_Next n 4 r1.2).bind fun r12 =>
 (lidx ([([10, 0, 0, 1] : List UInt8), ([10, 1, 2, 3] : List UInt8), ([192, 168, 1, 7] : List UInt8), ([32, 1, 13, 184, 0, 0, 0, 0, 0, 0, 0, 0, 0, 0, 0, 1] : List UInt8)] : List (List UInt8)) r12.1).bind fun x13 =>
 some ((T_api_GeneralName.mk 7 x13 (T_api_Name.mk ([] : (List (List T_api_Attribute))))), r12.2)) else ((go_certpathmade_Name n r1.2).bind fun r14 =>
 some ((T_api_GeneralName.mk 4 ([] : List UInt8) r14.1), r14.2))))
theorem go_certpathmade_General_ok {n : Nat} {m0 : T_certpathmade_Deck} {r : (T_api_GeneralName × T_certpathmade_Deck)} (h : go_certpathmade_General n m0 = some r) : ACalls Tryz.prog (gl0 mx) 30 [.ptr 0 0] ⟨[[.sl 1 (List.map (cI .i64) m0.f_L) .none, .int .i64 m0.f_At]], []⟩ (Out (.agg [.int .i64 r.1.f_Kind, .str r.1.f_Text, .sl 1 (List.map (cL 3 T_api_Attribute.cells) r.1.f_Name.f_RDNs) .none]) ⟨[[.sl 1 (List.map (cI .i64) r.2.f_L) .none, .int .i64 r.2.f_At]], []⟩) := by
 delta go_certpathmade_General at h
 refine fnc Tryz.func30 rfl ?_
 refine b_seq ?_
 refine reg ⟨32, [(0, .ptr 0 0), (2, .ptr 1 0)]⟩ ⟨[[.sl 1 (List.map (cI .i64) m0.f_L) .none, .int .i64 m0.f_At], [.int .i64 0, .str ([] : List UInt8), .nilsl]], []⟩ ?_ ?_
 ·exact kE ⟨[0, 1], 2, [], 0⟩
 refine b_seq ?_
 refine b_seq ?_
 obtain ⟨r1, hr1, h⟩ := bindE h
 refine reg ⟨32, [(0, .ptr 0 0), (2, .ptr 1 0), (4, .int .i64 r1.1)]⟩ ⟨[[.sl 1 (List.map (cI .i64) r1.2.f_L) .none, .int .i64 r1.2.f_At], [.int .i64 0, .str ([] : List UInt8), .nilsl]], []⟩ ?_ ?_
 ·refine kC 1 ⟨[0], 2, [], 0⟩ (go_certpathmade_Deck_Next_ok hr1) ?_
  exact kE ⟨[0, 1], 2, [], 0⟩
 refine b_block ?_
 refine b_seq ?_
 refine reg ⟨32, [(0, .ptr 0 0), (2, .ptr 1 0), (4, .int .i64 r1.1), (5, .bool (r1.1 == 0))]⟩ ⟨[[.sl 1 (List.map (cI .i64) r1.2.f_L) .none, .int .i64 r1.2.f_At], [.int .i64 0, .str ([] : List UInt8), .nilsl]], []⟩ ?_ ?_
 ·exact kE ⟨[0, 1], 2, [], 0⟩
 refine bif_ (r1.1 == 0) (fun hb => ?_) (fun hb => ?_)
 ·replace h := ite_t hb h
  refine b_seq ?_
  obtain ⟨r8, hr8, h⟩ := bindE h
  obtain ⟨x9, hx9, h⟩ := bindE h
  refine reg ⟨32, [(2, .ptr 1 0)]⟩ ⟨[[.sl 1 (List.map (cI .i64) r8.2.f_L) .none, .int .i64 r8.2.f_At], [.int .i64 1, .str x9, .nilsl]], []⟩ ?_ ?_
  ·refine kC 2 ⟨[0], 2, [], 0⟩ (go_certpathmade_Deck_Next_ok hr8) ?_
   refine kP 3 (x_lidx (c := cS) (e := 9) (sz := 1) (b := 16) (tok := .exact) hx9) ?_
   exact kE ⟨[0, 1], 2, [], 0⟩
  refine b_ret ?_
  refine bk_ret ?_
  obtain rfl := Option.some.inj h
  exact rtn ⟨[0], 2, [], 0⟩ (.inr rfl)
 replace h := ite_f hb h
 refine b_seq ?_
 refine reg ⟨32, [(0, .ptr 0 0), (2, .ptr 1 0), (4, .int .i64 r1.1), (13, .bool (r1.1 == 1))]⟩ ⟨[[.sl 1 (List.map (cI .i64) r1.2.f_L) .none, .int .i64 r1.2.f_At], [.int .i64 0, .str ([] : List UInt8), .nilsl]], []⟩ ?_ ?_
 ·exact kE ⟨[0, 1], 2, [], 0⟩
 refine bif_ (r1.1 == 1) (fun hb => ?_) (fun hb => ?_)
 ·replace h := ite_t hb h
  refine b_seq ?_
  obtain ⟨r10, hr10, h⟩ := bindE h
  obtain ⟨x11, hx11, h⟩ := bindE h
  refine reg ⟨32, [(2, .ptr 1 0)]⟩ ⟨[[.sl 1 (List.map (cI .i64) r10.2.f_L) .none, .int .i64 r10.2.f_At], [.int .i64 2, .str x11, .nilsl]], []⟩ ?_ ?_
  ·refine kC 2 ⟨[0], 2, [], 0⟩ (go_certpathmade_Deck_Next_ok hr10) ?_
   refine kP 3 (x_lidx (c := cS) (e := 9) (sz := 1) (b := 16) (tok := .exact) hx11) ?_
   exact kE ⟨[0, 1], 2, [], 0⟩
  refine b_ret ?_
  refine bk_ret ?_
  obtain rfl := Option.some.inj h
  exact rtn ⟨[0], 2, [], 0⟩ (.inr rfl)
 replace h := ite_f hb h
 refine b_seq ?_
 refine reg ⟨32, [(0, .ptr 0 0), (2, .ptr 1 0), (21, .bool (r1.1 == 2))]⟩ ⟨[[.sl 1 (List.map (cI .i64) r1.2.f_L) .none, .int .i64 r1.2.f_At], [.int .i64 0, .str ([] : List UInt8), .nilsl]], []⟩ ?_ ?_
 ·exact kE ⟨[0, 1], 2, [], 0⟩
 refine bif_ (r1.1 == 2) (fun hb => ?_) (fun hb => ?_)
 ·replace h := ite_t hb h
  refine b_seq ?_
  obtain ⟨r12, hr12, h⟩ := bindE h
  obtain ⟨x13, hx13, h⟩ := bindE h
  refine reg ⟨32, [(2, .ptr 1 0)]⟩ ⟨[[.sl 1 (List.map (cI .i64) r12.2.f_L) .none, .int .i64 r12.2.f_At], [.int .i64 7, .str x13, .nilsl]], []⟩ ?_ ?_
  ·refine kC 2 ⟨[0], 2, [], 0⟩ (go_certpathmade_Deck_Next_ok hr12) ?_
   refine kP 3 (x_lidx (c := cS) (e := 9) (sz := 1) (b := 16) (tok := .exact) hx13) ?_
   exact kE ⟨[0, 1], 2, [], 0⟩
  refine b_ret ?_
  refine bk_ret ?_
  obtain rfl := Option.some.inj h
  exact rtn ⟨[0], 2, [], 0⟩ (.inr rfl)
 replace h := ite_f hb h
 refine b_skip ?_
 refine bk_norm ?_
 refine b_seq ?_
 obtain ⟨r14, hr14, h⟩ := bindE h
 refine reg ⟨32, [(2, .ptr 1 0)]⟩ ⟨[[.sl 1 (List.map (cI .i64) r14.2.f_L) .none, .int .i64 r14.2.f_At], [.int .i64 4, .str ([] : List UInt8), .sl 1 (List.map (cL 3 T_api_Attribute.cells) r14.1.f_RDNs) .none]], []⟩ ?_ ?_
 ·refine kC 1 ⟨[0], 2, [], 0⟩ (go_certpathmade_Name_ok hr14) ?_
  exact kE ⟨[0, 1], 2, [], 0⟩
 refine b_ret ?_
 obtain rfl := Option.some.inj h
 exact rtn ⟨[0], 2, [], 0⟩ (.inr rfl)
def go_tlv_least (n : Nat) (a0 : Int) : Option Int :=
 if (a0 == 1) = true then (some 128) else ((ishl .i64 1 (IntKind.wrap .u64 ((8 : Int) * (IntKind.wrap .u64 (IntKind.wrap .i64 (a0 - 1)))))).bind fun x1 =>
 some x1)
theorem go_tlv_least_ok {n : Nat} {a0 : Int} {r : Int} (h : go_tlv_least n a0 = some r) : ACalls Tryz.prog (gl0 mx) 238 [.int .i64 a0] ⟨[], []⟩ (Out (.int .i64 r) ⟨[], []⟩) := by
 delta go_tlv_least at h
 refine fnc Tryz.func238 rfl ?_
 refine b_seq ?_
 refine reg ⟨10, [(0, .int .i64 a0)]⟩ ⟨[], []⟩ ?_ ?_
 ·exact kE ⟨[], 0, [], 0⟩
 refine b_seq ?_
 refine b_seq ?_
 refine reg ⟨10, [(0, .int .i64 a0), (4, .bool (a0 == 1))]⟩ ⟨[], []⟩ ?_ ?_
 ·exact kE ⟨[], 0, [], 0⟩
 refine bif_ (a0 == 1) (fun hb => ?_) (fun hb => ?_)
 ·replace h := ite_t hb h
  refine b_seq ?_
  refine reg ⟨10, [(2, .int .i64 128)]⟩ ⟨[], []⟩ ?_ ?_
  ·exact kE ⟨[], 0, [], 0⟩
  refine b_ret ?_
  obtain rfl := Option.some.inj h
  exact rtn ⟨[], 0, [], 0⟩ (.inr rfl)
 replace h := ite_f hb h
 refine b_skip ?_
 refine b_seq ?_
 obtain ⟨x1, hx1, h⟩ := bindE h
 refine reg ⟨10, [(2, .int .i64 x1)]⟩ ⟨[], []⟩ ?_ ?_
 ·refine kP 4 (x_ishl (k := .i64) (d := (tyT 3).d) (k' := .u64) hx1) ?_
  exact kE ⟨[], 0, [], 0⟩
 refine b_ret ?_
 obtain rfl := Option.some.inj h
 exact rtn ⟨[], 0, [], 0⟩ (.inr rfl)
def go_tlv_Read_l1 (n : Nat) (x33 : (List UInt8)) : Nat → Int → Int → Option Int
 | 0, _, _ => none
 | k + 1, v47, v48 =>
  if (decide (v48 < (List.length (s2b x33) : Int))) = true then ((lidx (s2b x33) v48).bind fun x52 =>
  go_tlv_Read_l1 n x33 k (ior .i64 (IntKind.wrap .i64 (v47 * 256)) (IntKind.wrap .i64 x52)) (IntKind.wrap .i64 (v48 + 1))) else (some v47)
def go_tlv_Read (n : Nat) (a0 : (List UInt8)) : Option (T_api_Element × (List UInt8) × Int) :=
 if (a0 == ([] : List UInt8)) = true then (some ((T_api_Element.mk 0 ([] : List UInt8) ([] : List UInt8)), ([] : List UInt8), 3)) else ((bidx a0 0).bind fun x1 =>
 if ((iand .i64 (IntKind.wrap .i64 x1) 31) == 31) = true then (some ((T_api_Element.mk 0 ([] : List UInt8) ([] : List UInt8)), ([] : List UInt8), 5)) else (if (decide ((List.length a0 : Int) < 2)) = true then (some ((T_api_Element.mk 0 ([] : List UInt8) ([] : List UInt8)), ([] : List UInt8), 3)) else ((bidx a0 1).bind fun x2 =>
 (if ((IntKind.wrap .i64 x2) == 128) = true then (some true) else (some (decide ((IntKind.wrap .i64 x2) > 131)))).bind fun y4 =>
 if y4 = true then (some ((T_api_Element.mk 0 ([] : List UInt8) ([] : List UInt8)), ([] : List UInt8), 6)) else (ctlB (if (decide ((IntKind.wrap .i64 x2) > 128)) = true then (if (decide ((List.length a0 : Int) < (IntKind.wrap .i64 ((2 : Int) + (IntKind.wrap .i64 ((IntKind.wrap .i64 x2) - 128)))))) = true then (some (.ret ((T_api_Element.mk 0 ([] : List UInt8) ([] : List UInt8)), ([] : List UInt8), 3))) else ((ssl a0 2 (IntKind.wrap .i64 ((2 : Int) + (IntKind.wrap .i64 ((IntKind.wrap .i64 x2) - 128))))).bind fun x33 =>
 (go_tlv_Read_l1 n x33 n 0 0).bind fun y43 =>
 ((go_tlv_least n (IntKind.wrap .i64 ((IntKind.wrap .i64 x2) - 128))).bind fun r53 =>
 if (decide (y43 < r53)) = true then (some true) else (some (decide (y43 > 131072)))).bind fun y55 =>
 if y55 = true then (some (.ret ((T_api_Element.mk 0 ([] : List UInt8) ([] : List UInt8)), ([] : List UInt8), 6))) else (some (.nxt (y43, IntKind.wrap .i64 ((2 : Int) + (IntKind.wrap .i64 ((IntKind.wrap .i64 x2) - 128)))))))) else (some (.nxt (IntKind.wrap .i64 x2, 2)))) (fun r => some r) (fun y30 =>
 if (decide ((IntKind.wrap .i64 ((List.length a0 : Int) - y30.2)) < y30.1)) = true then (some ((T_api_Element.mk 0 ([] : List UInt8) ([] : List UInt8)), ([] : List UInt8), 3)) else ((ssl a0 y30.2 (IntKind.wrap .i64 (y30.2 + y30.1))).bind fun x56 =>
 (ssl a0 0 (IntKind.wrap .i64 (y30.2 + y30.1))).bind fun x57 =>
 (ssl a0 (IntKind.wrap .i64 (y30.2 + y30.1)) (List.length a0)).bind fun x58 =>
 some ((T_api_Element.mk (IntKind.wrap .i64 x1) x56 x57), x58, 0)))))))
theorem go_tlv_Read_ok {n : Nat} {a0 : (List UInt8)} {r : (T_api_Element × (List UInt8) × Int)} (h : go_tlv_Read n a0 = some r) : ACalls Tryz.prog (gl0 mx) 192 [.str a0] ⟨[], []⟩ (Out (.tuple [.agg [.int .i64 r.1.f_Tag, .str r.1.f_Content, .str r.1.f_Raw], .str r.2.1, .int .i64 r.2.2]) ⟨[], []⟩) := by
 delta go_tlv_Read at h
 refine fnc Tryz.func192 rfl ?_
 refine b_seq ?_
 refine reg ⟨99, [(0, .str a0), (2, .ptr 0 0)]⟩ ⟨[[.int .i64 0, .str ([] : List UInt8), .str ([] : List UInt8)]], []⟩ ?_ ?_
 ·exact kE ⟨[0], 1, [], 0⟩
 refine b_seq ?_
 refine reg ⟨99, [(0, .str a0), (2, .ptr 0 0), (5, .ptr 1 0)]⟩ ⟨[[.int .i64 0, .str ([] : List UInt8), .str ([] : List UInt8)], [.int .i64 0, .str ([] : List UInt8), .str ([] : List UInt8)]], []⟩ ?_ ?_
 ·exact kE ⟨[0, 1], 2, [], 0⟩
 refine b_seq ?_
 refine b_seq ?_
 refine reg ⟨99, [(0, .str a0), (2, .ptr 0 0), (5, .ptr 1 0), (13, .bool (a0 == ([] : List UInt8)))]⟩ ⟨[[.int .i64 0, .str ([] : List UInt8), .str ([] : List UInt8)], [.int .i64 0, .str ([] : List UInt8), .str ([] : List UInt8)]], []⟩ ?_ ?_
 ·exact kE ⟨[0, 1], 2, [], 0⟩
 refine bif_ (a0 == ([] : List UInt8)) (fun hb => ?_) (fun hb => ?_)
 ·replace h := ite_t hb h
  refine b_seq ?_
  refine reg ⟨99, [(2, .ptr 0 0), (3, .str ([] : List UInt8)), (4, .int .i64 3)]⟩ ⟨[[.int .i64 0, .str ([] : List UInt8), .str ([] : List UInt8)]], []⟩ ?_ ?_
  ·exact kE ⟨[0], 2, [], 0⟩
  refine b_ret ?_
  obtain rfl := Option.some.inj h
  exact rtn ⟨[], 1, [], 0⟩ (.inr rfl)
 replace h := ite_f hb h
 refine b_skip ?_
 refine b_seq ?_
 obtain ⟨x1, hx1, h⟩ := bindE h
 refine reg ⟨99, [(0, .str a0), (2, .ptr 0 0), (5, .ptr 1 0), (6, .int .i64 (IntKind.wrap .i64 x1))]⟩ ⟨[[.int .i64 0, .str ([] : List UInt8), .str ([] : List UInt8)], [.int .i64 0, .str ([] : List UInt8), .str ([] : List UInt8)]], []⟩ ?_ ?_
 ·refine kP 1 (x_bidx hx1) ?_
  exact kE ⟨[0, 1], 2, [], 0⟩
 refine b_seq ?_
 refine b_seq ?_
 refine reg ⟨99, [(0, .str a0), (2, .ptr 0 0), (5, .ptr 1 0), (6, .int .i64 (IntKind.wrap .i64 x1)), (20, .bool ((iand .i64 (IntKind.wrap .i64 x1) 31) == 31))]⟩ ⟨[[.int .i64 0, .str ([] : List UInt8), .str ([] : List UInt8)], [.int .i64 0, .str ([] : List UInt8), .str ([] : List UInt8)]], []⟩ ?_ ?_
 ·exact kE ⟨[0, 1], 2, [], 0⟩
 refine bif_ ((iand .i64 (IntKind.wrap .i64 x1) 31) == 31) (fun hb => ?_) (fun hb => ?_)
 ·replace h := ite_t hb h
  refine b_seq ?_
  refine reg ⟨99, [(2, .ptr 0 0), (3, .str ([] : List UInt8)), (4, .int .i64 5)]⟩ ⟨[[.int .i64 0, .str ([] : List UInt8), .str ([] : List UInt8)]], []⟩ ?_ ?_
  ·exact kE ⟨[0], 2, [], 0⟩
  refine b_ret ?_
  obtain rfl := Option.some.inj h
  exact rtn ⟨[], 1, [], 0⟩ (.inr rfl)
 replace h := ite_f hb h
 refine b_skip ?_
 refine b_seq ?_
 refine b_seq ?_
 refine reg ⟨99, [(0, .str a0), (2, .ptr 0 0), (5, .ptr 1 0), (6, .int .i64 (IntKind.wrap .i64 x1)), (24, .bool (decide ((List.length a0 : Int) < 2)))]⟩ ⟨[[.int .i64 0, .str ([] : List UInt8), .str ([] : List UInt8)], [.int .i64 0, .str ([] : List UInt8), .str ([] : List UInt8)]], []⟩ ?_ ?_
 ·exact kE ⟨[0, 1], 2, [], 0⟩
 refine bif_ (decide ((List.length a0 : Int) < 2)) (fun hb => ?_) (fun hb => ?_)
 ·replace h := ite_t hb h
  refine b_seq ?_
  refine reg ⟨99, [(2, .ptr 0 0), (3, .str ([] : List UInt8)), (4, .int .i64 3)]⟩ ⟨[[.int .i64 0, .str ([] : List UInt8), .str ([] : List UInt8)]], []⟩ ?_ ?_
  ·exact kE ⟨[0], 2, [], 0⟩
  refine b_ret ?_
  obtain rfl := Option.some.inj h
  exact rtn ⟨[], 1, [], 0⟩ (.inr rfl)
 replace h := ite_f hb h
 refine b_skip ?_
 refine b_seq ?_
 obtain ⟨x2, hx2, h⟩ := bindE h
 refine reg ⟨99, [(0, .str a0), (2, .ptr 0 0), (5, .ptr 1 0), (6, .int .i64 (IntKind.wrap .i64 x1)), (7, .int .i64 (IntKind.wrap .i64 x2)), (8, .int .i64 2)]⟩ ⟨[[.int .i64 0, .str ([] : List UInt8), .str ([] : List UInt8)], [.int .i64 0, .str ([] : List UInt8), .str ([] : List UInt8)]], []⟩ ?_ ?_
 ·refine kP 1 (x_bidx hx2) ?_
  exact kE ⟨[0, 1], 2, [], 0⟩
 refine b_seq ?_
 refine b_seq ?_
 obtain ⟨y4, hE, h⟩ := bindE h
 refine reg ⟨99, [(0, .str a0), (2, .ptr 0 0), (5, .ptr 1 0), (6, .int .i64 (IntKind.wrap .i64 x1)), (7, .int .i64 (IntKind.wrap .i64 x2)), (8, .int .i64 2), (34, .bool y4)]⟩ ⟨[[.int .i64 0, .str ([] : List UInt8), .str ([] : List UInt8)], [.int .i64 0, .str ([] : List UInt8), .str ([] : List UInt8)]], []⟩ ?_ ?_
 ·replace h := hE
  refine kG 3 31 ((IntKind.wrap .i64 x2) == 128) (fun hb => ?_) (fun hb => ?_)
  ·have h := ite_t hb h
   obtain rfl := Option.some.inj h
   exact kE ⟨[0, 1], 2, [], 0⟩
  have h := ite_f hb h
  obtain rfl := Option.some.inj h
  exact kE ⟨[0, 1], 2, [], 0⟩
 refine bif_ (y4) (fun hb => ?_) (fun hb => ?_)
 ·replace h := ite_t hb h
  refine b_seq ?_
  refine reg ⟨99, [(2, .ptr 0 0), (3, .str ([] : List UInt8)), (4, .int .i64 6)]⟩ ⟨[[.int .i64 0, .str ([] : List UInt8), .str ([] : List UInt8)]], []⟩ ?_ ?_
  ·exact kE ⟨[0], 2, [], 0⟩
  refine b_ret ?_
  obtain rfl := Option.some.inj h
  exact rtn ⟨[], 1, [], 0⟩ (.inr rfl)
 replace h := ite_f hb h
 refine b_skip ?_
 refine b_seq ?_
 refine b_seq ?_
 refine reg ⟨99, [(0, .str a0), (2, .ptr 0 0), (5, .ptr 1 0), (6, .int .i64 (IntKind.wrap .i64 x1)), (7, .int .i64 (IntKind.wrap .i64 x2)), (8, .int .i64 2), (37, .bool (decide ((IntKind.wrap .i64 x2) > 128)))]⟩ ⟨[[.int .i64 0, .str ([] : List UInt8), .str ([] : List UInt8)], [.int .i64 0, .str ([] : List UInt8), .str ([] : List UInt8)]], []⟩ ?_ ?_
 ·exact kE ⟨[0, 1], 2, [], 0⟩
 obtain ⟨o31, hE, hr32, h⟩ := ctlE h
 refine b_cutE (Y := (Int × Int)) (fun y30 => ⟨99, [(0, .str a0), (2, .ptr 0 0), (5, .ptr 1 0), (6, .int .i64 (IntKind.wrap .i64 x1)), (7, .int .i64 y30.1), (8, .int .i64 y30.2)]⟩) (fun y30 => ⟨[[.int .i64 0, .str ([] : List UInt8), .str ([] : List UInt8)], [.int .i64 0, .str ([] : List UInt8), .str ([] : List UInt8)]], []⟩) (fun z => o31 = .nxt z) ?_ cl_cons (fun y30 hy => ?_)
 ·replace h := hE
  refine bif_ (decide ((IntKind.wrap .i64 x2) > 128)) (fun hb => ?_) (fun hb => ?_)
  ·replace h := ite_t hb h
   refine b_seq ?_
   refine reg ⟨99, [(0, .str a0), (2, .ptr 0 0), (5, .ptr 1 0), (6, .int .i64 (IntKind.wrap .i64 x1)), (8, .int .i64 2), (9, .int .i64 (IntKind.wrap .i64 ((IntKind.wrap .i64 x2) - 128)))]⟩ ⟨[[.int .i64 0, .str ([] : List UInt8), .str ([] : List UInt8)], [.int .i64 0, .str ([] : List UInt8), .str ([] : List UInt8)]], []⟩ ?_ ?_
   ·exact kE ⟨[0, 1], 2, [], 0⟩
   refine b_seq ?_
   refine b_seq ?_
   refine reg ⟨99, [(0, .str a0), (2, .ptr 0 0), (5, .ptr 1 0), (6, .int .i64 (IntKind.wrap .i64 x1)), (8, .int .i64 2), (9, .int .i64 (IntKind.wrap .i64 ((IntKind.wrap .i64 x2) - 128))), (44, .bool (decide ((List.length a0 : Int) < (IntKind.wrap .i64 ((2 : Int) + (IntKind.wrap .i64 ((IntKind.wrap .i64 x2) - 128)))))))]⟩ ⟨[[.int .i64 0, .str ([] : List UInt8), .str ([] : List UInt8)], [.int .i64 0, .str ([] : List UInt8), .str ([] : List UInt8)]], []⟩ ?_ ?_
   ·exact kE ⟨[0, 1], 2, [], 0⟩
   refine bif_ (decide ((List.length a0 : Int) < (IntKind.wrap .i64 ((2 : Int) + (IntKind.wrap .i64 ((IntKind.wrap .i64 x2) - 128)))))) (fun hb => ?_) (fun hb => ?_)
   ·replace h := ite_t hb h
    refine b_seq ?_
    refine reg ⟨99, [(2, .ptr 0 0), (3, .str ([] : List UInt8)), (4, .int .i64 3)]⟩ ⟨[[.int .i64 0, .str ([] : List UInt8), .str ([] : List UInt8)]], []⟩ ?_ ?_
    ·exact kE ⟨[0], 2, [], 0⟩
    refine b_ret ?_
    replace h := hr32 _ (Option.some.inj h).symm
    refine tk_ret ?_
    obtain rfl := Option.some.inj h
    exact rtn ⟨[], 1, [], 0⟩ (.inr rfl)
   replace h := ite_f hb h
   refine b_skip ?_
   refine b_seq ?_
   refine reg ⟨99, [(0, .str a0), (2, .ptr 0 0), (5, .ptr 1 0), (6, .int .i64 (IntKind.wrap .i64 x1)), (7, .int .i64 0), (8, .int .i64 2), (9, .int .i64 (IntKind.wrap .i64 ((IntKind.wrap .i64 x2) - 128)))]⟩ ⟨[[.int .i64 0, .str ([] : List UInt8), .str ([] : List UInt8)], [.int .i64 0, .str ([] : List UInt8), .str ([] : List UInt8)]], []⟩ ?_ ?_
   ·exact kE ⟨[0, 1], 2, [], 0⟩
   refine b_seq ?_
   refine b_seq ?_
   obtain ⟨x33, hx33, h⟩ := bindE h
   refine reg ⟨99, [(0, .str a0), (2, .ptr 0 0), (5, .ptr 1 0), (6, .int .i64 (IntKind.wrap .i64 x1)), (7, .int .i64 0), (8, .int .i64 2), (9, .int .i64 (IntKind.wrap .i64 ((IntKind.wrap .i64 x2) - 128))), (50, .sl 1 (List.map (cI .u8) (s2b x33)) .none), (51, .int .i64 (List.length (s2b x33) : Int)), (52, .int .i64 0)]⟩ ⟨[[.int .i64 0, .str ([] : List UInt8), .str ([] : List UInt8)], [.int .i64 0, .str ([] : List UInt8), .str ([] : List UInt8)]], []⟩ ?_ ?_
   ·refine kP 3 (x_ssl (k := .i64) (k' := .i64) hx33) ?_
    refine kS 4 x33 ?_
    refine kP 5 (x_len (c := (cI .u8)) (l := s2b x33) (e := 5) (sz := 1) (sz' := 1) (b := 1) (tok := .none)) ?_
    exact kE ⟨[0, 1], 2, [], 0⟩
   obtain ⟨y43, hE, h⟩ := bindE h
   refine b_blockE (Y := Int) (fun y43 => ⟨99, [(0, .str a0), (2, .ptr 0 0), (5, .ptr 1 0), (6, .int .i64 (IntKind.wrap .i64 x1)), (7, .int .i64 y43), (8, .int .i64 2), (9, .int .i64 (IntKind.wrap .i64 ((IntKind.wrap .i64 x2) - 128)))]⟩) (fun y43 => ⟨[[.int .i64 0, .str ([] : List UInt8), .str ([] : List UInt8)], [.int .i64 0, .str ([] : List UInt8), .str ([] : List UInt8)]], []⟩) (fun z => y43 = z) ?_ cl_cons (fun z hz => ?_)
   ·replace h := hE
    refine b_loop (X := (Int × Int)) (fun x => ⟨99, [(0, .str a0), (2, .ptr 0 0), (5, .ptr 1 0), (6, .int .i64 (IntKind.wrap .i64 x1)), (7, .int .i64 x.1), (8, .int .i64 2), (9, .int .i64 (IntKind.wrap .i64 ((IntKind.wrap .i64 x2) - 128))), (50, .sl 1 (List.map (cI .u8) (s2b x33)) .none), (51, .int .i64 (List.length (s2b x33) : Int)), (52, .int .i64 x.2)]⟩) (fun x => ⟨[[.int .i64 0, .str ([] : List UInt8), .str ([] : List UInt8)], [.int .i64 0, .str ([] : List UInt8), .str ([] : List UInt8)]], []⟩) (fun k x => go_tlv_Read_l1 n x33 k x.1 x.2 = some y43) (fun _ hx => by simp [go_tlv_Read_l1] at hx) n (0, 0) h (wk ⟨[0, 1], 2, [], 0⟩) (fun k x h => ?_)
    obtain ⟨v47, v48⟩ := x
    rw [go_tlv_Read_l1] at h
    refine b_seq ?_
    refine reg ⟨99, [(0, .str a0), (2, .ptr 0 0), (5, .ptr 1 0), (6, .int .i64 (IntKind.wrap .i64 x1)), (7, .int .i64 v47), (8, .int .i64 2), (9, .int .i64 (IntKind.wrap .i64 ((IntKind.wrap .i64 x2) - 128))), (50, .sl 1 (List.map (cI .u8) (s2b x33)) .none), (51, .int .i64 (List.length (s2b x33) : Int)), (52, .int .i64 v48), (53, .bool (decide (v48 < (List.length (s2b x33) : Int))))]⟩ ⟨[[.int .i64 0, .str ([] : List UInt8), .str ([] : List UInt8)], [.int .i64 0, .str ([] : List UInt8), .str ([] : List UInt8)]], []⟩ ?_ ?_
    ·exact kE ⟨[0, 1], 2, [], 0⟩
    refine b_seq ?_
    refine bif_ (decide (v48 < (List.length (s2b x33) : Int))) (fun hb => ?_) (fun hb => ?_)
    ·replace h := ite_t hb h
     refine b_skip ?_
     refine b_seq ?_
     refine b_block ?_
     refine b_seq ?_
     obtain ⟨x52, hx52, h⟩ := bindE h
     refine reg ⟨99, [(0, .str a0), (2, .ptr 0 0), (5, .ptr 1 0), (6, .int .i64 (IntKind.wrap .i64 x1)), (7, .int .i64 v47), (8, .int .i64 2), (9, .int .i64 (IntKind.wrap .i64 ((IntKind.wrap .i64 x2) - 128))), (11, .int .u8 x52), (50, .sl 1 (List.map (cI .u8) (s2b x33)) .none), (51, .int .i64 (List.length (s2b x33) : Int)), (52, .int .i64 v48)]⟩ ⟨[[.int .i64 0, .str ([] : List UInt8), .str ([] : List UInt8)], [.int .i64 0, .str ([] : List UInt8), .str ([] : List UInt8)]], []⟩ ?_ ?_
     ·refine kP 0 (x_lidx (c := (cI .u8)) (e := 5) (sz := 1) (b := 1) (tok := .none) hx52) ?_
      exact kE ⟨[0, 1], 2, [], 0⟩
     refine regN ⟨99, [(0, .str a0), (2, .ptr 0 0), (5, .ptr 1 0), (6, .int .i64 (IntKind.wrap .i64 x1)), (7, .int .i64 (ior .i64 (IntKind.wrap .i64 (v47 * 256)) (IntKind.wrap .i64 x52))), (8, .int .i64 2), (9, .int .i64 (IntKind.wrap .i64 ((IntKind.wrap .i64 x2) - 128))), (50, .sl 1 (List.map (cI .u8) (s2b x33)) .none), (51, .int .i64 (List.length (s2b x33) : Int)), (52, .int .i64 v48)]⟩ ⟨[[.int .i64 0, .str ([] : List UInt8), .str ([] : List UInt8)], [.int .i64 0, .str ([] : List UInt8), .str ([] : List UInt8)]], []⟩ cl_cons ?_ ?_
     ·exact kE ⟨[0, 1], 2, [], 0⟩
     refine bk_norm ?_
     refine regN ⟨99, [(0, .str a0), (2, .ptr 0 0), (5, .ptr 1 0), (6, .int .i64 (IntKind.wrap .i64 x1)), (7, .int .i64 (ior .i64 (IntKind.wrap .i64 (v47 * 256)) (IntKind.wrap .i64 x52))), (8, .int .i64 2), (9, .int .i64 (IntKind.wrap .i64 ((IntKind.wrap .i64 x2) - 128))), (50, .sl 1 (List.map (cI .u8) (s2b x33)) .none), (51, .int .i64 (List.length (s2b x33) : Int)), (52, .int .i64 (IntKind.wrap .i64 (v48 + 1)))]⟩ ⟨[[.int .i64 0, .str ([] : List UInt8), .str ([] : List UInt8)], [.int .i64 0, .str ([] : List UInt8), .str ([] : List UInt8)]], []⟩ cl_loopT ?_ ?_
     ·exact kE ⟨[0, 1], 2, [], 0⟩
     exact ⟨(ior .i64 (IntKind.wrap .i64 (v47 * 256)) (IntKind.wrap .i64 x52), IntKind.wrap .i64 (v48 + 1)), h, wk ⟨[0, 1], 2, [], 0⟩⟩
    replace h := ite_f hb h
    refine b_exit ?_
    refine tk_exit ?_
    refine bl_exit ?_
    exact ⟨v47, (Option.some.inj h).symm, wk ⟨[0, 1], 2, [], 0⟩⟩
   subst hz
   refine b_seq ?_
   refine reg ⟨99, [(0, .str a0), (2, .ptr 0 0), (5, .ptr 1 0), (6, .int .i64 (IntKind.wrap .i64 x1)), (7, .int .i64 y43), (8, .int .i64 (IntKind.wrap .i64 ((2 : Int) + (IntKind.wrap .i64 ((IntKind.wrap .i64 x2) - 128))))), (9, .int .i64 (IntKind.wrap .i64 ((IntKind.wrap .i64 x2) - 128)))]⟩ ⟨[[.int .i64 0, .str ([] : List UInt8), .str ([] : List UInt8)], [.int .i64 0, .str ([] : List UInt8), .str ([] : List UInt8)]], []⟩ ?_ ?_
   ·exact kE ⟨[0, 1], 2, [], 0⟩
   refine b_seq ?_
   obtain ⟨y55, hE, h⟩ := bindE h
   refine reg ⟨99, [(0, .str a0), (2, .ptr 0 0), (5, .ptr 1 0), (6, .int .i64 (IntKind.wrap .i64 x1)), (7, .int .i64 y43), (8, .int .i64 (IntKind.wrap .i64 ((2 : Int) + (IntKind.wrap .i64 ((IntKind.wrap .i64 x2) - 128))))), (72, .bool y55)]⟩ ⟨[[.int .i64 0, .str ([] : List UInt8), .str ([] : List UInt8)], [.int .i64 0, .str ([] : List UInt8), .str ([] : List UInt8)]], []⟩ ?_ ?_
   ·replace h := hE
    obtain ⟨r53, hr53, h⟩ := bindE h
    refine kC 2 ⟨[], 2, [], 0⟩ (go_tlv_least_ok hr53) ?_
    refine kG 5 69 (decide (y43 < r53)) (fun hb => ?_) (fun hb => ?_)
    ·have h := ite_t hb h
     obtain rfl := Option.some.inj h
     exact kE ⟨[0, 1], 2, [], 0⟩
    have h := ite_f hb h
    obtain rfl := Option.some.inj h
    exact kE ⟨[0, 1], 2, [], 0⟩
   refine bif_ (y55) (fun hb => ?_) (fun hb => ?_)
   ·replace h := ite_t hb h
    refine b_seq ?_
    refine reg ⟨99, [(2, .ptr 0 0), (3, .str ([] : List UInt8)), (4, .int .i64 6)]⟩ ⟨[[.int .i64 0, .str ([] : List UInt8), .str ([] : List UInt8)]], []⟩ ?_ ?_
    ·exact kE ⟨[0], 2, [], 0⟩
    refine b_ret ?_
    replace h := hr32 _ (Option.some.inj h).symm
    refine tk_ret ?_
    obtain rfl := Option.some.inj h
    exact rtn ⟨[], 1, [], 0⟩ (.inr rfl)
   replace h := ite_f hb h
   refine b_skip ?_
   exact ⟨(y43, IntKind.wrap .i64 ((2 : Int) + (IntKind.wrap .i64 ((IntKind.wrap .i64 x2) - 128)))), (Option.some.inj h).symm, wk ⟨[0, 1], 2, [], 0⟩⟩
  replace h := ite_f hb h
  refine b_skip ?_
  exact ⟨(IntKind.wrap .i64 x2, 2), (Option.some.inj h).symm, wk ⟨[0, 1], 2, [], 0⟩⟩
 replace h := h _ hy
 refine b_seq ?_
 refine b_seq ?_
 refine reg ⟨99, [(0, .str a0), (2, .ptr 0 0), (5, .ptr 1 0), (6, .int .i64 (IntKind.wrap .i64 x1)), (7, .int .i64 y30.1), (8, .int .i64 y30.2), (79, .bool (decide ((IntKind.wrap .i64 ((List.length a0 : Int) - y30.2)) < y30.1)))]⟩ ⟨[[.int .i64 0, .str ([] : List UInt8), .str ([] : List UInt8)], [.int .i64 0, .str ([] : List UInt8), .str ([] : List UInt8)]], []⟩ ?_ ?_
 ·exact kE ⟨[0, 1], 2, [], 0⟩
 refine bif_ (decide ((IntKind.wrap .i64 ((List.length a0 : Int) - y30.2)) < y30.1)) (fun hb => ?_) (fun hb => ?_)
 ·replace h := ite_t hb h
  refine b_seq ?_
  refine reg ⟨99, [(2, .ptr 0 0), (3, .str ([] : List UInt8)), (4, .int .i64 3)]⟩ ⟨[[.int .i64 0, .str ([] : List UInt8), .str ([] : List UInt8)]], []⟩ ?_ ?_
  ·exact kE ⟨[0], 2, [], 0⟩
  refine b_ret ?_
  obtain rfl := Option.some.inj h
  exact rtn ⟨[], 1, [], 0⟩ (.inr rfl)
 replace h := ite_f hb h
 refine b_skip ?_
 refine b_seq ?_
 obtain ⟨x56, hx56, h⟩ := bindE h
 obtain ⟨x57, hx57, h⟩ := bindE h
 obtain ⟨x58, hx58, h⟩ := bindE h
 refine drw [0, 1, 2, 3, 4, 5, 6, 7, 8, 9, 10, 11, 12, 13, 14, 15, 16, 17, 18, 19, 20] [18] [[], [], [], [], [], [3, 4], [1, 2, 3, 4, 5], [], [], [], [8, 9], [7, 8, 9, 10], [0, 1, 2, 3, 4, 5, 6, 7, 8, 9, 10, 11], [], [], [], [14, 15], [13, 14, 15, 16], [0, 1, 2, 3, 4, 5, 6, 7, 8, 9, 10, 11, 12], [0, 1, 2, 3, 4, 5, 6, 7, 8, 9, 10, 11, 12, 13, 14, 15, 16, 17, 18], [0, 1, 2, 3, 4, 5, 6, 7, 8, 9, 10, 11, 12, 13, 14, 15, 16, 17, 18, 19]] ⟨99, [(2, .ptr 0 0), (3, .str x58), (4, .int .i64 0)]⟩ ⟨[[.int .i64 (IntKind.wrap .i64 x1), .str x56, .str x57]], []⟩ ?_ ?_
 ·refine dS [0, 1, 2, 3, 4, 5] ?_
  refine dP (x_ssl (k := .i64) (k' := .i64) hx56) ?_
  refine dS [7, 8, 9, 10] ?_
  refine dP (x_ssl_hi (k := .i64) hx57) ?_
  refine dS [12, 13, 14, 15, 16] ?_
  refine dP (x_ssl_lo (k := .i64) hx58) ?_
  refine dF (fxCons 17 (x_ssl_lo (k := .i64) hx58) (fxCons 11 (x_ssl_hi (k := .i64) hx57) (fxCons 6 (x_ssl (k := .i64) (k' := .i64) hx56) fxNil))) ?_
  refine dS [19, 20] ?_
  exact dE ⟨[0], 2, [], 0⟩
 refine b_ret ?_
 obtain rfl := Option.some.inj h
 exact rtn ⟨[], 1, [], 0⟩ (.inr rfl)
def go_tlv_One (n : Nat) (a0 : (List UInt8)) : Option (T_api_Element × Int) :=
 (go_tlv_Read n a0).bind fun r1 =>
 if (r1.2.2 != 0) = true then (some ((T_api_Element.mk 0 ([] : List UInt8) ([] : List UInt8)), r1.2.2)) else (if (!(r1.2.1 == ([] : List UInt8))) = true then (some ((T_api_Element.mk 0 ([] : List UInt8) ([] : List UInt8)), 4)) else (some (r1.1, 0)))
theorem go_tlv_One_ok {n : Nat} {a0 : (List UInt8)} {r : (T_api_Element × Int)} (h : go_tlv_One n a0 = some r) : ACalls Tryz.prog (gl0 mx) 136 [.str a0] ⟨[], []⟩ (Out (.tuple [.agg [.int .i64 r.1.f_Tag, .str r.1.f_Content, .str r.1.f_Raw], .int .i64 r.2]) ⟨[], []⟩) := by
 delta go_tlv_One at h
 refine fnc Tryz.func136 rfl ?_
 refine b_seq ?_
 refine reg ⟨21, [(0, .str a0), (2, .ptr 0 0)]⟩ ⟨[[.int .i64 0, .str ([] : List UInt8), .str ([] : List UInt8)]], []⟩ ?_ ?_
 ·exact kE ⟨[0], 1, [], 0⟩
 refine b_seq ?_
 obtain ⟨r1, hr1, h⟩ := bindE h
 refine reg ⟨21, [(2, .ptr 0 0), (4, .ptr 1 0), (5, .str r1.2.1), (6, .int .i64 r1.2.2)]⟩ ⟨[[.int .i64 0, .str ([] : List UInt8), .str ([] : List UInt8)], [.int .i64 r1.1.f_Tag, .str r1.1.f_Content, .str r1.1.f_Raw]], []⟩ ?_ ?_
 ·refine kC 1 ⟨[], 1, [], 0⟩ (go_tlv_Read_ok hr1) ?_
  exact kE ⟨[0, 1], 2, [], 0⟩
 refine b_seq ?_
 refine b_seq ?_
 refine reg ⟨21, [(2, .ptr 0 0), (4, .ptr 1 0), (5, .str r1.2.1), (6, .int .i64 r1.2.2), (14, .bool (r1.2.2 != 0))]⟩ ⟨[[.int .i64 0, .str ([] : List UInt8), .str ([] : List UInt8)], [.int .i64 r1.1.f_Tag, .str r1.1.f_Content, .str r1.1.f_Raw]], []⟩ ?_ ?_
 ·exact kE ⟨[0, 1], 2, [], 0⟩
 refine bif_ (r1.2.2 != 0) (fun hb => ?_) (fun hb => ?_)
 ·replace h := ite_t hb h
  refine b_seq ?_
  refine reg ⟨21, [(2, .ptr 0 0), (3, .int .i64 r1.2.2)]⟩ ⟨[[.int .i64 0, .str ([] : List UInt8), .str ([] : List UInt8)]], []⟩ ?_ ?_
  ·exact kE ⟨[0], 2, [], 0⟩
  refine b_ret ?_
  obtain rfl := Option.some.inj h
  exact rtn ⟨[], 1, [], 0⟩ (.inr rfl)
 replace h := ite_f hb h
 refine b_skip ?_
 refine b_seq ?_
 refine b_seq ?_
 refine reg ⟨21, [(2, .ptr 0 0), (4, .ptr 1 0), (18, .bool (!(r1.2.1 == ([] : List UInt8))))]⟩ ⟨[[.int .i64 0, .str ([] : List UInt8), .str ([] : List UInt8)], [.int .i64 r1.1.f_Tag, .str r1.1.f_Content, .str r1.1.f_Raw]], []⟩ ?_ ?_
 ·exact kE ⟨[0, 1], 2, [], 0⟩
 refine bif_ (!(r1.2.1 == ([] : List UInt8))) (fun hb => ?_) (fun hb => ?_)
 ·replace h := ite_t hb h
  refine b_seq ?_
  refine reg ⟨21, [(2, .ptr 0 0), (3, .int .i64 4)]⟩ ⟨[[.int .i64 0, .str ([] : List UInt8), .str ([] : List UInt8)]], []⟩ ?_ ?_
  ·exact kE ⟨[0], 2, [], 0⟩
  refine b_ret ?_
  obtain rfl := Option.some.inj h
  exact rtn ⟨[], 1, [], 0⟩ (.inr rfl)
 replace h := ite_f hb h
 refine b_skip ?_
 refine b_seq ?_
 refine reg ⟨21, [(2, .ptr 0 0), (3, .int .i64 0)]⟩ ⟨[[.int .i64 r1.1.f_Tag, .str r1.1.f_Content, .str r1.1.f_Raw]], []⟩ ?_ ?_
 ·exact kE ⟨[0], 2, [], 0⟩
 refine b_ret ?_
 obtain rfl := Option.some.inj h
 exact rtn ⟨[], 1, [], 0⟩ (.inr rfl)
def go_tlv_within_l1 (n : Nat) (rc : T_api_Element → Int → Option Int) (a1 : Int) : Nat → (List UInt8) → Option (Ctl Int Unit)
 | 0, _ => none
 | k + 1, v21 =>
  if (!(v21 == ([] : List UInt8))) = true then ((go_tlv_Read n v21).bind fun r28 =>
  if (r28.2.2 != 0) = true then (some (.ret r28.2.2)) else (if (decide (a1 ≥ 16)) = true then (some (.ret 8)) else ((rc r28.1 (IntKind.wrap .i64 (a1 + 1))).bind fun r29 =>
  if (r29 != 0) = true then (some (.ret r29)) else (go_tlv_within_l1 n rc a1 k r28.2.1)))) else (some (.nxt ()))
def go_tlv_within (n : Nat) : Nat → T_api_Element → Int → Option Int
 | 0, _, _ => none
 | kk + 1, a0, a1 =>
  if ((iand .i64 a0.f_Tag 32) == 0) = true then (some 0) else (ctlB (go_tlv_within_l1 n (go_tlv_within n kk) a1 n a0.f_Content) (fun r => some r) (fun y14 =>
  some 0))
theorem go_tlv_within_ok {n : Nat} : ∀ (kk : Nat) {a0 : T_api_Element} {a1 : Int} {r : Int} (_ : go_tlv_within n kk a0 a1 = some r), ACalls Tryz.prog (gl0 mx) 191 [.agg [.int .i64 a0.f_Tag, .str a0.f_Content, .str a0.f_Raw], .int .i64 a1] ⟨[], []⟩ (Out (.int .i64 r) ⟨[], []⟩) := by
 intro kk
 induction kk with
 | zero => intro a0 a1 r h; simp [go_tlv_within] at h
 | succ kk ih =>
  intro a0 a1 r h
  rw [go_tlv_within] at h
  refine fnc Tryz.func191 rfl ?_
  refine b_seq ?_
  refine reg ⟨37, [(1, .int .i64 a1), (2, .ptr 0 0)]⟩ ⟨[[.int .i64 a0.f_Tag, .str a0.f_Content, .str a0.f_Raw]], []⟩ ?_ ?_
  ·exact kE ⟨[0], 1, [], 0⟩
  refine b_seq ?_
  refine b_seq ?_
  refine reg ⟨37, [(1, .int .i64 a1), (2, .ptr 0 0), (13, .bool ((iand .i64 a0.f_Tag 32) == 0))]⟩ ⟨[[.int .i64 a0.f_Tag, .str a0.f_Content, .str a0.f_Raw]], []⟩ ?_ ?_
  ·exact kE ⟨[0], 1, [], 0⟩
  refine bif_ ((iand .i64 a0.f_Tag 32) == 0) (fun hb => ?_) (fun hb => ?_)
  ·replace h := ite_t hb h
   refine b_seq ?_
   refine reg ⟨37, [(4, .int .i64 0)]⟩ ⟨[], []⟩ ?_ ?_
   ·exact kE ⟨[], 1, [], 0⟩
   refine b_ret ?_
   obtain rfl := Option.some.inj h
   exact rtn ⟨[], 0, [], 0⟩ (.inr rfl)
  replace h := ite_f hb h
  refine b_skip ?_
  refine b_seq ?_
  refine b_seq ?_
  refine reg ⟨37, [(1, .int .i64 a1), (5, .str a0.f_Content)]⟩ ⟨[], []⟩ ?_ ?_
  ·exact kE ⟨[], 1, [], 0⟩
  obtain ⟨o15, hE, hr16, h⟩ := ctlE h
  refine b_blockE (Y := Unit) (fun _ => ⟨37, []⟩) (fun _ => ⟨[], []⟩) (fun z => o15 = .nxt z) ?_ cl_cons (fun y14 hy => ?_)
  ·replace h := hE
   refine b_loop (X := (List UInt8)) (fun x => ⟨37, [(1, .int .i64 a1), (5, .str x)]⟩) (fun x => ⟨[], []⟩) (fun k x => go_tlv_within_l1 n (go_tlv_within n kk) a1 k x = some o15) (fun _ hx => by simp [go_tlv_within_l1] at hx) n a0.f_Content h (wk ⟨[], 0, [], 0⟩) (fun k x h => ?_)
   revert h; revert x; intro v21 h
   rw [go_tlv_within_l1] at h
   refine b_seq ?_
   refine b_seq ?_
   refine reg ⟨37, [(1, .int .i64 a1), (5, .str v21), (17, .bool (!(v21 == ([] : List UInt8))))]⟩ ⟨[], []⟩ ?_ ?_
   ·exact kE ⟨[], 0, [], 0⟩
   refine bif_ (!(v21 == ([] : List UInt8))) (fun hb => ?_) (fun hb => ?_)
   ·replace h := ite_t hb h
    refine b_skip ?_
    refine b_block ?_
    refine b_seq ?_
    obtain ⟨r28, hr28, h⟩ := bindE h
    refine reg ⟨37, [(1, .int .i64 a1), (6, .ptr 0 0), (7, .str r28.2.1), (8, .int .i64 r28.2.2)]⟩ ⟨[[.int .i64 r28.1.f_Tag, .str r28.1.f_Content, .str r28.1.f_Raw]], []⟩ ?_ ?_
    ·refine kC 1 ⟨[], 0, [], 0⟩ (go_tlv_Read_ok hr28) ?_
     exact kE ⟨[0], 1, [], 0⟩
    refine b_seq ?_
    refine b_seq ?_
    refine reg ⟨37, [(1, .int .i64 a1), (6, .ptr 0 0), (7, .str r28.2.1), (8, .int .i64 r28.2.2), (25, .bool (r28.2.2 != 0))]⟩ ⟨[[.int .i64 r28.1.f_Tag, .str r28.1.f_Content, .str r28.1.f_Raw]], []⟩ ?_ ?_
    ·exact kE ⟨[0], 1, [], 0⟩
    refine bif_ (r28.2.2 != 0) (fun hb => ?_) (fun hb => ?_)
    ·replace h := ite_t hb h
     refine b_seq ?_
     refine reg ⟨37, [(4, .int .i64 r28.2.2)]⟩ ⟨[], []⟩ ?_ ?_
     ·exact kE ⟨[], 1, [], 0⟩
     refine b_ret ?_
     refine bk_ret ?_
     refine tk_ret ?_
     replace h := hr16 _ (Option.some.inj h).symm
     refine bl_ret ?_
     obtain rfl := Option.some.inj h
     exact rtn ⟨[], 0, [], 0⟩ (.inr rfl)
    replace h := ite_f hb h
    refine b_skip ?_
    refine b_seq ?_
    refine b_seq ?_
    refine reg ⟨37, [(1, .int .i64 a1), (6, .ptr 0 0), (7, .str r28.2.1), (28, .bool (decide (a1 ≥ 16)))]⟩ ⟨[[.int .i64 r28.1.f_Tag, .str r28.1.f_Content, .str r28.1.f_Raw]], []⟩ ?_ ?_
    ·exact kE ⟨[0], 1, [], 0⟩
    refine bif_ (decide (a1 ≥ 16)) (fun hb => ?_) (fun hb => ?_)
    ·replace h := ite_t hb h
     refine b_seq ?_
     refine reg ⟨37, [(4, .int .i64 8)]⟩ ⟨[], []⟩ ?_ ?_
     ·exact kE ⟨[], 1, [], 0⟩
     refine b_ret ?_
     refine bk_ret ?_
     refine tk_ret ?_
     replace h := hr16 _ (Option.some.inj h).symm
     refine bl_ret ?_
     obtain rfl := Option.some.inj h
     exact rtn ⟨[], 0, [], 0⟩ (.inr rfl)
    replace h := ite_f hb h
    refine b_skip ?_
    refine b_seq ?_
    refine b_seq ?_
    obtain ⟨r29, hr29, h⟩ := bindE h
    refine reg ⟨37, [(1, .int .i64 a1), (7, .str r28.2.1), (9, .int .i64 r29)]⟩ ⟨[], []⟩ ?_ ?_
    ·refine kC 3 ⟨[], 1, [], 0⟩ (ih hr29) ?_
     exact kE ⟨[], 1, [], 0⟩
    refine b_seq ?_
    refine reg ⟨37, [(1, .int .i64 a1), (7, .str r28.2.1), (9, .int .i64 r29), (34, .bool (r29 != 0))]⟩ ⟨[], []⟩ ?_ ?_
    ·exact kE ⟨[], 0, [], 0⟩
    refine bif_ (r29 != 0) (fun hb => ?_) (fun hb => ?_)
    ·replace h := ite_t hb h
     refine b_seq ?_
     refine reg ⟨37, [(4, .int .i64 r29)]⟩ ⟨[], []⟩ ?_ ?_
     ·exact kE ⟨[], 0, [], 0⟩
     refine b_ret ?_
     refine bk_ret ?_
     refine tk_ret ?_
     replace h := hr16 _ (Option.some.inj h).symm
     refine bl_ret ?_
     obtain rfl := Option.some.inj h
     exact rtn ⟨[], 0, [], 0⟩ (.inr rfl)
    replace h := ite_f hb h
    refine b_skip ?_
    refine c_reg ⟨37, [(1, .int .i64 a1), (5, .str r28.2.1)]⟩ ⟨[], []⟩ (cl_nil (cl_nil (P := Tryz.prog) (gl := gl0 mx) cl_loopT)) ?_ ?_
    ·exact kE ⟨[], 0, [], 0⟩
    refine bk_norm ?_
    exact ⟨r28.2.1, h, wk ⟨[], 0, [], 0⟩⟩
   replace h := ite_f hb h
   refine b_exit ?_
   refine tk_exit ?_
   refine bl_exit ?_
   exact ⟨(), (Option.some.inj h).symm, wk ⟨[], 0, [], 0⟩⟩
  replace h := h _ hy
  refine b_seq ?_
  refine reg ⟨37, [(4, .int .i64 0)]⟩ ⟨[], []⟩ ?_ ?_
  ·exact kE ⟨[], 0, [], 0⟩
  refine b_ret ?_
  obtain rfl := Option.some.inj h
  exact rtn ⟨[], 0, [], 0⟩ (.inr rfl)
def go_tlv_Check (n : Nat) (a0 : (List UInt8)) : Option Int :=
 (go_tlv_One n a0).bind fun r1 =>
 if (r1.2 != 0) = true then (some r1.2) else ((go_tlv_within n n r1.1 1).bind fun r2 =>
 some r2)
theorem go_tlv_Check_ok {n : Nat} {a0 : (List UInt8)} {r : Int} (h : go_tlv_Check n a0 = some r) : ACalls Tryz.prog (gl0 mx) 135 [.str a0] ⟨[], []⟩ (Out (.int .i64 r) ⟨[], []⟩) := by
 delta go_tlv_Check at h
 refine fnc Tryz.func135 rfl ?_
 refine b_seq ?_
 refine reg ⟨15, [(0, .str a0)]⟩ ⟨[], []⟩ ?_ ?_
 ·exact kE ⟨[], 0, [], 0⟩
 refine b_seq ?_
 obtain ⟨r1, hr1, h⟩ := bindE h
 refine reg ⟨15, [(3, .ptr 0 0), (4, .int .i64 r1.2)]⟩ ⟨[[.int .i64 r1.1.f_Tag, .str r1.1.f_Content, .str r1.1.f_Raw]], []⟩ ?_ ?_
 ·refine kC 1 ⟨[], 0, [], 0⟩ (go_tlv_One_ok hr1) ?_
  exact kE ⟨[0], 1, [], 0⟩
 refine b_seq ?_
 refine b_seq ?_
 refine reg ⟨15, [(3, .ptr 0 0), (4, .int .i64 r1.2), (11, .bool (r1.2 != 0))]⟩ ⟨[[.int .i64 r1.1.f_Tag, .str r1.1.f_Content, .str r1.1.f_Raw]], []⟩ ?_ ?_
 ·exact kE ⟨[0], 1, [], 0⟩
 refine bif_ (r1.2 != 0) (fun hb => ?_) (fun hb => ?_)
 ·replace h := ite_t hb h
  refine b_seq ?_
  refine reg ⟨15, [(2, .int .i64 r1.2)]⟩ ⟨[], []⟩ ?_ ?_
  ·exact kE ⟨[], 1, [], 0⟩
  refine b_ret ?_
  obtain rfl := Option.some.inj h
  exact rtn ⟨[], 0, [], 0⟩ (.inr rfl)
 replace h := ite_f hb h
 refine b_skip ?_
 refine b_seq ?_
 obtain ⟨r2, hr2, h⟩ := bindE h
 refine reg ⟨15, [(2, .int .i64 r2)]⟩ ⟨[], []⟩ ?_ ?_
 ·refine kC 1 ⟨[], 1, [], 0⟩ (go_tlv_within_ok _ hr2) ?_
  exact kE ⟨[], 1, [], 0⟩
 refine b_ret ?_
 obtain rfl := Option.some.inj h
 exact rtn ⟨[], 0, [], 0⟩ (.inr rfl)
def go_tlv_List_l1 (n : Nat) : Nat → (List UInt8) → (List T_api_Element) → Option (Ctl ((List T_api_Element) × Int) (List T_api_Element))
 | 0, _, _ => none
 | k + 1, v25, v26 =>
  if (!(v25 == ([] : List UInt8))) = true then ((go_tlv_Read n v25).bind fun r33 =>
  if (r33.2.2 != 0) = true then (some (.ret (([] : (List T_api_Element)), r33.2.2))) else ((lapp 40 v26 ([r33.1] : List T_api_Element)).bind fun x34 =>
  go_tlv_List_l1 n k r33.2.1 x34)) else (some (.nxt v26))
def go_tlv_List (n : Nat) (a0 : (List UInt8)) : Option ((List T_api_Element) × Int) :=
 ctlB (go_tlv_List_l1 n  n a0 ([] : List T_api_Element)) (fun r => some r) (fun y17 =>
 some (y17, 0))
theorem go_tlv_List_ok {n : Nat} {a0 : (List UInt8)} {r : ((List T_api_Element) × Int)} (h : go_tlv_List n a0 = some r) : ACalls Tryz.prog (gl0 mx) 201 [.str a0] ⟨[], []⟩ (Out (.tuple [.sl 3 (List.map T_api_Element.cells r.1) .none, .int .i64 r.2]) ⟨[], []⟩) := by
 delta go_tlv_List at h
 refine fnc Tryz.func201 rfl ?_
 refine b_seq ?_
 refine reg ⟨25, [(0, .str a0)]⟩ ⟨[], []⟩ ?_ ?_
 ·exact kE ⟨[], 0, [], 0⟩
 refine b_seq ?_
 refine reg ⟨25, [(0, .str a0), (4, .nilsl)]⟩ ⟨[], []⟩ ?_ ?_
 ·exact kE ⟨[], 0, [], 0⟩
 refine b_seq ?_
 obtain ⟨o18, hE, hr19, h⟩ := ctlE h
 refine b_blockE (Y := (List T_api_Element)) (fun y17 => ⟨25, [(4, .sl 3 (List.map T_api_Element.cells y17) (.fam 0 (List.length y17)))]⟩) (fun y17 => ⟨[], [List.length y17]⟩) (fun z => o18 = .nxt z) ?_ cl_cons (fun y17 hy => ?_)
 ·replace h := hE
  refine b_wk (wk (fr' := ⟨25, [(0, .str a0), (4, .nilsl)]⟩) (st' := ⟨[], []⟩) ⟨[], 0, [], 0⟩) ?_
  refine b_wk Wk.nilFam ?_
  refine b_loop (X := ((List UInt8) × (List T_api_Element))) (fun x => ⟨25, [(0, .str x.1), (4, .sl 3 (List.map T_api_Element.cells x.2) (.fam 0 (List.length x.2)))]⟩) (fun x => ⟨[], [List.length x.2]⟩) (fun k x => go_tlv_List_l1 n  k x.1 x.2 = some o18) (fun _ hx => by simp [go_tlv_List_l1] at hx) n (a0, ([] : List T_api_Element)) h (wk ⟨[], 0, [0], 1⟩) (fun k x h => ?_)
  obtain ⟨v25, v26⟩ := x
  rw [go_tlv_List_l1] at h
  refine b_seq ?_
  refine b_seq ?_
  refine reg ⟨25, [(0, .str v25), (4, .sl 3 (List.map T_api_Element.cells v26) (.fam 0 (List.length v26))), (9, .bool (!(v25 == ([] : List UInt8))))]⟩ ⟨[], [List.length v26]⟩ ?_ ?_
  ·exact kE ⟨[], 0, [0], 1⟩
  refine bif_ (!(v25 == ([] : List UInt8))) (fun hb => ?_) (fun hb => ?_)
  ·replace h := ite_t hb h
   refine b_skip ?_
   refine b_block ?_
   refine b_seq ?_
   obtain ⟨r33, hr33, h⟩ := bindE h
   refine reg ⟨25, [(4, .sl 3 (List.map T_api_Element.cells v26) (.fam 0 (List.length v26))), (5, .ptr 0 0), (6, .str r33.2.1), (7, .int .i64 r33.2.2)]⟩ ⟨[[.int .i64 r33.1.f_Tag, .str r33.1.f_Content, .str r33.1.f_Raw]], [List.length v26]⟩ ?_ ?_
   ·refine kC 1 ⟨[], 0, [], 1⟩ (go_tlv_Read_ok hr33) ?_
    exact kE ⟨[0], 1, [0], 1⟩
   refine b_seq ?_
   refine b_seq ?_
   refine reg ⟨25, [(4, .sl 3 (List.map T_api_Element.cells v26) (.fam 0 (List.length v26))), (5, .ptr 0 0), (6, .str r33.2.1), (7, .int .i64 r33.2.2), (17, .bool (r33.2.2 != 0))]⟩ ⟨[[.int .i64 r33.1.f_Tag, .str r33.1.f_Content, .str r33.1.f_Raw]], [List.length v26]⟩ ?_ ?_
   ·exact kE ⟨[0], 1, [0], 1⟩
   refine bif_ (r33.2.2 != 0) (fun hb => ?_) (fun hb => ?_)
   ·replace h := ite_t hb h
    refine b_seq ?_
    refine reg ⟨25, [(2, .nilsl), (3, .int .i64 r33.2.2)]⟩ ⟨[], []⟩ ?_ ?_
    ·exact kE ⟨[], 1, [], 1⟩
    refine b_ret ?_
    refine bk_ret ?_
    refine tk_ret ?_
    replace h := hr19 _ (Option.some.inj h).symm
    refine bl_ret ?_
    obtain rfl := Option.some.inj h
    exact rtn ⟨[], 0, [], 0⟩ (.inr rfl)
   replace h := ite_f hb h
   refine b_skip ?_
   refine b_seq ?_
   obtain ⟨x34, hx34, h⟩ := bindE h
   refine reg ⟨25, [(4, .sl 3 (List.map T_api_Element.cells x34) (.fam 0 (List.length x34))), (6, .str r33.2.1)]⟩ ⟨[], [List.length x34]⟩ ?_ ?_
   ·refine kA 3 0 T_api_Element.cells (e := 103) (e2 := 103) (sz := 3) (bytes := 40) (b2 := 40) (tok2 := .exact) hx34 ?_
    exact kE ⟨[], 1, [0], 1⟩
   refine c_reg ⟨25, [(0, .str r33.2.1), (4, .sl 3 (List.map T_api_Element.cells x34) (.fam 0 (List.length x34)))]⟩ ⟨[], [List.length x34]⟩ (cl_nil (cl_nil (P := Tryz.prog) (gl := gl0 mx) cl_loopT)) ?_ ?_
   ·exact kE ⟨[], 0, [0], 1⟩
   refine bk_norm ?_
   exact ⟨(r33.2.1, x34), h, wk ⟨[], 0, [0], 1⟩⟩
  replace h := ite_f hb h
  refine b_exit ?_
  refine tk_exit ?_
  refine bl_exit ?_
  exact ⟨v26, (Option.some.inj h).symm, wk ⟨[], 0, [0], 1⟩⟩
 replace h := h _ hy
 refine b_seq ?_
 refine reg ⟨25, [(2, .sl 3 (List.map T_api_Element.cells y17) (.fam 0 (List.length y17))), (3, .int .i64 0)]⟩ ⟨[], [List.length y17]⟩ ?_ ?_
 ·exact kE ⟨[], 0, [0], 1⟩
 refine b_ret ?_
 obtain rfl := Option.some.inj h
 exact rtn ⟨[], 0, [], 1⟩ (.inr rfl)
def go_wire_contents (n : Nat) (a0 : (List UInt8)) : Option T_wire_reader :=
 (go_tlv_List n a0).bind fun r1 =>
 some (T_wire_reader.mk r1.1 (r1.2 != 0))
theorem go_wire_contents_ok {n : Nat} {a0 : (List UInt8)} {r : T_wire_reader} (h : go_wire_contents n a0 = some r) : ACalls Tryz.prog (gl0 mx) 165 [.str a0] ⟨[], []⟩ (Out (.ptr 0 0) ⟨[[.sl 3 (List.map T_api_Element.cells r.f_l) .none, .bool r.f_failed]], []⟩) := by
 delta go_wire_contents at h
 refine fnc Tryz.func165 rfl ?_
 refine b_seq ?_
 refine reg ⟨15, [(0, .str a0)]⟩ ⟨[], []⟩ ?_ ?_
 ·exact kE ⟨[], 0, [], 0⟩
 refine b_seq ?_
 obtain ⟨r1, hr1, h⟩ := bindE h
 refine reg ⟨15, [(3, .sl 3 (List.map T_api_Element.cells r1.1) .none), (4, .int .i64 r1.2)]⟩ ⟨[], []⟩ ?_ ?_
 ·refine kC 1 ⟨[], 0, [], 0⟩ (go_tlv_List_ok hr1) ?_
  exact kE ⟨[], 0, [], 0⟩
 refine b_seq ?_
 refine reg ⟨15, [(2, .ptr 0 0)]⟩ ⟨[[.sl 3 (List.map T_api_Element.cells r1.1) .none, .bool (r1.2 != 0)]], []⟩ ?_ ?_
 ·exact kE ⟨[0], 1, [], 0⟩
 refine b_ret ?_
 obtain rfl := Option.some.inj h
 exact rtn ⟨[0], 1, [], 0⟩ (.inr rfl)
def go_wire_sequence (n : Nat) (a0 : T_api_Element) : Option T_wire_reader :=
 (go_wire_contents n a0.f_Content).bind fun r1 =>
 (if r1.f_failed = true then (some true) else (some (a0.f_Tag != 48))).bind fun y3 =>
 some (T_wire_reader.mk r1.f_l y3)
theorem go_wire_sequence_ok {n : Nat} {a0 : T_api_Element} {r : T_wire_reader} (h : go_wire_sequence n a0 = some r) : ACalls Tryz.prog (gl0 mx) 137 [.agg [.int .i64 a0.f_Tag, .str a0.f_Content, .str a0.f_Raw]] ⟨[], []⟩ (Out (.ptr 0 0) ⟨[[.sl 3 (List.map T_api_Element.cells r.f_l) .none, .bool r.f_failed]], []⟩) := by
 delta go_wire_sequence at h
 refine fnc Tryz.func137 rfl ?_
 refine b_seq ?_
 refine reg ⟨20, [(1, .ptr 0 0)]⟩ ⟨[[.int .i64 a0.f_Tag, .str a0.f_Content, .str a0.f_Raw]], []⟩ ?_ ?_
 ·exact kE ⟨[0], 1, [], 0⟩
 refine b_seq ?_
 obtain ⟨r1, hr1, h⟩ := bindE h
 refine reg ⟨20, [(1, .ptr 0 0), (3, .ptr 1 0)]⟩ ⟨[[.int .i64 a0.f_Tag, .str a0.f_Content, .str a0.f_Raw], [.sl 3 (List.map T_api_Element.cells r1.f_l) .none, .bool r1.f_failed]], []⟩ ?_ ?_
 ·refine kC 2 ⟨[], 1, [], 0⟩ (go_wire_contents_ok hr1) ?_
  exact kE ⟨[0, 1], 2, [], 0⟩
 refine b_seq ?_
 obtain ⟨y3, hE, h⟩ := bindE h
 refine reg ⟨20, [(3, .ptr 0 0)]⟩ ⟨[[.sl 3 (List.map T_api_Element.cells r1.f_l) .none, .bool y3]], []⟩ ?_ ?_
 ·replace h := hE
  refine kG 6 12 (r1.f_failed) (fun hb => ?_) (fun hb => ?_)
  ·have h := ite_t hb h
   obtain rfl := Option.some.inj h
   exact kE ⟨[1], 2, [], 0⟩
  have h := ite_f hb h
  obtain rfl := Option.some.inj h
  exact kE ⟨[1], 2, [], 0⟩
 refine b_seq ?_
 refine reg ⟨20, [(2, .ptr 0 0)]⟩ ⟨[[.sl 3 (List.map T_api_Element.cells r1.f_l) .none, .bool y3]], []⟩ ?_ ?_
 ·exact kE ⟨[0], 1, [], 0⟩
 refine b_ret ?_
 obtain rfl := Option.some.inj h
 exact rtn ⟨[0], 1, [], 0⟩ (.inr rfl)
def go_wire_reader_next (n : Nat) (m0 : T_wire_reader) : Option (T_api_Element × T_wire_reader) :=
 if ((List.length m0.f_l : Int) == 0) = true then (some ((T_api_Element.mk 0 ([] : List UInt8) ([] : List UInt8)), (T_wire_reader.mk m0.f_l true))) else ((lidx m0.f_l 0).bind fun x1 =>
 (lsl m0.f_l 1 (List.length m0.f_l)).bind fun x2 =>
 some (x1, (T_wire_reader.mk x2 m0.f_failed)))
theorem go_wire_reader_next_ok {n : Nat} {m0 : T_wire_reader} {r : (T_api_Element × T_wire_reader)} (h : go_wire_reader_next n m0 = some r) : ACalls Tryz.prog (gl0 mx) 138 [.ptr 0 0] ⟨[[.sl 3 (List.map T_api_Element.cells m0.f_l) .none, .bool m0.f_failed]], []⟩ (Out (.agg [.int .i64 r.1.f_Tag, .str r.1.f_Content, .str r.1.f_Raw]) ⟨[[.sl 3 (List.map T_api_Element.cells r.2.f_l) .none, .bool r.2.f_failed]], []⟩) := by
 delta go_wire_reader_next at h
 refine fnc Tryz.func138 rfl ?_
 refine b_seq ?_
 refine reg ⟨29, [(0, .ptr 0 0), (2, .ptr 1 0)]⟩ ⟨[[.sl 3 (List.map T_api_Element.cells m0.f_l) .none, .bool m0.f_failed], [.int .i64 0, .str ([] : List UInt8), .str ([] : List UInt8)]], []⟩ ?_ ?_
 ·exact kE ⟨[0, 1], 2, [], 0⟩
 refine b_seq ?_
 refine b_seq ?_
 refine reg ⟨29, [(0, .ptr 0 0), (2, .ptr 1 0), (9, .bool ((List.length m0.f_l : Int) == 0))]⟩ ⟨[[.sl 3 (List.map T_api_Element.cells m0.f_l) .none, .bool m0.f_failed], [.int .i64 0, .str ([] : List UInt8), .str ([] : List UInt8)]], []⟩ ?_ ?_
 ·refine kP 4 (x_len (c := T_api_Element.cells) (l := m0.f_l) (e := 103) (sz := 3) (sz' := 3) (b := 40) (tok := .none)) ?_
  exact kE ⟨[0, 1], 2, [], 0⟩
 refine bif_ ((List.length m0.f_l : Int) == 0) (fun hb => ?_) (fun hb => ?_)
 ·replace h := ite_t hb h
  refine b_seq ?_
  refine reg ⟨29, [(2, .ptr 1 0)]⟩ ⟨[[.sl 3 (List.map T_api_Element.cells m0.f_l) .none, .bool true], [.int .i64 0, .str ([] : List UInt8), .str ([] : List UInt8)]], []⟩ ?_ ?_
  ·exact kE ⟨[0, 1], 2, [], 0⟩
  refine b_seq ?_
  refine reg ⟨29, [(2, .ptr 1 0)]⟩ ⟨[[.sl 3 (List.map T_api_Element.cells m0.f_l) .none, .bool true], [.int .i64 0, .str ([] : List UInt8), .str ([] : List UInt8)]], []⟩ ?_ ?_
  ·exact kE ⟨[0, 1], 2, [], 0⟩
  refine b_ret ?_
  obtain rfl := Option.some.inj h
  exact rtn ⟨[0], 2, [], 0⟩ (.inr rfl)
 replace h := ite_f hb h
 refine b_skip ?_
 refine b_seq ?_
 obtain ⟨x1, hx1, h⟩ := bindE h
 refine reg ⟨29, [(0, .ptr 0 0), (2, .ptr 1 0), (3, .ptr 2 0)]⟩ ⟨[[.sl 3 (List.map T_api_Element.cells m0.f_l) .none, .bool m0.f_failed], [.int .i64 0, .str ([] : List UInt8), .str ([] : List UInt8)], [.int .i64 x1.f_Tag, .str x1.f_Content, .str x1.f_Raw]], []⟩ ?_ ?_
 ·refine kP 4 (x_lidx (c := T_api_Element.cells) (e := 103) (sz := 3) (b := 40) (tok := .none) hx1) ?_
  exact kE ⟨[0, 1, 2], 3, [], 0⟩
 refine b_seq ?_
 obtain ⟨x2, hx2, h⟩ := bindE h
 refine reg ⟨29, [(2, .ptr 1 0), (3, .ptr 2 0)]⟩ ⟨[[.sl 3 (List.map T_api_Element.cells x2) .none, .bool m0.f_failed], [.int .i64 0, .str ([] : List UInt8), .str ([] : List UInt8)], [.int .i64 x1.f_Tag, .str x1.f_Content, .str x1.f_Raw]], []⟩ ?_ ?_
 ·refine kP 5 (x_lsl_lo (k := .i64) (c := T_api_Element.cells) (e := 103) (sz := 3) (b := 40) (tok := .none) hx2) ?_
  exact kE ⟨[0, 1, 2], 3, [], 0⟩
 refine b_seq ?_
 refine reg ⟨29, [(2, .ptr 1 0)]⟩ ⟨[[.sl 3 (List.map T_api_Element.cells x2) .none, .bool m0.f_failed], [.int .i64 x1.f_Tag, .str x1.f_Content, .str x1.f_Raw]], []⟩ ?_ ?_
 ·exact kE ⟨[0, 1], 3, [], 0⟩
 refine b_ret ?_
 obtain rfl := Option.some.inj h
 exact rtn ⟨[0], 2, [], 0⟩ (.inr rfl)
def go_date_number_l1 (n : Nat) (a0 : (List UInt8)) : Nat → Int → Int → Option (Ctl Int Int)
 | 0, _, _ => none
 | k + 1, v31, v32 =>
  if (decide (v32 < (List.length (s2b a0) : Int))) = true then ((lidx (s2b a0) v32).bind fun x42 =>
  (if (decide (x42 < 48)) = true then (some true) else (some (decide (x42 > 57)))).bind fun y44 =>
  if y44 = true then (some (.ret (-1))) else (go_date_number_l1 n a0 k (IntKind.wrap .i64 ((IntKind.wrap .i64 ((10 : Int) * v31)) + (IntKind.wrap .i64 (IntKind.wrap .u8 (x42 - 48))))) (IntKind.wrap .i64 (v32 + 1)))) else (some (.nxt v31))
def go_date_number (n : Nat) (a0 : (List UInt8)) : Option Int :=
 ctlB (go_date_number_l1 n a0 n 0 0) (fun r => some r) (fun y22 =>
 some y22)
theorem go_date_number_ok {n : Nat} {a0 : (List UInt8)} {r : Int} (h : go_date_number n a0 = some r) : ACalls Tryz.prog (gl0 mx) 193 [.str a0] ⟨[], []⟩ (Out (.int .i64 r) ⟨[], []⟩) := by
 delta go_date_number at h
 refine fnc Tryz.func193 rfl ?_
 refine b_seq ?_
 refine reg ⟨27, [(0, .str a0)]⟩ ⟨[], []⟩ ?_ ?_
 ·exact kE ⟨[], 0, [], 0⟩
 refine b_seq ?_
 refine reg ⟨27, [(0, .str a0), (3, .int .i64 0)]⟩ ⟨[], []⟩ ?_ ?_
 ·exact kE ⟨[], 0, [], 0⟩
 refine b_seq ?_
 refine b_seq ?_
 refine reg ⟨27, [(3, .int .i64 0), (7, .sl 1 (List.map (cI .u8) (s2b a0)) .none), (8, .int .i64 (List.length (s2b a0) : Int)), (9, .int .i64 0)]⟩ ⟨[], []⟩ ?_ ?_
 ·refine kS 1 a0 ?_
  refine kP 2 (x_len (c := (cI .u8)) (l := s2b a0) (e := 5) (sz := 1) (sz' := 1) (b := 1) (tok := .none)) ?_
  exact kE ⟨[], 0, [], 0⟩
 obtain ⟨o23, hE, hr24, h⟩ := ctlE h
 refine b_blockE (Y := Int) (fun y22 => ⟨27, [(3, .int .i64 y22)]⟩) (fun y22 => ⟨[], []⟩) (fun z => o23 = .nxt z) ?_ cl_cons (fun y22 hy => ?_)
 ·replace h := hE
  refine b_loop (X := (Int × Int)) (fun x => ⟨27, [(3, .int .i64 x.1), (7, .sl 1 (List.map (cI .u8) (s2b a0)) .none), (8, .int .i64 (List.length (s2b a0) : Int)), (9, .int .i64 x.2)]⟩) (fun x => ⟨[], []⟩) (fun k x => go_date_number_l1 n a0 k x.1 x.2 = some o23) (fun _ hx => by simp [go_date_number_l1] at hx) n (0, 0) h (wk ⟨[], 0, [], 0⟩) (fun k x h => ?_)
  obtain ⟨v31, v32⟩ := x
  rw [go_date_number_l1] at h
  refine b_seq ?_
  refine reg ⟨27, [(3, .int .i64 v31), (7, .sl 1 (List.map (cI .u8) (s2b a0)) .none), (8, .int .i64 (List.length (s2b a0) : Int)), (9, .int .i64 v32), (10, .bool (decide (v32 < (List.length (s2b a0) : Int))))]⟩ ⟨[], []⟩ ?_ ?_
  ·exact kE ⟨[], 0, [], 0⟩
  refine b_seq ?_
  refine bif_ (decide (v32 < (List.length (s2b a0) : Int))) (fun hb => ?_) (fun hb => ?_)
  ·replace h := ite_t hb h
   refine b_skip ?_
   refine b_seq ?_
   refine b_block ?_
   refine b_seq ?_
   obtain ⟨x42, hx42, h⟩ := bindE h
   refine reg ⟨27, [(3, .int .i64 v31), (5, .int .u8 x42), (7, .sl 1 (List.map (cI .u8) (s2b a0)) .none), (8, .int .i64 (List.length (s2b a0) : Int)), (9, .int .i64 v32)]⟩ ⟨[], []⟩ ?_ ?_
   ·refine kP 0 (x_lidx (c := (cI .u8)) (e := 5) (sz := 1) (b := 1) (tok := .none) hx42) ?_
    exact kE ⟨[], 0, [], 0⟩
   refine b_seq ?_
   refine b_seq ?_
   obtain ⟨y44, hE, h⟩ := bindE h
   refine reg ⟨27, [(3, .int .i64 v31), (5, .int .u8 x42), (7, .sl 1 (List.map (cI .u8) (s2b a0)) .none), (8, .int .i64 (List.length (s2b a0) : Int)), (9, .int .i64 v32), (18, .bool y44)]⟩ ⟨[], []⟩ ?_ ?_
   ·replace h := hE
    refine kG 3 15 (decide (x42 < 48)) (fun hb => ?_) (fun hb => ?_)
    ·have h := ite_t hb h
     obtain rfl := Option.some.inj h
     exact kE ⟨[], 0, [], 0⟩
    have h := ite_f hb h
    obtain rfl := Option.some.inj h
    exact kE ⟨[], 0, [], 0⟩
   refine bif_ (y44) (fun hb => ?_) (fun hb => ?_)
   ·replace h := ite_t hb h
    refine b_seq ?_
    refine reg ⟨27, [(2, .int .i64 (-1))]⟩ ⟨[], []⟩ ?_ ?_
    ·exact kE ⟨[], 0, [], 0⟩
    refine b_ret ?_
    refine bk_ret ?_
    refine tk_ret ?_
    replace h := hr24 _ (Option.some.inj h).symm
    refine bl_ret ?_
    obtain rfl := Option.some.inj h
    exact rtn ⟨[], 0, [], 0⟩ (.inr rfl)
   replace h := ite_f hb h
   refine b_skip ?_
   refine regN ⟨27, [(3, .int .i64 (IntKind.wrap .i64 ((IntKind.wrap .i64 ((10 : Int) * v31)) + (IntKind.wrap .i64 (IntKind.wrap .u8 (x42 - 48)))))), (7, .sl 1 (List.map (cI .u8) (s2b a0)) .none), (8, .int .i64 (List.length (s2b a0) : Int)), (9, .int .i64 v32)]⟩ ⟨[], []⟩ cl_cons ?_ ?_
   ·exact kE ⟨[], 0, [], 0⟩
   refine bk_norm ?_
   refine regN ⟨27, [(3, .int .i64 (IntKind.wrap .i64 ((IntKind.wrap .i64 ((10 : Int) * v31)) + (IntKind.wrap .i64 (IntKind.wrap .u8 (x42 - 48)))))), (7, .sl 1 (List.map (cI .u8) (s2b a0)) .none), (8, .int .i64 (List.length (s2b a0) : Int)), (9, .int .i64 (IntKind.wrap .i64 (v32 + 1)))]⟩ ⟨[], []⟩ cl_loopT ?_ ?_
   ·exact kE ⟨[], 0, [], 0⟩
   exact ⟨(IntKind.wrap .i64 ((IntKind.wrap .i64 ((10 : Int) * v31)) + (IntKind.wrap .i64 (IntKind.wrap .u8 (x42 - 48)))), IntKind.wrap .i64 (v32 + 1)), h, wk ⟨[], 0, [], 0⟩⟩
  replace h := ite_f hb h
  refine b_exit ?_
  refine tk_exit ?_
  refine bl_exit ?_
  exact ⟨v31, (Option.some.inj h).symm, wk ⟨[], 0, [], 0⟩⟩
 replace h := h _ hy
 refine b_seq ?_
 refine reg ⟨27, [(2, .int .i64 y22)]⟩ ⟨[], []⟩ ?_ ?_
 ·exact kE ⟨[], 0, [], 0⟩
 refine b_ret ?_
 obtain rfl := Option.some.inj h
 exact rtn ⟨[], 0, [], 0⟩ (.inr rfl)
def go_date_parts (n : Nat) (a0 : Int) (a1 : (List UInt8)) : Option T_api_Date :=
 (ssl a1 0 2).bind fun x1 =>
 (ssl a1 2 4).bind fun x2 =>
 (ssl a1 4 6).bind fun x3 =>
 (ssl a1 6 8).bind fun x4 =>
 (ssl a1 8 10).bind fun x5 =>
 (go_date_number n x1).bind fun r6 =>
 (go_date_number n x2).bind fun r7 =>
 (go_date_number n x3).bind fun r8 =>
 (go_date_number n x4).bind fun r9 =>
 (go_date_number n x5).bind fun r10 =>
 some (T_api_Date.mk a0 r6 r7 r8 r9 r10)
theorem go_date_parts_ok {n : Nat} {a0 : Int} {a1 : (List UInt8)} {r : T_api_Date} (h : go_date_parts n a0 a1 = some r) : ACalls Tryz.prog (gl0 mx) 195 [.int .i64 a0, .str a1] ⟨[], []⟩ (Out (.agg [.int .i64 r.f_Year, .int .i64 r.f_Month, .int .i64 r.f_Day, .int .i64 r.f_Hour, .int .i64 r.f_Minute, .int .i64 r.f_Second]) ⟨[], []⟩) := by
 delta go_date_parts at h
 refine fnc Tryz.func195 rfl ?_
 refine b_seq ?_
 refine reg ⟨22, [(0, .int .i64 a0), (1, .str a1), (4, .ptr 0 0)]⟩ ⟨[[.int .i64 0, .int .i64 0, .int .i64 0, .int .i64 0, .int .i64 0, .int .i64 0]], []⟩ ?_ ?_
 ·exact kE ⟨[0], 1, [], 0⟩
 refine b_seq ?_
 obtain ⟨x1, hx1, h⟩ := bindE h
 obtain ⟨x2, hx2, h⟩ := bindE h
 obtain ⟨x3, hx3, h⟩ := bindE h
 obtain ⟨x4, hx4, h⟩ := bindE h
 obtain ⟨x5, hx5, h⟩ := bindE h
 obtain ⟨r6, hr6, h⟩ := bindE h
 obtain ⟨r7, hr7, h⟩ := bindE h
 obtain ⟨r8, hr8, h⟩ := bindE h
 obtain ⟨r9, hr9, h⟩ := bindE h
 obtain ⟨r10, hr10, h⟩ := bindE h
 refine drw [0, 1, 2, 4, 5, 7, 8, 10, 11, 13, 14, 3, 6, 9, 12, 15, 16, 17] [3, 6, 9, 12, 15, 17] [[], [], [1], [1, 2], [], [4], [1, 2, 3, 4, 5], [], [7], [1, 2, 3, 4, 5, 6, 7, 8], [], [10], [1, 2, 3, 4, 5, 6, 7, 8, 9, 10, 11], [], [13], [1, 2, 3, 4, 5, 6, 7, 8, 9, 10, 11, 12, 13, 14], [0, 1, 2, 3, 4, 5, 6, 7, 8, 9, 10, 11, 12, 13, 14, 15], [0, 1, 2, 3, 4, 5, 6, 7, 8, 9, 10, 11, 12, 13, 14, 15, 16]] ⟨22, [(4, .ptr 0 0)]⟩ ⟨[[.int .i64 a0, .int .i64 r6, .int .i64 r7, .int .i64 r8, .int .i64 r9, .int .i64 r10]], []⟩ ?_ ?_
 ·refine dS [0, 1] ?_
  refine dP (x_ssl_hi (k := .i64) hx1) ?_
  refine dS [4] ?_
  refine dP (x_ssl (k := .i64) (k' := .i64) hx2) ?_
  refine dS [7] ?_
  refine dP (x_ssl (k := .i64) (k' := .i64) hx3) ?_
  refine dS [10] ?_
  refine dP (x_ssl (k := .i64) (k' := .i64) hx4) ?_
  refine dS [13] ?_
  refine dP (x_ssl (k := .i64) (k' := .i64) hx5) ?_
  refine dC (fxCons 14 (x_ssl (k := .i64) (k' := .i64) hx5) (fxCons 11 (x_ssl (k := .i64) (k' := .i64) hx4) (fxCons 8 (x_ssl (k := .i64) (k' := .i64) hx3) (fxCons 5 (x_ssl (k := .i64) (k' := .i64) hx2) (fxCons 2 (x_ssl_hi (k := .i64) hx1) fxNil))))) ⟨[], 1, [], 0⟩ (go_date_number_ok hr6) ?_
  refine dC (fxCons 14 (x_ssl (k := .i64) (k' := .i64) hx5) (fxCons 11 (x_ssl (k := .i64) (k' := .i64) hx4) (fxCons 8 (x_ssl (k := .i64) (k' := .i64) hx3) (fxCons 5 (x_ssl (k := .i64) (k' := .i64) hx2) (fxCons 2 (x_ssl_hi (k := .i64) hx1) fxNil))))) ⟨[], 1, [], 0⟩ (go_date_number_ok hr7) ?_
  refine dC (fxCons 14 (x_ssl (k := .i64) (k' := .i64) hx5) (fxCons 11 (x_ssl (k := .i64) (k' := .i64) hx4) (fxCons 8 (x_ssl (k := .i64) (k' := .i64) hx3) (fxCons 5 (x_ssl (k := .i64) (k' := .i64) hx2) (fxCons 2 (x_ssl_hi (k := .i64) hx1) fxNil))))) ⟨[], 1, [], 0⟩ (go_date_number_ok hr8) ?_
  refine dC (fxCons 14 (x_ssl (k := .i64) (k' := .i64) hx5) (fxCons 11 (x_ssl (k := .i64) (k' := .i64) hx4) (fxCons 8 (x_ssl (k := .i64) (k' := .i64) hx3) (fxCons 5 (x_ssl (k := .i64) (k' := .i64) hx2) (fxCons 2 (x_ssl_hi (k := .i64) hx1) fxNil))))) ⟨[], 1, [], 0⟩ (go_date_number_ok hr9) ?_
  refine dC (fxCons 14 (x_ssl (k := .i64) (k' := .i64) hx5) (fxCons 11 (x_ssl (k := .i64) (k' := .i64) hx4) (fxCons 8 (x_ssl (k := .i64) (k' := .i64) hx3) (fxCons 5 (x_ssl (k := .i64) (k' := .i64) hx2) (fxCons 2 (x_ssl_hi (k := .i64) hx1) fxNil))))) ⟨[], 1, [], 0⟩ (go_date_number_ok hr10) ?_
  refine dS [16] ?_
  refine dF (fxCons 14 (x_ssl (k := .i64) (k' := .i64) hx5) (fxCons 11 (x_ssl (k := .i64) (k' := .i64) hx4) (fxCons 8 (x_ssl (k := .i64) (k' := .i64) hx3) (fxCons 5 (x_ssl (k := .i64) (k' := .i64) hx2) (fxCons 2 (x_ssl_hi (k := .i64) hx1) fxNil))))) ?_
  exact dE ⟨[0], 1, [], 0⟩
 refine b_ret ?_
 obtain rfl := Option.some.inj h
 exact rtn ⟨[], 1, [], 0⟩ (.inr rfl)
def go_date_Seconds_l1 (n : Nat) (a0 : T_api_Date) : Nat → Int → Int → Option Int
 | 0, _, _ => none
 | k + 1, v20, v21 =>
  if (decide (v21 < a0.f_Month)) = true then ((go_date_length n a0.f_Year v21).bind fun r25 =>
  go_date_Seconds_l1 n a0 k (IntKind.wrap .i64 (v20 + r25)) (IntKind.wrap .i64 (v21 + 1))) else (some v20)
def go_date_Seconds (n : Nat) (a0 : T_api_Date) : Option (Int × Int) :=
 (if (decide (a0.f_Year < 1950)) = true then (some true) else (if (decide (a0.f_Year > 9999)) = true then (some true) else (if (decide (a0.f_Month < 1)) = true then (some true) else (if (decide (a0.f_Month > 12)) = true then (some true) else (if (decide (a0.f_Day < 1)) = true then (some true) else ((go_date_length n a0.f_Year a0.f_Month).bind fun r1 =>
 some (decide (a0.f_Day > r1)))))))).bind fun y3 =>
 if y3 = true then (some (0, 12)) else ((if (decide (a0.f_Hour < 0)) = true then (some true) else (if (decide (a0.f_Hour > 23)) = true then (some true) else (if (decide (a0.f_Minute < 0)) = true then (some true) else (if (decide (a0.f_Minute > 59)) = true then (some true) else (if (decide (a0.f_Second < 0)) = true then (some true) else (some (decide (a0.f_Second > 59)))))))).bind fun y5 =>
 if y5 = true then (some (0, 12)) else ((go_date_before n a0.f_Year).bind fun r6 =>
 (go_date_Seconds_l1 n a0 n (IntKind.wrap .i64 ((IntKind.wrap .i64 (r6 + a0.f_Day)) - 1)) 1).bind fun y16 =>
 some (IntKind.wrap .i64 ((IntKind.wrap .i64 ((IntKind.wrap .i64 ((IntKind.wrap .i64 ((86400 : Int) * y16)) + (IntKind.wrap .i64 ((3600 : Int) * a0.f_Hour)))) + (IntKind.wrap .i64 ((60 : Int) * a0.f_Minute)))) + a0.f_Second), 0)))
theorem go_date_Seconds_ok {n : Nat} {a0 : T_api_Date} {r : (Int × Int)} (h : go_date_Seconds n a0 = some r) : ACalls Tryz.prog (gl0 mx) 194 [.agg [.int .i64 a0.f_Year, .int .i64 a0.f_Month, .int .i64 a0.f_Day, .int .i64 a0.f_Hour, .int .i64 a0.f_Minute, .int .i64 a0.f_Second]] ⟨[], []⟩ (Out (.tuple [.int .i64 r.1, .int .i64 r.2]) ⟨[], []⟩) := by
 delta go_date_Seconds at h
 refine fnc Tryz.func194 rfl ?_
 refine b_seq ?_
 refine reg ⟨99, [(1, .ptr 0 0)]⟩ ⟨[[.int .i64 a0.f_Year, .int .i64 a0.f_Month, .int .i64 a0.f_Day, .int .i64 a0.f_Hour, .int .i64 a0.f_Minute, .int .i64 a0.f_Second]], []⟩ ?_ ?_
 ·exact kE ⟨[0], 1, [], 0⟩
 refine b_seq ?_
 refine b_seq ?_
 obtain ⟨y3, hE, h⟩ := bindE h
 refine drw [0, 1, 2, 3, 4, 5, 6, 7, 8, 9, 10, 11, 12, 13, 14, 15, 16, 17, 18, 19, 20, 21, 22, 23, 24, 25, 26, 27, 28, 29, 30, 31, 32] [30] [[], [0], [0, 1], [0, 1, 2], [0, 1, 2, 3], [0, 1, 2, 3, 4], [0, 1, 2, 3, 4, 5], [0, 1, 2, 3, 4, 5, 6], [0, 1, 2, 3, 4, 5, 6, 7], [0, 1, 2, 3, 4, 5, 6, 7, 8], [0, 1, 2, 3, 4, 5, 6, 7, 8, 9], [0, 1, 2, 3, 4, 5, 6, 7, 8, 9, 10], [0, 1, 2, 3, 4, 5, 6, 7, 8, 9, 10, 11], [0, 1, 2, 3, 4, 5, 6, 7, 8, 9, 10, 11, 12], [0, 1, 2, 3, 4, 5, 6, 7, 8, 9, 10, 11, 12, 13], [0, 1, 2, 3, 4, 5, 6, 7, 8, 9, 10, 11, 12, 13, 14], [0, 1, 2, 3, 4, 5, 6, 7, 8, 9, 10, 11, 12, 13, 14, 15], [0, 1, 2, 3, 4, 5, 6, 7, 8, 9, 10, 11, 12, 13, 14, 15, 16], [0, 1, 2, 3, 4, 5, 6, 7, 8, 9, 10, 11, 12, 13, 14, 15, 16, 17], [0, 1, 2, 3, 4, 5, 6, 7, 8, 9, 10, 11, 12, 13, 14, 15, 16, 17, 18], [0, 1, 2, 3, 4, 5, 6, 7, 8, 9, 10, 11, 12, 13, 14, 15, 16, 17, 18, 19], [0, 1, 2, 3, 4, 5, 6, 7, 8, 9, 10, 11, 12, 13, 14, 15, 16, 17, 18, 19, 20], [0, 1, 2, 3, 4, 5, 6, 7, 8, 9, 10, 11, 12, 13, 14, 15, 16, 17, 18, 19, 20, 21], [0, 1, 2, 3, 4, 5, 6, 7, 8, 9, 10, 11, 12, 13, 14, 15, 16, 17, 18, 19, 20, 21, 22], [0, 1, 2, 3, 4, 5, 6, 7, 8, 9, 10, 11, 12, 13, 14, 15, 16, 17, 18, 19, 20, 21, 22, 23], [0, 1, 2, 3, 4, 5, 6, 7, 8, 9, 10, 11, 12, 13, 14, 15, 16, 17, 18, 19, 20, 21, 22, 23, 24], [0, 1, 2, 3, 4, 5, 6, 7, 8, 9, 10, 11, 12, 13, 14, 15, 16, 17, 18, 19, 20, 21, 22, 23], [0, 1, 2, 3, 4, 5, 6, 7, 8, 9, 10, 11, 12, 13, 14, 15, 16, 17, 18, 19, 20, 21, 22, 23, 26], [0, 1, 2, 3, 4, 5, 6, 7, 8, 9, 10, 11, 12, 13, 14, 15, 16, 17, 18, 19, 20, 21, 22, 23], [0, 1, 2, 3, 4, 5, 6, 7, 8, 9, 10, 11, 12, 13, 14, 15, 16, 17, 18, 19, 20, 21, 22, 23, 28], [0, 1, 2, 3, 4, 5, 6, 7, 8, 9, 10, 11, 12, 13, 14, 15, 16, 17, 18, 19, 20, 21, 22, 23, 26, 27, 28, 29], [0, 1, 2, 3, 4, 5, 6, 7, 8, 9, 10, 11, 12, 13, 14, 15, 16, 17, 18, 19, 20, 21, 22, 23, 24, 25, 26, 27, 28, 29, 30], [0, 1, 2, 3, 4, 5, 6, 7, 8, 9, 10, 11, 12, 13, 14, 15, 16, 17, 18, 19, 20, 21, 22, 23, 24, 25, 26, 27, 28, 29, 30, 31]] ⟨99, [(1, .ptr 0 0), (38, .bool y3)]⟩ ⟨[[.int .i64 a0.f_Year, .int .i64 a0.f_Month, .int .i64 a0.f_Day, .int .i64 a0.f_Hour, .int .i64 a0.f_Minute, .int .i64 a0.f_Second]], []⟩ ?_ ?_
 ·replace h := hE
  refine dS [0, 1, 2, 3] ?_
  refine dG 9 (decide (a0.f_Year < 1950)) (fun hb => ?_) (fun hb => ?_)
  ·have h := ite_t hb h
   refine dS [4, 5, 6, 7, 8, 9, 10, 11, 12, 13, 14, 15, 16, 17, 18, 19, 20, 21, 22, 23, 24, 25, 26, 27, 28, 29] ?_
   refine dF fxNil ?_
   refine dS [31, 32] ?_
   obtain rfl := Option.some.inj h
   exact dE ⟨[0], 1, [], 0⟩
  have h := ite_f hb h
  refine dS [4, 5, 6, 7, 8] ?_
  refine dG 14 (decide (a0.f_Year > 9999)) (fun hb => ?_) (fun hb => ?_)
  ·have h := ite_t hb h
   refine dS [9, 10, 11, 12, 13, 14, 15, 16, 17, 18, 19, 20, 21, 22, 23, 24, 25, 26, 27, 28, 29] ?_
   refine dF fxNil ?_
   refine dS [31, 32] ?_
   obtain rfl := Option.some.inj h
   exact dE ⟨[0], 1, [], 0⟩
  have h := ite_f hb h
  refine dS [9, 10, 11, 12, 13] ?_
  refine dG 19 (decide (a0.f_Month < 1)) (fun hb => ?_) (fun hb => ?_)
  ·have h := ite_t hb h
   refine dS [14, 15, 16, 17, 18, 19, 20, 21, 22, 23, 24, 25, 26, 27, 28, 29] ?_
   refine dF fxNil ?_
   refine dS [31, 32] ?_
   obtain rfl := Option.some.inj h
   exact dE ⟨[0], 1, [], 0⟩
  have h := ite_f hb h
  refine dS [14, 15, 16, 17, 18] ?_
  refine dG 24 (decide (a0.f_Month > 12)) (fun hb => ?_) (fun hb => ?_)
  ·have h := ite_t hb h
   refine dS [19, 20, 21, 22, 23, 24, 25, 26, 27, 28, 29] ?_
   refine dF fxNil ?_
   refine dS [31, 32] ?_
   obtain rfl := Option.some.inj h
   exact dE ⟨[0], 1, [], 0⟩
  have h := ite_f hb h
  refine dS [19, 20, 21, 22, 23] ?_
  refine dG 29 (decide (a0.f_Day < 1)) (fun hb => ?_) (fun hb => ?_)
  ·have h := ite_t hb h
   refine dS [24, 25, 26, 27, 28, 29] ?_
   refine dF fxNil ?_
   refine dS [31, 32] ?_
   obtain rfl := Option.some.inj h
   exact dE ⟨[0], 1, [], 0⟩
  have h := ite_f hb h
  obtain ⟨r1, hr1, h⟩ := bindE h
  refine dS [24, 25, 26, 27, 28, 29] ?_
  refine dC fxNil ⟨[], 1, [], 0⟩ (go_date_length_ok hr1) ?_
  refine dS [31, 32] ?_
  obtain rfl := Option.some.inj h
  exact dE ⟨[0], 1, [], 0⟩
 refine bif_ (y3) (fun hb => ?_) (fun hb => ?_)
 ·replace h := ite_t hb h
  refine b_seq ?_
  refine reg ⟨99, [(2, .int .i64 0), (3, .int .i64 12)]⟩ ⟨[], []⟩ ?_ ?_
  ·exact kE ⟨[], 1, [], 0⟩
  refine b_ret ?_
  obtain rfl := Option.some.inj h
  exact rtn ⟨[], 0, [], 0⟩ (.inr rfl)
 replace h := ite_f hb h
 refine b_skip ?_
 refine b_seq ?_
 refine b_seq ?_
 obtain ⟨y5, hE, h⟩ := bindE h
 refine reg ⟨99, [(1, .ptr 0 0), (66, .bool y5)]⟩ ⟨[[.int .i64 a0.f_Year, .int .i64 a0.f_Month, .int .i64 a0.f_Day, .int .i64 a0.f_Hour, .int .i64 a0.f_Minute, .int .i64 a0.f_Second]], []⟩ ?_ ?_
 ·replace h := hE
  refine kG 4 42 (decide (a0.f_Hour < 0)) (fun hb => ?_) (fun hb => ?_)
  ·have h := ite_t hb h
   obtain rfl := Option.some.inj h
   exact kE ⟨[0], 1, [], 0⟩
  have h := ite_f hb h
  refine kG 9 47 (decide (a0.f_Hour > 23)) (fun hb => ?_) (fun hb => ?_)
  ·have h := ite_t hb h
   obtain rfl := Option.some.inj h
   exact kE ⟨[0], 1, [], 0⟩
  have h := ite_f hb h
  refine kG 14 52 (decide (a0.f_Minute < 0)) (fun hb => ?_) (fun hb => ?_)
  ·have h := ite_t hb h
   obtain rfl := Option.some.inj h
   exact kE ⟨[0], 1, [], 0⟩
  have h := ite_f hb h
  refine kG 19 57 (decide (a0.f_Minute > 59)) (fun hb => ?_) (fun hb => ?_)
  ·have h := ite_t hb h
   obtain rfl := Option.some.inj h
   exact kE ⟨[0], 1, [], 0⟩
  have h := ite_f hb h
  refine kG 24 62 (decide (a0.f_Second < 0)) (fun hb => ?_) (fun hb => ?_)
  ·have h := ite_t hb h
   obtain rfl := Option.some.inj h
   exact kE ⟨[0], 1, [], 0⟩
  have h := ite_f hb h
  obtain rfl := Option.some.inj h
  exact kE ⟨[0], 1, [], 0⟩
 refine bif_ (y5) (fun hb => ?_) (fun hb => ?_)
 ·replace h := ite_t hb h
  refine b_seq ?_
  refine reg ⟨99, [(2, .int .i64 0), (3, .int .i64 12)]⟩ ⟨[], []⟩ ?_ ?_
  ·exact kE ⟨[], 1, [], 0⟩
  refine b_ret ?_
  obtain rfl := Option.some.inj h
  exact rtn ⟨[], 0, [], 0⟩ (.inr rfl)
 replace h := ite_f hb h
 refine b_skip ?_
 refine b_seq ?_
 obtain ⟨r6, hr6, h⟩ := bindE h
 refine drw [0, 1, 3, 4, 2, 5, 6, 7] [2] [[], [0], [0, 1], [], [3], [0, 1, 2, 3, 4], [0, 1, 2, 3, 4, 5], [0, 1, 2, 3, 4, 5, 6]] ⟨99, [(1, .ptr 0 0), (4, .int .i64 (IntKind.wrap .i64 ((IntKind.wrap .i64 (r6 + a0.f_Day)) - 1)))]⟩ ⟨[[.int .i64 a0.f_Year, .int .i64 a0.f_Month, .int .i64 a0.f_Day, .int .i64 a0.f_Hour, .int .i64 a0.f_Minute, .int .i64 a0.f_Second]], []⟩ ?_ ?_
 ·refine dS [0, 1, 3, 4] ?_
  refine dC fxNil ⟨[], 1, [], 0⟩ (go_date_before_ok hr6) ?_
  refine dS [5, 6, 7] ?_
  exact dE ⟨[0], 1, [], 0⟩
 refine b_seq ?_
 refine b_seq ?_
 refine reg ⟨99, [(1, .ptr 0 0), (4, .int .i64 (IntKind.wrap .i64 ((IntKind.wrap .i64 (r6 + a0.f_Day)) - 1))), (5, .int .i64 1)]⟩ ⟨[[.int .i64 a0.f_Year, .int .i64 a0.f_Month, .int .i64 a0.f_Day, .int .i64 a0.f_Hour, .int .i64 a0.f_Minute, .int .i64 a0.f_Second]], []⟩ ?_ ?_
 ·exact kE ⟨[0], 1, [], 0⟩
 obtain ⟨y16, hE, h⟩ := bindE h
 refine b_blockE (Y := Int) (fun y16 => ⟨99, [(1, .ptr 0 0), (4, .int .i64 y16)]⟩) (fun y16 => ⟨[[.int .i64 a0.f_Year, .int .i64 a0.f_Month, .int .i64 a0.f_Day, .int .i64 a0.f_Hour, .int .i64 a0.f_Minute, .int .i64 a0.f_Second]], []⟩) (fun z => y16 = z) ?_ cl_cons (fun z hz => ?_)
 ·replace h := hE
  refine b_loop (X := (Int × Int)) (fun x => ⟨99, [(1, .ptr 0 0), (4, .int .i64 x.1), (5, .int .i64 x.2)]⟩) (fun x => ⟨[[.int .i64 a0.f_Year, .int .i64 a0.f_Month, .int .i64 a0.f_Day, .int .i64 a0.f_Hour, .int .i64 a0.f_Minute, .int .i64 a0.f_Second]], []⟩) (fun k x => go_date_Seconds_l1 n a0 k x.1 x.2 = some y16) (fun _ hx => by simp [go_date_Seconds_l1] at hx) n (IntKind.wrap .i64 ((IntKind.wrap .i64 (r6 + a0.f_Day)) - 1), 1) h (wk ⟨[0], 1, [], 0⟩) (fun k x h => ?_)
  obtain ⟨v20, v21⟩ := x
  rw [go_date_Seconds_l1] at h
  refine b_seq ?_
  refine b_seq ?_
  refine reg ⟨99, [(1, .ptr 0 0), (4, .int .i64 v20), (5, .int .i64 v21), (77, .bool (decide (v21 < a0.f_Month)))]⟩ ⟨[[.int .i64 a0.f_Year, .int .i64 a0.f_Month, .int .i64 a0.f_Day, .int .i64 a0.f_Hour, .int .i64 a0.f_Minute, .int .i64 a0.f_Second]], []⟩ ?_ ?_
  ·exact kE ⟨[0], 1, [], 0⟩
  refine bif_ (decide (v21 < a0.f_Month)) (fun hb => ?_) (fun hb => ?_)
  ·replace h := ite_t hb h
   refine b_skip ?_
   refine b_seq ?_
   refine b_block ?_
   obtain ⟨r25, hr25, h⟩ := bindE h
   refine regN ⟨99, [(1, .ptr 0 0), (4, .int .i64 (IntKind.wrap .i64 (v20 + r25))), (5, .int .i64 v21)]⟩ ⟨[[.int .i64 a0.f_Year, .int .i64 a0.f_Month, .int .i64 a0.f_Day, .int .i64 a0.f_Hour, .int .i64 a0.f_Minute, .int .i64 a0.f_Second]], []⟩ cl_cons ?_ ?_
   ·refine kC 4 ⟨[], 1, [], 0⟩ (go_date_length_ok hr25) ?_
    exact kE ⟨[0], 1, [], 0⟩
   refine bk_norm ?_
   refine regN ⟨99, [(1, .ptr 0 0), (4, .int .i64 (IntKind.wrap .i64 (v20 + r25))), (5, .int .i64 (IntKind.wrap .i64 (v21 + 1)))]⟩ ⟨[[.int .i64 a0.f_Year, .int .i64 a0.f_Month, .int .i64 a0.f_Day, .int .i64 a0.f_Hour, .int .i64 a0.f_Minute, .int .i64 a0.f_Second]], []⟩ cl_loopT ?_ ?_
   ·exact kE ⟨[0], 1, [], 0⟩
   exact ⟨(IntKind.wrap .i64 (v20 + r25), IntKind.wrap .i64 (v21 + 1)), h, wk ⟨[0], 1, [], 0⟩⟩
  replace h := ite_f hb h
  refine b_exit ?_
  refine tk_exit ?_
  refine bl_exit ?_
  exact ⟨v20, (Option.some.inj h).symm, wk ⟨[0], 1, [], 0⟩⟩
 subst hz
 refine b_seq ?_
 refine reg ⟨99, [(2, .int .i64 (IntKind.wrap .i64 ((IntKind.wrap .i64 ((IntKind.wrap .i64 ((IntKind.wrap .i64 ((86400 : Int) * y16)) + (IntKind.wrap .i64 ((3600 : Int) * a0.f_Hour)))) + (IntKind.wrap .i64 ((60 : Int) * a0.f_Minute)))) + a0.f_Second))), (3, .int .i64 0)]⟩ ⟨[], []⟩ ?_ ?_
 ·exact kE ⟨[], 1, [], 0⟩
 refine b_ret ?_
 obtain rfl := Option.some.inj h
 exact rtn ⟨[], 0, [], 0⟩ (.inr rfl)
def go_date_Decode (n : Nat) (a0 : Int) (a1 : (List UInt8)) : Option (Int × Int) :=
 ctlB (if (a0 == 23) = true then (some (.nxt 2)) else (if (a0 == 24) = true then (some (.nxt 4)) else (some (.ret (0, 5))))) (fun r => some r) (fun y2 =>
 (if ((List.length a1 : Int) != (IntKind.wrap .i64 (y2 + 11))) = true then (some true) else ((bidx a1 (IntKind.wrap .i64 (y2 + 10))).bind fun x5 =>
 some (x5 != 90))).bind fun y7 =>
 if y7 = true then (some (0, 12)) else ((ssl a1 0 y2).bind fun x8 =>
 (go_date_number n x8).bind fun r9 =>
 ctlB ((if (decide (r9 < 0)) = true then (some true) else (if (y2 == 4) = true then (some (decide (r9 < 2050))) else (some false))).bind fun y23 =>
 if y23 = true then (some (.ret (0, 12))) else ((if (y2 == 2) = true then (some (decide (r9 ≥ 50))) else (some false)).bind fun y25 =>
 if y25 = true then (some (.nxt (IntKind.wrap .i64 (r9 + 1900)))) else (if (y2 == 2) = true then (some (.nxt (IntKind.wrap .i64 (r9 + 2000)))) else (some (.nxt r9))))) (fun r => some r) (fun y19 =>
 (ssl a1 y2 (List.length a1)).bind fun x26 =>
 (go_date_parts n y19 x26).bind fun r27 =>
 (go_date_Seconds n r27).bind fun r28 =>
 some (r28.1, r28.2))))
theorem go_date_Decode_ok {n : Nat} {a0 : Int} {a1 : (List UInt8)} {r : (Int × Int)} (h : go_date_Decode n a0 a1 = some r) : ACalls Tryz.prog (gl0 mx) 139 [.int .i64 a0, .str a1] ⟨[], []⟩ (Out (.tuple [.int .i64 r.1, .int .i64 r.2]) ⟨[], []⟩) := by
 delta go_date_Decode at h
 refine fnc Tryz.func139 rfl ?_
 refine b_seq ?_
 refine reg ⟨62, [(0, .int .i64 a0), (1, .str a1)]⟩ ⟨[], []⟩ ?_ ?_
 ·exact kE ⟨[], 0, [], 0⟩
 refine b_seq ?_
 refine reg ⟨62, [(0, .int .i64 a0), (1, .str a1)]⟩ ⟨[], []⟩ ?_ ?_
 ·exact kE ⟨[], 0, [], 0⟩
 refine b_seq ?_
 refine b_seq ?_
 refine reg ⟨62, [(1, .str a1), (8, .int .i64 a0)]⟩ ⟨[], []⟩ ?_ ?_
 ·exact kE ⟨[], 0, [], 0⟩
 obtain ⟨o3, hE, hr4, h⟩ := ctlE h
 refine b_blockE (Y := Int) (fun y2 => ⟨62, [(1, .str a1), (6, .int .i64 y2)]⟩) (fun y2 => ⟨[], []⟩) (fun z => o3 = .nxt z) ?_ cl_cons (fun y2 hy => ?_)
 ·replace h := hE
  refine b_seq ?_
  refine reg ⟨62, [(1, .str a1), (8, .int .i64 a0), (9, .bool (a0 == 23))]⟩ ⟨[], []⟩ ?_ ?_
  ·exact kE ⟨[], 0, [], 0⟩
  refine bif_ (a0 == 23) (fun hb => ?_) (fun hb => ?_)
  ·replace h := ite_t hb h
   refine regN ⟨62, [(1, .str a1), (6, .int .i64 2)]⟩ ⟨[], []⟩ cl_blockL ?_ ?_
   ·exact kE ⟨[], 0, [], 0⟩
   exact ⟨2, (Option.some.inj h).symm, wk ⟨[], 0, [], 0⟩⟩
  replace h := ite_f hb h
  refine b_seq ?_
  refine reg ⟨62, [(1, .str a1), (11, .bool (a0 == 24))]⟩ ⟨[], []⟩ ?_ ?_
  ·exact kE ⟨[], 0, [], 0⟩
  refine bif_ (a0 == 24) (fun hb => ?_) (fun hb => ?_)
  ·replace h := ite_t hb h
   refine regN ⟨62, [(1, .str a1), (6, .int .i64 4)]⟩ ⟨[], []⟩ cl_blockL ?_ ?_
   ·exact kE ⟨[], 0, [], 0⟩
   exact ⟨4, (Option.some.inj h).symm, wk ⟨[], 0, [], 0⟩⟩
  replace h := ite_f hb h
  refine b_seq ?_
  refine reg ⟨62, [(4, .int .i64 0), (5, .int .i64 5)]⟩ ⟨[], []⟩ ?_ ?_
  ·exact kE ⟨[], 0, [], 0⟩
  refine b_ret ?_
  replace h := hr4 _ (Option.some.inj h).symm
  refine bl_ret ?_
  obtain rfl := Option.some.inj h
  exact rtn ⟨[], 0, [], 0⟩ (.inr rfl)
 replace h := h _ hy
 refine b_seq ?_
 refine b_seq ?_
 obtain ⟨y7, hE, h⟩ := bindE h
 refine reg ⟨62, [(1, .str a1), (6, .int .i64 y2), (24, .bool y7)]⟩ ⟨[], []⟩ ?_ ?_
 ·replace h := hE
  refine kG 6 18 ((List.length a1 : Int) != (IntKind.wrap .i64 (y2 + 11))) (fun hb => ?_) (fun hb => ?_)
  ·have h := ite_t hb h
   obtain rfl := Option.some.inj h
   exact kE ⟨[], 0, [], 0⟩
  have h := ite_f hb h
  obtain ⟨x5, hx5, h⟩ := bindE h
  refine kP 9 (x_bidx hx5) ?_
  obtain rfl := Option.some.inj h
  exact kE ⟨[], 0, [], 0⟩
 refine bif_ (y7) (fun hb => ?_) (fun hb => ?_)
 ·replace h := ite_t hb h
  refine b_seq ?_
  refine reg ⟨62, [(4, .int .i64 0), (5, .int .i64 12)]⟩ ⟨[], []⟩ ?_ ?_
  ·exact kE ⟨[], 0, [], 0⟩
  refine b_ret ?_
  obtain rfl := Option.some.inj h
  exact rtn ⟨[], 0, [], 0⟩ (.inr rfl)
 replace h := ite_f hb h
 refine b_skip ?_
 refine b_seq ?_
 obtain ⟨x8, hx8, h⟩ := bindE h
 obtain ⟨r9, hr9, h⟩ := bindE h
 refine reg ⟨62, [(1, .str a1), (6, .int .i64 y2), (7, .int .i64 r9)]⟩ ⟨[], []⟩ ?_ ?_
 ·refine kP 2 (x_ssl_hi (k := .i64) hx8) ?_
  refine kC 3 ⟨[], 0, [], 0⟩ (go_date_number_ok hr9) ?_
  exact kE ⟨[], 0, [], 0⟩
 refine b_seq ?_
 obtain ⟨o20, hE, hr21, h⟩ := ctlE h
 refine b_blockE (Y := Int) (fun y19 => ⟨62, [(1, .str a1), (6, .int .i64 y2), (7, .int .i64 y19)]⟩) (fun y19 => ⟨[], []⟩) (fun z => o20 = .nxt z) ?_ cl_cons (fun y19 hy => ?_)
 ·replace h := hE
  refine b_seq ?_
  obtain ⟨y23, hE, h⟩ := bindE h
  refine reg ⟨62, [(1, .str a1), (6, .int .i64 y2), (7, .int .i64 r9), (29, .bool y23)]⟩ ⟨[], []⟩ ?_ ?_
  ·replace h := hE
   refine kG 3 32 (decide (r9 < 0)) (fun hb => ?_) (fun hb => ?_)
   ·have h := ite_t hb h
    obtain rfl := Option.some.inj h
    exact kE ⟨[], 0, [], 0⟩
   have h := ite_f hb h
   refine kG 6 35 (y2 == 4) (fun hb => ?_) (fun hb => ?_)
   ·have h := ite_t hb h
    obtain rfl := Option.some.inj h
    exact kE ⟨[], 0, [], 0⟩
   have h := ite_f hb h
   obtain rfl := Option.some.inj h
   exact kE ⟨[], 0, [], 0⟩
  refine bif_ (y23) (fun hb => ?_) (fun hb => ?_)
  ·replace h := ite_t hb h
   refine b_seq ?_
   refine reg ⟨62, [(4, .int .i64 0), (5, .int .i64 12)]⟩ ⟨[], []⟩ ?_ ?_
   ·exact kE ⟨[], 0, [], 0⟩
   refine b_ret ?_
   replace h := hr21 _ (Option.some.inj h).symm
   refine bl_ret ?_
   obtain rfl := Option.some.inj h
   exact rtn ⟨[], 0, [], 0⟩ (.inr rfl)
  replace h := ite_f hb h
  refine b_seq ?_
  obtain ⟨y25, hE, h⟩ := bindE h
  refine reg ⟨62, [(1, .str a1), (6, .int .i64 y2), (7, .int .i64 r9), (40, .bool y25)]⟩ ⟨[], []⟩ ?_ ?_
  ·replace h := hE
   refine kG 3 43 (y2 == 2) (fun hb => ?_) (fun hb => ?_)
   ·have h := ite_t hb h
    obtain rfl := Option.some.inj h
    exact kE ⟨[], 0, [], 0⟩
   have h := ite_f hb h
   obtain rfl := Option.some.inj h
   exact kE ⟨[], 0, [], 0⟩
  refine bif_ (y25) (fun hb => ?_) (fun hb => ?_)
  ·replace h := ite_t hb h
   refine regN ⟨62, [(1, .str a1), (6, .int .i64 y2), (7, .int .i64 (IntKind.wrap .i64 (r9 + 1900)))]⟩ ⟨[], []⟩ cl_blockL ?_ ?_
   ·exact kE ⟨[], 0, [], 0⟩
   exact ⟨IntKind.wrap .i64 (r9 + 1900), (Option.some.inj h).symm, wk ⟨[], 0, [], 0⟩⟩
  replace h := ite_f hb h
  refine b_seq ?_
  refine reg ⟨62, [(1, .str a1), (6, .int .i64 y2), (7, .int .i64 r9), (49, .bool (y2 == 2))]⟩ ⟨[], []⟩ ?_ ?_
  ·exact kE ⟨[], 0, [], 0⟩
  refine bif_ (y2 == 2) (fun hb => ?_) (fun hb => ?_)
  ·replace h := ite_t hb h
   refine regN ⟨62, [(1, .str a1), (6, .int .i64 y2), (7, .int .i64 (IntKind.wrap .i64 (r9 + 2000)))]⟩ ⟨[], []⟩ cl_blockL ?_ ?_
   ·exact kE ⟨[], 0, [], 0⟩
   exact ⟨IntKind.wrap .i64 (r9 + 2000), (Option.some.inj h).symm, wk ⟨[], 0, [], 0⟩⟩
  replace h := ite_f hb h
  refine b_skip ?_
  exact ⟨r9, (Option.some.inj h).symm, wk ⟨[], 0, [], 0⟩⟩
 replace h := h _ hy
 refine b_seq ?_
 obtain ⟨x26, hx26, h⟩ := bindE h
 obtain ⟨r27, hr27, h⟩ := bindE h
 obtain ⟨r28, hr28, h⟩ := bindE h
 refine reg ⟨62, [(4, .int .i64 r28.1), (5, .int .i64 r28.2)]⟩ ⟨[], []⟩ ?_ ?_
 ·refine kP 3 (x_ssl_lo (k := .i64) hx26) ?_
  refine kC 4 ⟨[], 0, [], 0⟩ (go_date_parts_ok hr27) ?_
  refine kC 5 ⟨[], 0, [], 0⟩ (go_date_Seconds_ok hr28) ?_
  exact kE ⟨[], 0, [], 0⟩
 refine b_ret ?_
 obtain rfl := Option.some.inj h
 exact rtn ⟨[], 0, [], 0⟩ (.inr rfl)
end Go.Abs
end
