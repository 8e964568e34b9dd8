/- For each Go function: if its typed Lean form gives some result, the call returns that result (printed by a program of this hand). Condition: the typed form gives some result. -/
import Derived.Test.YthfhicembdpjpaaGreatDoorW1
set_option linter.unusedVariables false
set_option linter.unusedSimpArgs false
set_option linter.unnecessarySimpa false
section
set_option maxRecDepth 100000
set_option maxHeartbeats 0
namespace Go.Abs
open Go Go.Proofs
variable {mx : MX}
def go_strings_Split (n : Nat) (a0 : (List UInt8)) (a1 : (List UInt8)) : Option (List (List UInt8)) :=
 (go_strings_genSplit n a0 a1 0 (-1)).bind fun r1 =>
 some r1
theorem go_strings_Split_ok {n : Nat} {a0 : (List UInt8)} {a1 : (List UInt8)} {r : (List (List UInt8))} : go_strings_Split n a0 a1 = some r → AC mx 46 [qs a0, qs a1] [] (ql 1 cS r) [] := by
 delta go_strings_Split
 exact fnL Tryz.func46 rfl <| rgL <| bEL fun r1 hr1 => rCL (kCL 2 ⟨[], 0, [], 0⟩ (go_strings_genSplit_ok hr1) edL) <| b_retL <| rJ ⟨[], 0, [], 0⟩
def go_oid_arc_l1 (n : Nat) (a0 : (List UInt8)) : Nat → Int → Int → Option (Ctl Int Int)
 | 0, _, _ => none
 | k + 1, v50, v51 =>
  if (decide (v51 < (List.length a0 : Int))) = true then (((bidx a0 v51).bind fun x67 =>
  if (decide (x67 < 48)) = true then (some true) else ((bidx a0 v51).bind fun x68 =>
  some (decide (x68 > 57)))).bind fun y70 =>
  if y70 = true then (some (.ret (-1))) else ((bidx a0 v51).bind fun x71 =>
  go_oid_arc_l1 n a0 k (IntKind.wrap .i64 ((IntKind.wrap .i64 ((10 : Int) * v50)) + (IntKind.wrap .i64 (IntKind.wrap .u8 (x71 - 48))))) (IntKind.wrap .i64 (v51 + 1)))) else (some (.nxt v50))
def go_oid_arc (n : Nat) (a0 : (List UInt8)) : Option Int :=
 (if (a0 == ([] : List UInt8)) = true then (some true) else (if (decide ((List.length a0 : Int) > 10)) = true then (some true) else ((bidx a0 0).bind fun x1 =>
 if (x1 == 48) = true then (some (decide ((List.length a0 : Int) > 1))) else (some false)))).bind fun y3 =>
 if y3 = true then (some (-1)) else (ctlB (go_oid_arc_l1 n a0 n 0 0) (fun r => some r) (fun y37 =>
 if (decide (y37 > 2147483647)) = true then (some (-1)) else (some y37)))
theorem go_oid_arc_ok {n : Nat} {a0 : (List UInt8)} {r : Int} : go_oid_arc n a0 = some r → AC mx 393 [qs a0] [] (qi r) [] := by
 delta go_oid_arc
 exact fnL Tryz.func393 rfl <| rgL <| bEL fun y3 hE => rgF hE ⟨49, [(0, qs a0), (21, qb y3)]⟩ ⟨[], []⟩ (gFL 3 7 (eJ ⟨[], 0, [], 0⟩) <| gFL 8 12 (eJ ⟨[], 0, [], 0⟩) <| bEL fun x1 hx1 => kPL 9 (x_bidx hx1) <| gFL 12 16 (eJ ⟨[], 0, [], 0⟩) <| eJ ⟨[], 0, [], 0⟩) <| bFL (rgL <| b_retL <| rJ ⟨[], 0, [], 0⟩) <| rgL <| rgL <| bcL (fun y37 => ⟨49, [(3, qi y37)]⟩) (fun y37 => ⟨[], []⟩) (fun o38 hr39 => lpL (fun k x => go_oid_arc_l1 n a0 k x.1 x.2) (0, 0) ⟨[], 0, [], 0⟩ (fun x => ⟨49, [(0, qs a0), (3, qi x.1), (4, qi x.2)]⟩) (fun x => ⟨[], []⟩) fun k x => by obtain ⟨v50, v51⟩ := x; rw [go_oid_arc_l1]; exact rgL <| bFL (b_blockL <| bEL fun y70 hE => rgF hE ⟨49, [(0, qs a0), (3, qi v50), (4, qi v51), (37, qb y70)]⟩ ⟨[], []⟩ (bEL fun x67 hx67 => kPL 2 (x_bidx hx67) <| gFL 5 32 (eJ ⟨[], 0, [], 0⟩) <| bEL fun x68 hx68 => kPL 7 (x_bidx hx68) <| eJ ⟨[], 0, [], 0⟩) <| bFL (rgL <| b_retL <| bk_retL <| tk_retL <| hvL hr39 <| bl_retL <| rJ ⟨[], 0, [], 0⟩) <| bEL fun x71 hx71 => rCNL cl_cons (kPL 4 (x_bidx hx71) edL) <| bk_normL <| rgNL cl_loopT fun h => ⟨(IntKind.wrap .i64 ((IntKind.wrap .i64 ((10 : Int) * v50)) + (IntKind.wrap .i64 (IntKind.wrap .u8 (x71 - 48)))), IntKind.wrap .i64 (v51 + 1)), h, wk ⟨[], 0, [], 0⟩⟩) <| b_exitL <| tk_exitL <| bl_exitL <| jCL ⟨[], 0, [], 0⟩) fun y37 => rgL <| bFL (rgL <| b_retL <| rJ ⟨[], 0, [], 0⟩) <| rgL <| b_retL <| rJ ⟨[], 0, [], 0⟩
def go_oid_root (n : Nat) (a0 : Int) (a1 : Int) : Option Bool :=
 (if (decide (a0 ≤ 1)) = true then (if (decide (a1 ≤ 39)) = true then (some true) else (some (a0 == 2))) else (some (a0 == 2))).bind fun y2 =>
 some y2
theorem go_oid_root_ok {n : Nat} {a0 : Int} {a1 : Int} {r : Bool} : go_oid_root n a0 a1 = some r → AC mx 394 [qi a0, qi a1] [] (qb r) [] := by
 delta go_oid_root
 exact fnL Tryz.func394 rfl <| rgL <| bEL fun y2 hE => rgF hE ⟨15, [(4, qb y2)]⟩ ⟨[], []⟩ (gFL 3 7 (gFL 7 11 (eJ ⟨[], 0, [], 0⟩) <| eJ ⟨[], 0, [], 0⟩) <| eJ ⟨[], 0, [], 0⟩) <| b_retL <| rJ ⟨[], 0, [], 0⟩
def go_oid_arcs_l1 (n : Nat) (r1 : (List (List UInt8))) : Nat → (List Int) → Int → Option (Ctl (Option (List Int)) (List Int))
 | 0, _, _ => none
 | k + 1, v36, v37 =>
  if (decide (v37 < (List.length r1 : Int))) = true then ((lidx r1 v37).bind fun x47 =>
  (go_oid_arc n x47).bind fun r48 =>
  if (decide (r48 < 0)) = true then (some (.ret none)) else ((lapp 8 v36 ([r48] : List Int)).bind fun x49 =>
  go_oid_arcs_l1 n r1 k x49 (IntKind.wrap .i64 (v37 + 1)))) else (some (.nxt v36))
def go_oid_arcs (n : Nat) (a0 : (List UInt8)) : Option (Option (List Int)) :=
 (go_strings_Split n a0 ([46] : List UInt8)).bind fun r1 =>
 (if (decide ((List.length r1 : Int) < 2)) = true then (some true) else (some (decide ((List.length r1 : Int) > 12)))).bind fun y3 =>
 if y3 = true then (some none) else (ctlB (go_oid_arcs_l1 n r1 n ([] : List Int) 0) (fun r => some r) (fun y26 =>
 (lidx y26 0).bind fun x50 =>
 (lidx y26 1).bind fun x51 =>
 (go_oid_root n x50 x51).bind fun r52 =>
 if (!r52) = true then (some none) else ((lne y26).bind fun x53 =>
 some (some y26))))
theorem go_oid_arcs_ok {n : Nat} {a0 : (List UInt8)} {r : (Option (List Int))} : go_oid_arcs n a0 = some r → AC mx 298 [qs a0] [] (onl 1 (cI .i64) r) [] := by
 delta go_oid_arcs
 exact fnL Tryz.func298 rfl <| rgL <| bEL fun r1 hr1 => rCL (kCL 1 ⟨[], 0, [], 0⟩ (go_strings_Split_ok hr1) edL) <| bEL fun y3 hE => rgF hE ⟨42, [(3, ql 1 cS r1), (17, qb y3)]⟩ ⟨[], []⟩ (kPL 1 (x_len (c := cS) (l := r1) (e := 9) (sz := 1) (sz' := 1) (b := 16) (tok := .none)) <| gFL 4 13 (eJ ⟨[], 0, [], 0⟩) <| kPL 5 (x_len (c := cS) (l := r1) (e := 9) (sz := 1) (sz' := 1) (b := 16) (tok := .none)) <| eJ ⟨[], 0, [], 0⟩) <| bFL (rgL <| b_retL <| rJ ⟨[], 0, [], 0⟩) <| rgL <| rCL (kPL 1 (x_len (c := cS) (l := r1) (e := 9) (sz := 1) (sz' := 1) (b := 16) (tok := .none)) edL) <| bcL (fun y26 => ⟨42, [(4, .sl 1 (List.map (cI .i64) y26) (.fam 0 (List.length y26)))]⟩) (fun y26 => ⟨[], [List.length y26]⟩) (fun o27 hr28 => b_wkL (wk (fr' := ⟨42, [(4, qn), (18, ql 1 cS r1), (19, qi (List.length r1 : Int)), (20, qi 0)]⟩) (st' := ⟨[], []⟩) ⟨[], 0, [], 0⟩) <| b_wkL Wk.nilFam <| lpL (fun k x => go_oid_arcs_l1 n r1 k x.1 x.2) (([] : List Int), 0) ⟨[], 0, [0], 1⟩ (fun x => ⟨42, [(4, .sl 1 (List.map (cI .i64) x.1) (.fam 0 (List.length x.1))), (18, ql 1 cS r1), (19, qi (List.length r1 : Int)), (20, qi x.2)]⟩) (fun x => ⟨[], [List.length x.1]⟩) fun k x => by obtain ⟨v36, v37⟩ := x; rw [go_oid_arcs_l1]; exact rgL <| bFL (b_blockL <| bEL fun x47 hx47 => rCL (kPL 0 (x_lidx (c := cS) (e := 9) (sz := 1) (b := 16) (tok := .none) hx47) edL) <| bEL fun r48 hr48 => rCL (kCL 1 ⟨[], 0, [], 1⟩ (go_oid_arc_ok hr48) edL) <| rgL <| bFL (rgL <| b_retL <| bk_retL <| tk_retL <| hvL hr28 <| bl_retL <| rJ ⟨[], 0, [], 1⟩) <| bEL fun x49 hx49 => rCNL cl_cons (lfL (fun z => kA 3 0 (cI .i64) (e := 3) (e2 := 3) (sz := 1) (bytes := 8) (b2 := 8) (tok2 := .exact) hx49 z) edL) <| bk_normL <| rgNL cl_loopT fun h => ⟨(x49, IntKind.wrap .i64 (v37 + 1)), h, wk ⟨[], 0, [0], 1⟩⟩) <| b_exitL <| tk_exitL <| bl_exitL <| jCL ⟨[], 0, [0], 1⟩) fun y26 => bEL fun x50 hx50 => bEL fun x51 hx51 => bEL fun r52 hr52 => lfL (fun z => zs [0, 1, 2, 3, 4, 5, 6, 7] [6] [[], [0], [0, 1], [], [3], [3, 4], [0, 1, 2, 3, 4, 5], [0, 1, 2, 3, 4, 5, 6]] [4] [(40, qb (!r52))] (dS [0] <| dP (x_lidx (c := (cI .i64)) (e := 3) (sz := 1) (b := 8) (tok := (.fam 0 (List.length y26))) hx50) <| dS [2, 3] <| dP (x_lidx (c := (cI .i64)) (e := 3) (sz := 1) (b := 8) (tok := (.fam 0 (List.length y26))) hx51) <| dS [5] <| dC (fxCons 4 (x_lidx (c := (cI .i64)) (e := 3) (sz := 1) (b := 8) (tok := (.fam 0 (List.length y26))) hx51) (fxCons 1 (x_lidx (c := (cI .i64)) (e := 3) (sz := 1) (b := 8) (tok := (.fam 0 (List.length y26))) hx50) fxNil)) ⟨[], 0, [], 1⟩ (go_oid_root_ok hr52) <| dS [7] <| dE ⟨[], 0, [0], 1⟩) z) <| bFL (rgL <| b_retL <| rJ ⟨[], 0, [], 1⟩) <| rgL <| bEL fun x53 hx53 => b_retL <| rJ ⟨[], 0, [], 1⟩
def go_oid_Valid (n : Nat) (a0 : (List UInt8)) : Option Bool :=
 ((go_oid_arcs n a0).bind fun r1 =>
 onE r1 (some false) (fun l2 => (lne l2).bind fun x3 =>
 some true)).bind fun y5 =>
 some y5
theorem go_oid_Valid_ok {n : Nat} {a0 : (List UInt8)} {r : Bool} : go_oid_Valid n a0 = some r → AC mx 209 [qs a0] [] (qb r) [] := by
 delta go_oid_Valid
 exact fnL Tryz.func209 rfl <| rgL <| bEL fun y5 hE => rgF hE ⟨6, [(2, qb y5)]⟩ ⟨[], []⟩ (bEL fun r1 hr1 => kCL 1 ⟨[], 0, [], 0⟩ (go_oid_arcs_ok hr1) fun h => by cases r1 with | none => exact imA (onN h) (eJ ⟨[], 0, [], 0⟩) | some l2 => exact imA (onS h) (bEL fun x3 hx3 => kPL 2 (x_lne_neq (c := (cI .i64)) (e := 3) (sz := 1) (b := 8) (tok := .none) hx3) <| eJ ⟨[], 0, [], 0⟩)) <| b_retL <| rJ ⟨[], 0, [], 0⟩
def go_internal_stringslite_HasPrefix (n : Nat) (a0 : (List UInt8)) (a1 : (List UInt8)) : Option Bool :=
 (if (decide ((List.length a0 : Int) ≥ (List.length a1 : Int))) = true then ((ssl a0 0 (List.length a1 : Int)).bind fun x1 =>
 some (x1 == a1)) else (some false)).bind fun y3 =>
 some y3
theorem go_internal_stringslite_HasPrefix_ok {n : Nat} {a0 : (List UInt8)} {a1 : (List UInt8)} {r : Bool} : go_internal_stringslite_HasPrefix n a0 a1 = some r → AC mx 38 [qs a0, qs a1] [] (qb r) [] := by
 delta go_internal_stringslite_HasPrefix
 exact fnL Tryz.func38 rfl <| rgL <| bEL fun y3 hE => rgF hE ⟨18, [(4, qb y3)]⟩ ⟨[], []⟩ (gFL 6 10 (bEL fun x1 hx1 => kPL 9 (x_ssl_hi (k := .i64) hx1) <| eJ ⟨[], 0, [], 0⟩) <| eJ ⟨[], 0, [], 0⟩) <| b_retL <| rJ ⟨[], 0, [], 0⟩
def go_strings_HasPrefix (n : Nat) (a0 : (List UInt8)) (a1 : (List UInt8)) : Option Bool :=
 (go_internal_stringslite_HasPrefix n a0 a1).bind fun r1 =>
 some r1
theorem go_strings_HasPrefix_ok {n : Nat} {a0 : (List UInt8)} {a1 : (List UInt8)} {r : Bool} : go_strings_HasPrefix n a0 a1 = some r → AC mx 17 [qs a0, qs a1] [] (qb r) [] := by
 delta go_strings_HasPrefix
 exact fnL Tryz.func17 rfl <| rgL <| bEL fun r1 hr1 => rCL (kCL 2 ⟨[], 0, [], 0⟩ (go_internal_stringslite_HasPrefix_ok hr1) edL) <| b_retL <| rJ ⟨[], 0, [], 0⟩
def go_text_utf_l1 (n : Nat) (a0 : (List UInt8)) : Nat → Nat → Option (Ctl Bool Unit)
 | 0, _ => none
 | k + 1, v53 =>
  if (Nat.blt v53 (List.length a0)) = true then ((if (decide ((((udec a0 v53).1 : Nat) : Int) < 32)) = true then (some true) else (some ((((udec a0 v53).1 : Nat) : Int) == 127))).bind fun y73 =>
  if y73 = true then (some (.ret false)) else ((if ((((udec a0 v53).1 : Nat) : Int) == 65533) = true then ((ssl a0 ((v53 : Nat) : Int) (List.length a0)).bind fun x74 =>
  (go_strings_HasPrefix n x74 ([239, 191, 189] : List UInt8)).bind fun r75 =>
  some (!r75)) else (some false)).bind fun y77 =>
  if y77 = true then (some (.ret false)) else (go_text_utf_l1 n a0 k (v53 + (udec a0 v53).2)))) else (some (.nxt ()))
def go_text_utf (n : Nat) (a0 : (List UInt8)) : Option Bool :=
 ctlB (go_text_utf_l1 n a0 n 0) (fun r => some r) (fun y38 =>
 some true)
theorem go_text_utf_ok {n : Nat} {a0 : (List UInt8)} {r : Bool} : go_text_utf n a0 = some r → AC mx 313 [qs a0] [] (qb r) [] := by
 delta go_text_utf
 exact fnL Tryz.func313 rfl <| rgL <| rgL <| bcL (fun _ => ⟨26, []⟩) (fun _ => ⟨[], []⟩) (fun o39 hr40 => lpL (fun k x => go_text_utf_l1 n a0 k x) 0 ⟨[0], 1, [], 0⟩ (fun x => ⟨26, [(0, qs a0), (6, .iter 0)]⟩) (fun x => ⟨[[.sit a0 x]], []⟩) fun k v53 => by rw [go_text_utf_l1]; exact lfL (fun z => b_regK z) <| kFL (fun hb => lfL (fun z => kV 0 1 0 0 (x_next_t hb) z) <| lfL (fun z => c_endT (⟨26, [(0, qs a0), (6, .iter 0), (7, .tuple [qb true, qi ((v53 : Nat) : Int), .int .i32 (((udec a0 v53).1 : Nat) : Int)]), (8, qb true)]⟩) (⟨[[.sit a0 (v53 + (udec a0 v53).2)]], []⟩) cl_cons (kE ⟨[0], 1, [], 0⟩) z) <| bTL <| b_blockL <| rgL <| bEL fun y73 hE => rgF hE ⟨26, [(0, qs a0), (3, qi ((v53 : Nat) : Int)), (4, .int .i32 (((udec a0 v53).1 : Nat) : Int)), (6, .iter 0), (16, qb y73)]⟩ ⟨[[.sit a0 (v53 + (udec a0 v53).2)]], []⟩ (gFL 3 13 (eJ ⟨[0], 1, [], 0⟩) <| eJ ⟨[0], 1, [], 0⟩) <| bFL (rgL <| b_retL <| bk_retL <| tk_retL <| hvL hr40 <| bl_retL <| rJ ⟨[], 1, [], 0⟩) <| bEL fun y77 hE => rgF hE ⟨26, [(0, qs a0), (6, .iter 0), (25, qb y77)]⟩ ⟨[[.sit a0 (v53 + (udec a0 v53).2)]], []⟩ (gFL 3 19 (bEL fun x74 hx74 => bEL fun r75 hr75 => kPL 5 (x_ssl_lo (k := .i64) hx74) <| kCL 6 ⟨[], 1, [], 0⟩ (go_strings_HasPrefix_ok hr75) <| eJ ⟨[0], 1, [], 0⟩) <| eJ ⟨[0], 1, [], 0⟩) <| bFL (rgL <| b_retL <| bk_retL <| tk_retL <| hvL hr40 <| bl_retL <| rJ ⟨[], 1, [], 0⟩) <| bk_normL fun h => ⟨v53 + (udec a0 v53).2, h, wk ⟨[0], 1, [], 0⟩⟩) fun hb => lfL (fun z => kV 0 1 0 0 (x_next_f hb) z) <| lfL (fun z => c_endT (⟨26, [(0, qs a0), (6, .iter 0), (7, .tuple [qb false]), (8, qb false)]⟩) (⟨[[.sit a0 v53]], []⟩) cl_cons (kE ⟨[0], 1, [], 0⟩) z) <| bNL <| b_exitL <| tk_exitL <| bl_exitL <| jCL ⟨[], 1, [], 0⟩) fun y38 => rgL <| b_retL <| rJ ⟨[], 0, [], 0⟩
def go_text_letter (n : Nat) (a0 : Int) : Option Bool :=
 (if (decide (a0 ≥ 97)) = true then (if (decide (a0 ≤ 122)) = true then (some true) else (if (decide (a0 ≥ 65)) = true then (if (decide (a0 ≤ 90)) = true then (some true) else (if (decide (a0 ≥ 48)) = true then (some (decide (a0 ≤ 57))) else (some false))) else (if (decide (a0 ≥ 48)) = true then (some (decide (a0 ≤ 57))) else (some false)))) else (if (decide (a0 ≥ 65)) = true then (if (decide (a0 ≤ 90)) = true then (some true) else (if (decide (a0 ≥ 48)) = true then (some (decide (a0 ≤ 57))) else (some false))) else (if (decide (a0 ≥ 48)) = true then (some (decide (a0 ≤ 57))) else (some false)))).bind fun y2 =>
 some y2
theorem go_text_letter_ok {n : Nat} {a0 : Int} {r : Bool} : go_text_letter n a0 = some r → AC mx 316 [qu a0] [] (qb r) [] := by
 delta go_text_letter
 exact fnL Tryz.func316 rfl <| rgL <| bEL fun y2 hE => rgF hE ⟨25, [(2, qb y2)]⟩ ⟨[], []⟩ (gFL 3 5 (gFL 7 9 (eJ ⟨[], 0, [], 0⟩) <| gFL 10 12 (gFL 15 17 (eJ ⟨[], 0, [], 0⟩) <| gFL 18 20 (eJ ⟨[], 0, [], 0⟩) <| eJ ⟨[], 0, [], 0⟩) <| gFL 18 20 (eJ ⟨[], 0, [], 0⟩) <| eJ ⟨[], 0, [], 0⟩) <| gFL 10 12 (gFL 15 17 (eJ ⟨[], 0, [], 0⟩) <| gFL 18 20 (eJ ⟨[], 0, [], 0⟩) <| eJ ⟨[], 0, [], 0⟩) <| gFL 18 20 (eJ ⟨[], 0, [], 0⟩) <| eJ ⟨[], 0, [], 0⟩) <| b_retL <| rJ ⟨[], 0, [], 0⟩
def go_text_Valid_1 (n : Nat) (a0 : Int) : Option Bool :=
 ((go_text_letter n a0).bind fun r1 =>
 if r1 = true then (some true) else ((ct_IndexByte n ([32, 39, 40, 41, 43, 44, 45, 46, 47, 58, 61, 63] : List UInt8) a0).bind fun r2 =>
 some (decide (r2 ≥ 0)))).bind fun y4 =>
 some y4
theorem go_text_Valid_1_ok {n : Nat} {a0 : Int} {r : Bool} : go_text_Valid_1 n a0 = some r → AC mx 315 [qu a0] [] (qb r) [] := by
 delta go_text_Valid_1
 exact fnL Tryz.func315 rfl <| rgL <| bEL fun y4 hE => rgF hE ⟨10, [(2, qb y4)]⟩ ⟨[], []⟩ (bEL fun r1 hr1 => kCL 1 ⟨[], 0, [], 0⟩ (go_text_letter_ok hr1) <| gFL 3 5 (eJ ⟨[], 0, [], 0⟩) <| bEL fun r2 hr2 => kCL 4 ⟨[], 0, [], 0⟩ (ct_IndexByte_ok hr2) <| eJ ⟨[], 0, [], 0⟩) <| b_retL <| rJ ⟨[], 0, [], 0⟩
def go_text_all_l1 (n : Nat) (a0 : (List UInt8)) : Nat → Int → Option (Ctl Bool Unit)
 | 0, _ => none
 | k + 1, v21 =>
  if (decide (v21 < (List.length a0 : Int))) = true then ((bidx a0 v21).bind fun x28 =>
  (go_text_Valid_1 n x28).bind fun r29 =>
  if (!r29) = true then (some (.ret false)) else (go_text_all_l1 n a0 k (IntKind.wrap .i64 (v21 + 1)))) else (some (.nxt ()))
def go_text_all (n : Nat) (a0 : (List UInt8)) : Option Bool :=
 ctlB (go_text_all_l1 n a0 n 0) (fun r => some r) (fun y14 =>
 some true)
theorem go_text_all_ok {n : Nat} {a0 : (List UInt8)} {r : Bool} : go_text_all n a0 = some r → AC mx 314 [qs a0, .func (.func 315) [] []] [] (qb r) [] := by
 delta go_text_all
 exact fnL Tryz.func314 rfl <| rgL <| rgL <| bcL (fun _ => ⟨18, []⟩) (fun _ => ⟨[], []⟩) (fun o15 hr16 => lpL (fun k x => go_text_all_l1 n a0 k x) 0 ⟨[], 0, [], 0⟩ (fun x => ⟨18, [(0, qs a0), (1, .func (.func 315) [] []), (5, qi x)]⟩) (fun x => ⟨[], []⟩) fun k v21 => by rw [go_text_all_l1]; exact rgL <| bFL (b_blockL <| bEL fun x28 hx28 => bEL fun r29 hr29 => rCL (kPL 3 (x_bidx hx28) <| kCL 4 ⟨[], 0, [], 0⟩ (go_text_Valid_1_ok hr29) edL) <| bFL (rgL <| b_retL <| bk_retL <| tk_retL <| hvL hr16 <| bl_retL <| rJ ⟨[], 0, [], 0⟩) <| bk_normL <| rgNL cl_loopT fun h => ⟨IntKind.wrap .i64 (v21 + 1), h, wk ⟨[], 0, [], 0⟩⟩) <| b_exitL <| tk_exitL <| bl_exitL <| jCL ⟨[], 0, [], 0⟩) fun y14 => rgL <| b_retL <| rJ ⟨[], 0, [], 0⟩
def go_text_Valid_2 (n : Nat) (a0 : Int) : Option Bool :=
 (if (decide (a0 ≥ 32)) = true then (some (decide (a0 ≤ 126))) else (some false)).bind fun y2 =>
 some y2
theorem go_text_Valid_2_ok {n : Nat} {a0 : Int} {r : Bool} : go_text_Valid_2 n a0 = some r → AC mx 317 [qu a0] [] (qb r) [] := by
 delta go_text_Valid_2
 exact fnL Tryz.func317 rfl <| rgL <| bEL fun y2 hE => rgF hE ⟨9, [(2, qb y2)]⟩ ⟨[], []⟩ (gFL 3 5 (eJ ⟨[], 0, [], 0⟩) <| eJ ⟨[], 0, [], 0⟩) <| b_retL <| rJ ⟨[], 0, [], 0⟩
def go_text_all_2_l1 (n : Nat) (a0 : (List UInt8)) : Nat → Int → Option (Ctl Bool Unit)
 | 0, _ => none
 | k + 1, v21 =>
  if (decide (v21 < (List.length a0 : Int))) = true then ((bidx a0 v21).bind fun x28 =>
  (go_text_Valid_2 n x28).bind fun r29 =>
  if (!r29) = true then (some (.ret false)) else (go_text_all_2_l1 n a0 k (IntKind.wrap .i64 (v21 + 1)))) else (some (.nxt ()))
def go_text_all_2 (n : Nat) (a0 : (List UInt8)) : Option Bool :=
 ctlB (go_text_all_2_l1 n a0 n 0) (fun r => some r) (fun y14 =>
 some true)
theorem go_text_all_2_ok {n : Nat} {a0 : (List UInt8)} {r : Bool} : go_text_all_2 n a0 = some r → AC mx 314 [qs a0, .func (.func 317) [] []] [] (qb r) [] := by
 delta go_text_all_2
 exact fnL Tryz.func314 rfl <| rgL <| rgL <| bcL (fun _ => ⟨18, []⟩) (fun _ => ⟨[], []⟩) (fun o15 hr16 => lpL (fun k x => go_text_all_2_l1 n a0 k x) 0 ⟨[], 0, [], 0⟩ (fun x => ⟨18, [(0, qs a0), (1, .func (.func 317) [] []), (5, qi x)]⟩) (fun x => ⟨[], []⟩) fun k v21 => by rw [go_text_all_2_l1]; exact rgL <| bFL (b_blockL <| bEL fun x28 hx28 => bEL fun r29 hr29 => rCL (kPL 3 (x_bidx hx28) <| kCL 4 ⟨[], 0, [], 0⟩ (go_text_Valid_2_ok hr29) edL) <| bFL (rgL <| b_retL <| bk_retL <| tk_retL <| hvL hr16 <| bl_retL <| rJ ⟨[], 0, [], 0⟩) <| bk_normL <| rgNL cl_loopT fun h => ⟨IntKind.wrap .i64 (v21 + 1), h, wk ⟨[], 0, [], 0⟩⟩) <| b_exitL <| tk_exitL <| bl_exitL <| jCL ⟨[], 0, [], 0⟩) fun y14 => rgL <| b_retL <| rJ ⟨[], 0, [], 0⟩
def go_text_Valid (n : Nat) (a0 : Int) (a1 : (List UInt8)) : Option Bool :=
 if (a0 == 12) = true then ((go_text_utf n a1).bind fun r4 =>
 some r4) else (if (a0 == 19) = true then ((go_text_all n a1).bind fun r5 =>
 some r5) else (if (a0 == 22) = true then ((go_text_all_2 n a1).bind fun r6 =>
 some r6) else (some false)))
theorem go_text_Valid_ok {n : Nat} {a0 : Int} {a1 : (List UInt8)} {r : Bool} : go_text_Valid n a0 a1 = some r → AC mx 210 [qi a0, qs a1] [] (qb r) [] := by
 delta go_text_Valid
 exact fnL Tryz.func210 rfl <| rgL <| rgL <| b_blockL <| rgL <| bFL (bEL fun r4 hr4 => rCL (kCL 1 ⟨[], 0, [], 0⟩ (go_text_utf_ok hr4) edL) <| b_retL <| bk_retL <| rJ ⟨[], 0, [], 0⟩) <| rgL <| bFL (bEL fun r5 hr5 => rCL (kCL 1 ⟨[], 0, [], 0⟩ (go_text_all_ok hr5) edL) <| b_retL <| bk_retL <| rJ ⟨[], 0, [], 0⟩) <| rgL <| bFL (bEL fun r6 hr6 => rCL (kCL 1 ⟨[], 0, [], 0⟩ (go_text_all_2_ok hr6) edL) <| b_retL <| bk_retL <| rJ ⟨[], 0, [], 0⟩) <| bk_normL <| rgL <| b_retL <| rJ ⟨[], 0, [], 0⟩
def go_dname_checkRelative_l2 (n : Nat) (x402 : (List T_api_Attribute)) (x397 : T_api_Attribute) : Nat → Int → Option (Ctl Int Unit)
 | 0, _ => none
 | k + 1, v415 =>
  if (decide (v415 < (List.length x402 : Int))) = true then ((lidx x402 v415).bind fun x419 =>
  if (x419.f_Type == x397.f_Type) = true then (some (.ret 10)) else (go_dname_checkRelative_l2 n x402 x397 k (IntKind.wrap .i64 (v415 + 1)))) else (some (.nxt ()))
def go_dname_checkRelative_l1 (n : Nat) (a0 : (List T_api_Attribute)) : Nat → Int → Option (Ctl Int Unit)
 | 0, _ => none
 | k + 1, v281 =>
  if (decide (v281 < (List.length a0 : Int))) = true then ((lidx a0 v281).bind fun x397 =>
  (go_oid_Valid n x397.f_Type).bind fun r398 =>
  if (!r398) = true then (some (.ret 11)) else ((if (x397.f_Value == ([] : List UInt8)) = true then (some true) else ((go_text_Valid n x397.f_Kind x397.f_Value).bind fun r399 =>
  some (!r399))).bind fun y401 =>
  if y401 = true then (some (.ret 13)) else (if (decide ((List.length x397.f_Value : Int) > 64)) = true then (some (.ret 2)) else ((lsl a0 0 v281).bind fun x402 =>
  ctlB (go_dname_checkRelative_l2 n x402 x397 n 0) (fun r => some (.ret r)) (fun y410 =>
  go_dname_checkRelative_l1 n a0 k (IntKind.wrap .i64 (v281 + 1))))))) else (some (.nxt ()))
def go_dname_checkRelative (n : Nat) (a0 : (List T_api_Attribute)) : Option Int :=
 if ((List.length a0 : Int) == 0) = true then (some 14) else (if (decide ((List.length a0 : Int) > 4)) = true then (some 2) else (ctlB (go_dname_checkRelative_l1 n a0 n 0) (fun r => some r) (fun y209 =>
 some 0)))
theorem go_dname_checkRelative_ok {n : Nat} {a0 : (List T_api_Attribute)} {r : Int} : go_dname_checkRelative n a0 = some r → AC mx 211 [ql 3 T_api_Attribute.cells a0] [] (qi r) [] := by
 delta go_dname_checkRelative
 exact fnL Tryz.func211 rfl <| rgL <| rCL (kPL 1 (x_len (c := T_api_Attribute.cells) (l := a0) (e := 82) (sz := 3) (sz' := 3) (b := 40) (tok := .none)) edL) <| bFL (rgL <| b_retL <| rJ ⟨[], 0, [], 0⟩) <| rCL (kPL 1 (x_len (c := T_api_Attribute.cells) (l := a0) (e := 82) (sz := 3) (sz' := 3) (b := 40) (tok := .none)) edL) <| bFL (rgL <| b_retL <| rJ ⟨[], 0, [], 0⟩) <| rCL (kPL 1 (x_len (c := T_api_Attribute.cells) (l := a0) (e := 82) (sz := 3) (sz' := 3) (b := 40) (tok := .none)) edL) <| bcL (fun _ => ⟨54, []⟩) (fun _ => ⟨[], []⟩) (fun o210 hr211 => lpL (fun k x => go_dname_checkRelative_l1 n a0 k x) 0 ⟨[], 0, [], 0⟩ (fun x => ⟨54, [(0, ql 3 T_api_Attribute.cells a0), (13, ql 3 T_api_Attribute.cells a0), (14, qi (List.length a0 : Int)), (15, qi x)]⟩) (fun x => ⟨[], []⟩) fun k v281 => by rw [go_dname_checkRelative_l1]; exact rgL <| bFL (b_blockL <| bEL fun x397 hx397 => rCL (kPL 1 (x_lidx (c := T_api_Attribute.cells) (e := 82) (sz := 3) (b := 40) (tok := .none) hx397) edL) <| bEL fun r398 hr398 => rCL (kCL 2 ⟨[], 1, [], 0⟩ (go_oid_Valid_ok hr398) edL) <| bFL (rgL <| b_retL <| bk_retL <| tk_retL <| hvL hr211 <| bl_retL <| rJ ⟨[], 1, [], 0⟩) <| bEL fun y401 hE => rgF hE ⟨54, [(0, ql 3 T_api_Attribute.cells a0), (3, qi v281), (4, qp 0), (13, ql 3 T_api_Attribute.cells a0), (14, qi (List.length a0 : Int)), (15, qi v281), (34, qb y401)]⟩ ⟨[T_api_Attribute.cells x397], []⟩ (gFL 4 27 (eJ ⟨[0], 1, [], 0⟩) <| bEL fun r399 hr399 => kCL 8 ⟨[], 1, [], 0⟩ (go_text_Valid_ok hr399) <| eJ ⟨[0], 1, [], 0⟩) <| bFL (rgL <| b_retL <| bk_retL <| tk_retL <| hvL hr211 <| bl_retL <| rJ ⟨[], 1, [], 0⟩) <| rgL <| bFL (rgL <| b_retL <| bk_retL <| tk_retL <| hvL hr211 <| bl_retL <| rJ ⟨[], 1, [], 0⟩) <| bEL fun x402 hx402 => rCL (kPL 2 (x_lsl_hi (k := .i64) (c := T_api_Attribute.cells) (e := 82) (sz := 3) (b := 40) (tok := .none) hx402) <| kPL 3 (x_len (c := T_api_Attribute.cells) (l := x402) (e := 82) (sz := 3) (sz' := 3) (b := 40) (tok := .none)) edL) <| bcNL cl_cons (fun _ => ⟨54, [(0, ql 3 T_api_Attribute.cells a0), (13, ql 3 T_api_Attribute.cells a0), (14, qi (List.length a0 : Int)), (15, qi v281)]⟩) (fun _ => ⟨[], []⟩) (fun o411 hr412 => lpL (fun k x => go_dname_checkRelative_l2 n x402 x397 k x) 0 ⟨[0], 1, [], 0⟩ (fun x => ⟨54, [(0, ql 3 T_api_Attribute.cells a0), (4, qp 0), (13, ql 3 T_api_Attribute.cells a0), (14, qi (List.length a0 : Int)), (15, qi v281), (41, ql 3 T_api_Attribute.cells x402), (42, qi (List.length x402 : Int)), (43, qi x)]⟩) (fun x => ⟨[T_api_Attribute.cells x397], []⟩) fun k v415 => by rw [go_dname_checkRelative_l2]; exact rgL <| bFL (b_blockL <| bEL fun x419 hx419 => rCL (kPL 0 (x_lidx (c := T_api_Attribute.cells) (e := 82) (sz := 3) (b := 40) (tok := .none) hx419) edL) <| rgL <| bFL (rgL <| b_retL <| bk_retL <| tk_retL <| hvL hr412 <| bl_retL <| bk_retL <| tk_retL <| hvL hr211 <| bl_retL <| rJ ⟨[], 2, [], 0⟩) <| bk_normL <| rgNL cl_loopT fun h => ⟨IntKind.wrap .i64 (v415 + 1), h, wk ⟨[0], 2, [], 0⟩⟩) <| b_exitL <| tk_exitL <| bl_exitL <| jCL ⟨[], 1, [], 0⟩) fun y410 => bk_normL <| rgNL cl_loopT fun h => ⟨IntKind.wrap .i64 (v281 + 1), h, wk ⟨[], 0, [], 0⟩⟩) <| b_exitL <| tk_exitL <| bl_exitL <| jCL ⟨[], 0, [], 0⟩) fun y209 => rgL <| b_retL <| rJ ⟨[], 0, [], 0⟩
def go_dname_Check_l1 (n : Nat) (a0 : T_api_Name) : Nat → Int → Option (Ctl Int Unit)
 | 0, _ => none
 | k + 1, v21 =>
  if (decide (v21 < (List.length a0.f_RDNs : Int))) = true then ((lidx a0.f_RDNs v21).bind fun x28 =>
  (go_dname_checkRelative n x28).bind fun r29 =>
  if (r29 != 0) = true then (some (.ret r29)) else (go_dname_Check_l1 n a0 k (IntKind.wrap .i64 (v21 + 1)))) else (some (.nxt ()))
def go_dname_Check (n : Nat) (a0 : T_api_Name) : Option Int :=
 if (decide ((List.length a0.f_RDNs : Int) > 8)) = true then (some 2) else (ctlB (go_dname_Check_l1 n a0 n 0) (fun r => some r) (fun y14 =>
 some 0))
theorem go_dname_Check_ok {n : Nat} {a0 : T_api_Name} {r : Int} : go_dname_Check n a0 = some r → AC mx 94 [.agg [ql 1 (cL 3 T_api_Attribute.cells) a0.f_RDNs]] [] (qi r) [] := by
 delta go_dname_Check
 exact fnL Tryz.func94 rfl <| rgL <| rCL (kPL 2 (x_len (c := (cL 3 T_api_Attribute.cells)) (l := a0.f_RDNs) (e := 83) (sz := 1) (sz' := 1) (b := 24) (tok := .none)) edL) <| bFL (rgL <| b_retL <| rJ ⟨[], 1, [], 0⟩) <| rCL (kPL 2 (x_len (c := (cL 3 T_api_Attribute.cells)) (l := a0.f_RDNs) (e := 83) (sz := 1) (sz' := 1) (b := 24) (tok := .none)) edL) <| bcL (fun _ => ⟨23, []⟩) (fun _ => ⟨[], []⟩) (fun o15 hr16 => lpL (fun k x => go_dname_Check_l1 n a0 k x) 0 ⟨[], 1, [], 0⟩ (fun x => ⟨23, [(11, ql 1 (cL 3 T_api_Attribute.cells) a0.f_RDNs), (12, qi (List.length a0.f_RDNs : Int)), (13, qi x)]⟩) (fun x => ⟨[], []⟩) fun k v21 => by rw [go_dname_Check_l1]; exact rgL <| bFL (b_blockL <| bEL fun x28 hx28 => rCL (kPL 0 (x_lidx (c := (cL 3 T_api_Attribute.cells)) (e := 83) (sz := 1) (b := 24) (tok := .none) hx28) edL) <| bEL fun r29 hr29 => rCL (kCL 1 ⟨[], 0, [], 0⟩ (go_dname_checkRelative_ok hr29) edL) <| rgL <| bFL (rgL <| b_retL <| bk_retL <| tk_retL <| hvL hr16 <| bl_retL <| rJ ⟨[], 0, [], 0⟩) <| bk_normL <| rgNL cl_loopT fun h => ⟨IntKind.wrap .i64 (v21 + 1), h, wk ⟨[], 0, [], 0⟩⟩) <| b_exitL <| tk_exitL <| bl_exitL <| jCL ⟨[], 0, [], 0⟩) fun y14 => rgL <| b_retL <| rJ ⟨[], 0, [], 0⟩
def go_oid_put_l1 (n : Nat) (a1 : Int) : Nat → Int → Option Int
 | 0, _ => none
 | k + 1, v7 =>
  (ishr .i64 a1 (IntKind.wrap .u64 ((7 : Int) * (IntKind.wrap .u64 v7)))).bind fun x9 =>
  if (decide (x9 > 0)) = true then (go_oid_put_l1 n a1 k (IntKind.wrap .i64 (v7 + 1))) else (some v7)
def go_oid_put_l2 (n : Nat) (a1 : Int) : Nat → Nat → Int → (List Int) → Option (Nat × (List Int))
 | 0, _, _, _ => none
 | k + 1, v33, v34, v35 =>
  if (decide (v34 > 0)) = true then ((ishr .i64 a1 (IntKind.wrap .u64 ((7 : Int) * (IntKind.wrap .u64 v34)))).bind fun x42 =>
  (oapp 1 v33 v35 ([IntKind.wrap .u8 (ior .i64 (iand .i64 x42 127) 128)] : List Int)).bind fun x43 =>
  go_oid_put_l2 n a1 k (v33 + List.length ([IntKind.wrap .u8 (ior .i64 (iand .i64 x42 127) 128)] : List Int)) (IntKind.wrap .i64 (v34 - 1)) x43) else (some (v33, v35))
def go_oid_put (n : Nat) (a1 : Int) : Option (Nat × (List Int)) :=
 (go_oid_put_l1 n a1 n 1).bind fun y5 =>
 (go_oid_put_l2 n a1 n 0 (IntKind.wrap .i64 (y5 - 1)) ([] : List Int)).bind fun y27 =>
 (oapp 1 y27.1 y27.2 ([IntKind.wrap .u8 (iand .i64 a1 127)] : List Int)).bind fun x44 =>
 some (y27.1 + List.length ([IntKind.wrap .u8 (iand .i64 a1 127)] : List Int), x44)
theorem go_oid_put_ok {n : Nat} {a1 : Int} {r : (Nat × (List Int))} : go_oid_put n a1 = some r → AC mx 299 [qn, qi a1] [] (.own 0 r.1 1) [[.buf (List.map (vI .u8) r.2)]] := by
 delta go_oid_put
 exact fnL Tryz.func299 rfl <| b_wkL (Wk.nilO 0 0 1 (by kernel_rfl)) <| b_wkL (wk (fr' := ⟨38, [(0, .own 0 0 1), (1, qi a1)]⟩) (st' := ⟨[[.buf (List.map (vI .u8) ([] : List Int))]], []⟩) ⟨[0], 1, [], 0⟩) <| rgL <| rgL <| blL (fun y5 => ⟨38, [(0, .own 0 0 1), (1, qi a1), (5, qi y5)]⟩) (fun y5 => ⟨[[.buf (List.map (vI .u8) ([] : List Int))]], []⟩) (fun y5 => lpL (fun k x => go_oid_put_l1 n a1 k x) 1 ⟨[0], 1, [], 0⟩ (fun x => ⟨38, [(0, .own 0 0 1), (1, qi a1), (5, qi x)]⟩) (fun x => ⟨[[.buf (List.map (vI .u8) ([] : List Int))]], []⟩) fun k v7 => by rw [go_oid_put_l1]; exact bEL fun x9 hx9 => rCL (kPL 4 (x_ishr (k := .i64) (d := (tyT 3).d) (k' := .u64) hx9) edL) <| bFL (b_blockL <| rgNL (cl_nil (P := Tryz.prog) (gl := gl0 mx) cl_loopT) <| bk_normL fun h => ⟨IntKind.wrap .i64 (v7 + 1), h, wk ⟨[0], 1, [], 0⟩⟩) <| b_exitL <| tk_exitL <| bl_exitL <| jnL ⟨[0], 1, [], 0⟩) fun y5 => rgL <| blL (fun y27 => ⟨38, [(0, .own 0 y27.1 1), (1, qi a1)]⟩) (fun y27 => ⟨[[.buf (List.map (vI .u8) y27.2)]], []⟩) (fun y27 => lpL (fun k x => go_oid_put_l2 n a1 k x.1 x.2.1 x.2.2) (0, IntKind.wrap .i64 (y5 - 1), ([] : List Int)) ⟨[0], 1, [], 0⟩ (fun x => ⟨38, [(0, .own 0 x.1 1), (1, qi a1), (6, qi x.2.1)]⟩) (fun x => ⟨[[.buf (List.map (vI .u8) x.2.2)]], []⟩) fun k x => by obtain ⟨v33, v34, v35⟩ := x; rw [go_oid_put_l2]; exact rgL <| bFL (b_blockL <| bEL fun x42 hx42 => bEL fun x43 hx43 => rCNL cl_cons (kPL 5 (x_ishr (k := .i64) (d := (tyT 3).d) (k' := .u64) hx42) <| lfL (fun z => kV 10 1 0 0 (x_oapp (T := tyT) (c := (vI .u8)) (l := v35) (l2 := ([IntKind.wrap .u8 (ior .i64 (iand .i64 x42 127) 128)] : List Int)) (n := v33) (e := 5) (e2 := 5) (bytes := 1) (b2 := 1) (tok2 := .exact) (by kernel_rfl) hx43) z) edL) <| bk_normL <| rgNL cl_loopT fun h => ⟨(v33 + List.length ([IntKind.wrap .u8 (ior .i64 (iand .i64 x42 127) 128)] : List Int), IntKind.wrap .i64 (v34 - 1), x43), h, wk ⟨[1], 2, [], 0⟩⟩) <| b_exitL <| tk_exitL <| bl_exitL <| jnL ⟨[0], 1, [], 0⟩) fun y27 => bEL fun x44 hx44 => rCL (lfL (fun z => kV 5 1 0 0 (x_oapp (T := tyT) (c := (vI .u8)) (l := y27.2) (l2 := ([IntKind.wrap .u8 (iand .i64 a1 127)] : List Int)) (n := y27.1) (e := 5) (e2 := 5) (bytes := 1) (b2 := 1) (tok2 := .exact) (by kernel_rfl) hx44) z) edL) <| b_retL <| rJ ⟨[1], 2, [], 0⟩
def go_oid_put_2_l1 (n : Nat) (a1 : Int) : Nat → Int → Option Int
 | 0, _ => none
 | k + 1, v7 =>
  (ishr .i64 a1 (IntKind.wrap .u64 ((7 : Int) * (IntKind.wrap .u64 v7)))).bind fun x9 =>
  if (decide (x9 > 0)) = true then (go_oid_put_2_l1 n a1 k (IntKind.wrap .i64 (v7 + 1))) else (some v7)
def go_oid_put_2_l2 (n : Nat) (a1 : Int) : Nat → Nat → Int → (List Int) → Option (Nat × (List Int))
 | 0, _, _, _ => none
 | k + 1, v33, v34, v35 =>
  if (decide (v34 > 0)) = true then ((ishr .i64 a1 (IntKind.wrap .u64 ((7 : Int) * (IntKind.wrap .u64 v34)))).bind fun x42 =>
  (oapp 1 v33 v35 ([IntKind.wrap .u8 (ior .i64 (iand .i64 x42 127) 128)] : List Int)).bind fun x43 =>
  go_oid_put_2_l2 n a1 k (v33 + List.length ([IntKind.wrap .u8 (ior .i64 (iand .i64 x42 127) 128)] : List Int)) (IntKind.wrap .i64 (v34 - 1)) x43) else (some (v33, v35))
def go_oid_put_2 (n : Nat) (a0 : Nat) (a1 : Int) (m0 : (List Int)) : Option (Nat × (List Int)) :=
 (go_oid_put_2_l1 n a1 n 1).bind fun y5 =>
 (go_oid_put_2_l2 n a1 n a0 (IntKind.wrap .i64 (y5 - 1)) m0).bind fun y27 =>
 (oapp 1 y27.1 y27.2 ([IntKind.wrap .u8 (iand .i64 a1 127)] : List Int)).bind fun x44 =>
 some (y27.1 + List.length ([IntKind.wrap .u8 (iand .i64 a1 127)] : List Int), x44)
theorem go_oid_put_2_ok {n : Nat} {a0 : Nat} {a1 : Int} {m0 : (List Int)} {r : (Nat × (List Int))} : go_oid_put_2 n a0 a1 m0 = some r → AC mx 299 [.own 0 a0 1, qi a1] [[.buf (List.map (vI .u8) m0)]] (.own 1 r.1 1) [[], [.buf (List.map (vI .u8) r.2)]] := by
 delta go_oid_put_2
 exact fnL Tryz.func299 rfl <| b_wkL (Wk.mov (cells := [.buf (List.map (vI .u8) m0)]) 0 0 a0 1 1 (by kernel_rfl)) <| b_wkL (wk (fr' := ⟨38, [(0, .own 1 a0 1), (1, qi a1)]⟩) (st' := ⟨[[], [.buf (List.map (vI .u8) m0)]], []⟩) ⟨[0, 1], 2, [], 0⟩) <| rgL <| rgL <| blL (fun y5 => ⟨38, [(0, .own 1 a0 1), (1, qi a1), (5, qi y5)]⟩) (fun y5 => ⟨[[], [.buf (List.map (vI .u8) m0)]], []⟩) (fun y5 => lpL (fun k x => go_oid_put_2_l1 n a1 k x) 1 ⟨[0, 1], 2, [], 0⟩ (fun x => ⟨38, [(0, .own 1 a0 1), (1, qi a1), (5, qi x)]⟩) (fun x => ⟨[[], [.buf (List.map (vI .u8) m0)]], []⟩) fun k v7 => by rw [go_oid_put_2_l1]; exact bEL fun x9 hx9 => rCL (kPL 4 (x_ishr (k := .i64) (d := (tyT 3).d) (k' := .u64) hx9) edL) <| bFL (b_blockL <| rgNL (cl_nil (P := Tryz.prog) (gl := gl0 mx) cl_loopT) <| bk_normL fun h => ⟨IntKind.wrap .i64 (v7 + 1), h, wk ⟨[0, 1], 2, [], 0⟩⟩) <| b_exitL <| tk_exitL <| bl_exitL <| jnL ⟨[0, 1], 2, [], 0⟩) fun y5 => rgL <| blL (fun y27 => ⟨38, [(0, .own 1 y27.1 1), (1, qi a1)]⟩) (fun y27 => ⟨[[], [.buf (List.map (vI .u8) y27.2)]], []⟩) (fun y27 => lpL (fun k x => go_oid_put_2_l2 n a1 k x.1 x.2.1 x.2.2) (a0, IntKind.wrap .i64 (y5 - 1), m0) ⟨[0, 1], 2, [], 0⟩ (fun x => ⟨38, [(0, .own 1 x.1 1), (1, qi a1), (6, qi x.2.1)]⟩) (fun x => ⟨[[], [.buf (List.map (vI .u8) x.2.2)]], []⟩) fun k x => by obtain ⟨v33, v34, v35⟩ := x; rw [go_oid_put_2_l2]; exact rgL <| bFL (b_blockL <| bEL fun x42 hx42 => bEL fun x43 hx43 => rCNL cl_cons (kPL 5 (x_ishr (k := .i64) (d := (tyT 3).d) (k' := .u64) hx42) <| lfL (fun z => kV 10 2 0 1 (x_oapp (T := tyT) (c := (vI .u8)) (l := v35) (l2 := ([IntKind.wrap .u8 (ior .i64 (iand .i64 x42 127) 128)] : List Int)) (n := v33) (e := 5) (e2 := 5) (bytes := 1) (b2 := 1) (tok2 := .exact) (by kernel_rfl) hx43) z) edL) <| bk_normL <| rgNL cl_loopT fun h => ⟨(v33 + List.length ([IntKind.wrap .u8 (ior .i64 (iand .i64 x42 127) 128)] : List Int), IntKind.wrap .i64 (v34 - 1), x43), h, wk ⟨[0, 2], 3, [], 0⟩⟩) <| b_exitL <| tk_exitL <| bl_exitL <| jnL ⟨[0, 1], 2, [], 0⟩) fun y27 => bEL fun x44 hx44 => rCL (lfL (fun z => kV 5 2 0 1 (x_oapp (T := tyT) (c := (vI .u8)) (l := y27.2) (l2 := ([IntKind.wrap .u8 (iand .i64 a1 127)] : List Int)) (n := y27.1) (e := 5) (e2 := 5) (bytes := 1) (b2 := 1) (tok2 := .exact) (by kernel_rfl) hx44) z) edL) <| b_retL <| rJ ⟨[0, 2], 3, [], 0⟩
def go_oid_Encode_l1 (n : Nat) (x9 : (List Int)) : Nat → Nat → Int → (List Int) → Option (Nat × (List Int))
 | 0, _, _, _ => none
 | k + 1, v33, v34, v35 =>
  if (decide (v34 < (List.length x9 : Int))) = true then ((lidx x9 v34).bind fun x42 =>
  (go_oid_put_2 n v33 x42 v35).bind fun r43 =>
  go_oid_Encode_l1 n x9 k r43.1 (IntKind.wrap .i64 (v34 + 1)) r43.2) else (some (v33, v35))
def go_oid_Encode (n : Nat) (a0 : (List UInt8)) : Option ((List UInt8) × Int) :=
 ((go_oid_arcs n a0).bind fun r1 =>
 onE r1 (some ([] : List Int)) (fun l2 => some l2)).bind fun y4 =>
 (lne y4).bind fun x5 =>
 (lidx y4 0).bind fun x6 =>
 (lidx y4 1).bind fun x7 =>
 (go_oid_put n (IntKind.wrap .i64 ((IntKind.wrap .i64 ((40 : Int) * x6)) + x7))).bind fun r8 =>
 (lsl y4 2 (List.length y4)).bind fun x9 =>
 (go_oid_Encode_l1 n x9 n r8.1 0 r8.2).bind fun y27 =>
 (ob2s y27.1 y27.2).bind fun x44 =>
 some (x44, 0)
theorem go_oid_Encode_ok {n : Nat} {a0 : (List UInt8)} {r : ((List UInt8) × Int)} : go_oid_Encode n a0 = some r → AC mx 188 [qs a0] [] (.tuple [qs r.1, qi r.2]) [] := by
 delta go_oid_Encode
 exact fnL Tryz.func188 rfl <| rgL <| bEL fun y4 hE => rgF hE ⟨34, [(4, ql 1 (cI .i64) y4)]⟩ ⟨[], []⟩ (bEL fun r1 hr1 => kCL 1 ⟨[], 0, [], 0⟩ (go_oid_arcs_ok hr1) fun h => by cases r1 with | none => exact imA (onN h) (eJ ⟨[], 0, [], 0⟩) | some l2 => exact imA (onS h) (eJ ⟨[], 0, [], 0⟩)) <| bEL fun x5 hx5 => rCL (kPL 1 (x_lne_eql (c := (cI .i64)) (e := 3) (sz := 1) (b := 8) (tok := .none) hx5) edL) <| bNL <| bEL fun x6 hx6 => bEL fun x7 hx7 => bEL fun r8 hr8 => lfL (fun z => zm [0, 1, 2, 3, 4, 5, 6, 7, 8, 9] [8] [[], [0], [0, 1], [0, 1, 2], [], [4], [4, 5], [0, 1, 2, 3, 4, 5, 6], [0, 1, 2, 3, 4, 5, 6, 7], [0, 1, 2, 3, 4, 5, 6, 7, 8]] [4] [(5, .own 0 r8.1 1)] ⟨[[.buf (List.map (vI .u8) r8.2)]], []⟩ (dS [0] <| dP (x_lidx (c := (cI .i64)) (e := 3) (sz := 1) (b := 8) (tok := .none) hx6) <| dS [2, 3, 4] <| dP (x_lidx (c := (cI .i64)) (e := 3) (sz := 1) (b := 8) (tok := .none) hx7) <| dS [6, 7] <| dC (fxCons 5 (x_lidx (c := (cI .i64)) (e := 3) (sz := 1) (b := 8) (tok := .none) hx7) (fxCons 1 (x_lidx (c := (cI .i64)) (e := 3) (sz := 1) (b := 8) (tok := .none) hx6) fxNil)) ⟨[], 0, [], 0⟩ (go_oid_put_ok hr8) <| dS [9] <| dE ⟨[0], 1, [], 0⟩) z) <| bEL fun x9 hx9 => rCL (kPL 1 (x_lsl_lo (k := .i64) (c := (cI .i64)) (e := 3) (sz := 1) (b := 8) (tok := .none) hx9) <| kPL 2 (x_len (c := (cI .i64)) (l := x9) (e := 3) (sz := 1) (sz' := 1) (b := 8) (tok := .none)) edL) <| blL (fun y27 => ⟨34, [(5, .own 0 y27.1 1)]⟩) (fun y27 => ⟨[[.buf (List.map (vI .u8) y27.2)]], []⟩) (fun y27 => lpL (fun k x => go_oid_Encode_l1 n x9 k x.1 x.2.1 x.2.2) (r8.1, 0, r8.2) ⟨[0], 1, [], 0⟩ (fun x => ⟨34, [(5, .own 0 x.1 1), (22, ql 1 (cI .i64) x9), (23, qi (List.length x9 : Int)), (24, qi x.2.1)]⟩) (fun x => ⟨[[.buf (List.map (vI .u8) x.2.2)]], []⟩) fun k x => by obtain ⟨v33, v34, v35⟩ := x; rw [go_oid_Encode_l1]; exact rgL <| bFL (b_blockL <| bEL fun x42 hx42 => rCL (kPL 0 (x_lidx (c := (cI .i64)) (e := 3) (sz := 1) (b := 8) (tok := .none) hx42) edL) <| bEL fun r43 hr43 => rCNL cl_cons (kCL 2 ⟨[0], 1, [], 0⟩ (go_oid_put_2_ok hr43) edL) <| bk_normL <| rgNL cl_loopT fun h => ⟨(r43.1, IntKind.wrap .i64 (v34 + 1), r43.2), h, wk ⟨[1], 2, [], 0⟩⟩) <| b_exitL <| tk_exitL <| bl_exitL <| jnL ⟨[0], 1, [], 0⟩) fun y27 => bEL fun x44 hx44 => rCL (kPL 1 (x_ob2s hx44) edL) <| b_retL <| rJ ⟨[], 1, [], 0⟩
def go_tlv_Wrap_l1 (n : Nat) (a1 : (List (List UInt8))) : Nat → Int → Int → Option (Ctl ((List UInt8) × Int) Int)
 | 0, _, _ => none
 | k + 1, v17, v18 =>
  if (decide (v18 < (List.length a1 : Int))) = true then ((lidx a1 v18).bind fun x22 =>
  if (decide ((List.length x22 : Int) > (IntKind.wrap .i64 ((131072 : Int) - v17)))) = true then (some (.ret (([] : List UInt8), 6))) else (go_tlv_Wrap_l1 n a1 k (IntKind.wrap .i64 (v17 + (List.length x22 : Int))) (IntKind.wrap .i64 (v18 + 1)))) else (some (.nxt v17))
def go_tlv_Wrap (n : Nat) (a0 : Int) (a1 : (List (List UInt8))) : Option ((List UInt8) × Int) :=
 (if (decide (a0 < 0)) = true then (some true) else (if (decide (a0 > 255)) = true then (some true) else (some ((iand .i64 a0 31) == 31)))).bind fun y2 =>
 if y2 = true then (some (([] : List UInt8), 5)) else (ctlB (go_tlv_Wrap_l1 n a1 n 0 0) (fun r => some r) (fun y12 =>
 (if (decide (y12 < 128)) = true then ((lappx 1 ([IntKind.wrap .u8 a0] : List Int) ([IntKind.wrap .u8 y12] : List Int)).bind fun x34 =>
 some x34) else (if (decide (y12 < 256)) = true then ((lappx 1 ([IntKind.wrap .u8 a0] : List Int) ([129, IntKind.wrap .u8 y12] : List Int)).bind fun x35 =>
 some x35) else (if (decide (y12 < 65536)) = true then ((lappx 1 ([IntKind.wrap .u8 a0] : List Int) ([130, IntKind.wrap .u8 (Int.fdiv y12 256), IntKind.wrap .u8 y12] : List Int)).bind fun x36 =>
 some x36) else ((lappx 1 ([IntKind.wrap .u8 a0] : List Int) ([131, IntKind.wrap .u8 (Int.fdiv y12 65536), IntKind.wrap .u8 (Int.fdiv y12 256), IntKind.wrap .u8 y12] : List Int)).bind fun x37 =>
 some x37)))).bind fun y32 =>
 (ct_Join n a1 ([] : List UInt8)).bind fun r38 =>
 (sadd (b2s y32) r38).bind fun x39 =>
 some (x39, 0)))
theorem go_tlv_Wrap_ok {n : Nat} {a0 : Int} {a1 : (List (List UInt8))} {r : ((List UInt8) × Int)} : go_tlv_Wrap n a0 a1 = some r → AC mx 280 [qi a0, ql 1 cS a1] [] (.tuple [qs r.1, qi r.2]) [] := by
 delta go_tlv_Wrap
 exact fnL Tryz.func280 rfl <| rgL <| bEL fun y2 hE => rgF hE ⟨83, [(0, qi a0), (1, ql 1 cS a1), (20, qb y2)]⟩ ⟨[], []⟩ (gFL 3 12 (eJ ⟨[], 0, [], 0⟩) <| gFL 7 16 (eJ ⟨[], 0, [], 0⟩) <| eJ ⟨[], 0, [], 0⟩) <| bFL (rgL <| b_retL <| rJ ⟨[], 0, [], 0⟩) <| rgL <| rCL (kPL 1 (x_len (c := cS) (l := a1) (e := 9) (sz := 1) (sz' := 1) (b := 16) (tok := .none)) edL) <| bcL (fun y12 => ⟨83, [(0, qi a0), (1, ql 1 cS a1), (6, qi y12)]⟩) (fun y12 => ⟨[], []⟩) (fun o13 hr14 => lpL (fun k x => go_tlv_Wrap_l1 n a1 k x.1 x.2) (0, 0) ⟨[], 0, [], 0⟩ (fun x => ⟨83, [(0, qi a0), (1, ql 1 cS a1), (6, qi x.1), (21, ql 1 cS a1), (22, qi (List.length a1 : Int)), (23, qi x.2)]⟩) (fun x => ⟨[], []⟩) fun k x => by obtain ⟨v17, v18⟩ := x; rw [go_tlv_Wrap_l1]; exact rgL <| bFL (b_blockL <| bEL fun x22 hx22 => rCL (kPL 0 (x_lidx (c := cS) (e := 9) (sz := 1) (b := 16) (tok := .none) hx22) edL) <| rgL <| bFL (rgL <| b_retL <| bk_retL <| tk_retL <| hvL hr14 <| bl_retL <| rJ ⟨[], 0, [], 0⟩) <| rgNL cl_cons <| bk_normL <| rgNL cl_loopT fun h => ⟨(IntKind.wrap .i64 (v17 + (List.length x22 : Int)), IntKind.wrap .i64 (v18 + 1)), h, wk ⟨[], 0, [], 0⟩⟩) <| b_exitL <| tk_exitL <| bl_exitL <| jCL ⟨[], 0, [], 0⟩) fun y12 => rgL <| blL (fun y32 => ⟨83, [(1, ql 1 cS a1), (9, .sl 1 (List.map (cI .u8) y32) (.fam 0 (List.length y32)))]⟩) (fun y32 => ⟨[], [List.length y32]⟩) (fun y32 => rgL <| bFL (bEL fun x34 hx34 => rCNL cl_blockL (lfL (fun z => kV 4 0 0 0 (x_appX (T := tyT) (c := (cI .u8)) (e := 5) (e2 := 5) (sz := 1) (bytes := 1) (b2 := 1) (tok2 := .exact) (cell := none) (by kernel_rfl) hx34) z) edL) <| jnL ⟨[], 0, [0], 1⟩) <| rgL <| bFL (bEL fun x35 hx35 => rCNL cl_blockL (lfL (fun z => kV 4 0 0 0 (x_appX (T := tyT) (c := (cI .u8)) (e := 5) (e2 := 5) (sz := 1) (bytes := 1) (b2 := 1) (tok2 := .exact) (cell := none) (by kernel_rfl) hx35) z) edL) <| jnL ⟨[], 0, [0], 1⟩) <| rgL <| bFL (bEL fun x36 hx36 => rCNL cl_blockL (lfL (fun z => kV 7 0 0 0 (x_appX (T := tyT) (c := (cI .u8)) (e := 5) (e2 := 5) (sz := 1) (bytes := 1) (b2 := 1) (tok2 := .exact) (cell := none) (by kernel_rfl) hx36) z) edL) <| jnL ⟨[], 0, [0], 1⟩) <| bEL fun x37 hx37 => rCNL cl_blockL (lfL (fun z => kV 10 0 0 0 (x_appX (T := tyT) (c := (cI .u8)) (e := 5) (e2 := 5) (sz := 1) (bytes := 1) (b2 := 1) (tok2 := .exact) (cell := none) (by kernel_rfl) hx37) z) edL) <| jnL ⟨[], 0, [0], 1⟩) fun y32 => bEL fun r38 hr38 => bEL fun x39 hx39 => lfL (fun z => zm [0, 1, 2, 3, 4, 5, 6] [3] [[], [0], [], [2], [0, 1, 2, 3], [0, 1, 2, 3, 4], [0, 1, 2, 3, 4, 5]] [] [(4, qs x39), (5, qi 0)] ⟨[], []⟩ (dS [0] <| dP (x_b2s y32) <| dS [2] <| dC (fxCons 1 (x_b2s y32) fxNil) ⟨[], 0, [], 1⟩ (ct_Join_ok hr38) <| dP (x_sadd (d := (tyT 9).d) hx39) <| dS [5, 6] <| dE ⟨[], 0, [], 1⟩) z) <| b_retL <| rJ ⟨[], 0, [], 0⟩
def go_dname_encodeAttribute (n : Nat) (a0 : T_api_Attribute) : Option ((List UInt8) × Int) :=
 (go_oid_Encode n a0.f_Type).bind fun r1 =>
 if (r1.2 != 0) = true then (some (([] : List UInt8), r1.2)) else ((go_tlv_Wrap n 6 ([r1.1] : List (List UInt8))).bind fun r2 =>
 if (r2.2 != 0) = true then (some (([] : List UInt8), r2.2)) else ((go_tlv_Wrap n a0.f_Kind ([a0.f_Value] : List (List UInt8))).bind fun r3 =>
 if (r3.2 != 0) = true then (some (([] : List UInt8), r3.2)) else ((go_tlv_Wrap n 48 ([r2.1, r3.1] : List (List UInt8))).bind fun r4 =>
 some (r4.1, r4.2))))
theorem go_dname_encodeAttribute_ok {n : Nat} {a0 : T_api_Attribute} {r : ((List UInt8) × Int)} : go_dname_encodeAttribute n a0 = some r → AC mx 166 [.agg (T_api_Attribute.cells a0)] [] (.tuple [qs r.1, qi r.2]) [] := by
 delta go_dname_encodeAttribute
 exact fnL Tryz.func166 rfl <| rgL <| bEL fun r1 hr1 => rCL (kCL 2 ⟨[], 1, [], 0⟩ (go_oid_Encode_ok hr1) edL) <| rgL <| bFL (rgL <| b_retL <| rJ ⟨[], 1, [], 0⟩) <| bEL fun r2 hr2 => rCL (kCL 2 ⟨[], 1, [], 0⟩ (go_tlv_Wrap_ok hr2) edL) <| rgL <| bFL (rgL <| b_retL <| rJ ⟨[], 1, [], 0⟩) <| bEL fun r3 hr3 => rCL (kCL 5 ⟨[], 1, [], 0⟩ (go_tlv_Wrap_ok hr3) edL) <| rgL <| bFL (rgL <| b_retL <| rJ ⟨[], 1, [], 0⟩) <| bEL fun r4 hr4 => rCL (kCL 3 ⟨[], 1, [], 0⟩ (go_tlv_Wrap_ok hr4) edL) <| b_retL <| rJ ⟨[], 1, [], 0⟩
def go_dname_shorts (n : Nat) : Option (List T_dname_short) :=
 some ([(T_dname_short.mk ([67, 78] : List UInt8) ([50, 46, 53, 46, 52, 46, 51] : List UInt8)), (T_dname_short.mk ([67] : List UInt8) ([50, 46, 53, 46, 52, 46, 54] : List UInt8)), (T_dname_short.mk ([76] : List UInt8) ([50, 46, 53, 46, 52, 46, 55] : List UInt8)), (T_dname_short.mk ([79] : List UInt8) ([50, 46, 53, 46, 52, 46, 49, 48] : List UInt8)), (T_dname_short.mk ([79, 85] : List UInt8) ([50, 46, 53, 46, 52, 46, 49, 49] : List UInt8)), (T_dname_short.mk ([68, 67] : List UInt8) ([48, 46, 57, 46, 50, 51, 52, 50, 46, 49, 57, 50, 48, 48, 51, 48, 48, 46, 49, 48, 48, 46, 49, 46, 50, 53] : List UInt8)), (T_dname_short.mk ([69] : List UInt8) ([49, 46, 50, 46, 56, 52, 48, 46, 49, 49, 51, 53, 52, 57, 46, 49, 46, 57, 46, 49] : List UInt8))] : List T_dname_short)
theorem go_dname_shorts_ok {n : Nat} {r : (List T_dname_short)} : go_dname_shorts n  = some r → AC mx 167 [] [] (ql 2 T_dname_short.cells r) [] := by
 delta go_dname_shorts
 exact fnL Tryz.func167 rfl <| rgL <| rgL <| b_retL <| rJ ⟨[], 0, [], 0⟩
def go_text_plain (n : Nat) (a0 : Int) : Option Bool :=
 ((go_text_letter n a0).bind fun r1 =>
 if r1 = true then (some true) else ((ct_IndexByte n ([32, 39, 40, 41, 45, 46, 47, 58, 63, 64, 95] : List UInt8) a0).bind fun r2 =>
 some (decide (r2 ≥ 0)))).bind fun y4 =>
 some y4
theorem go_text_plain_ok {n : Nat} {a0 : Int} {r : Bool} : go_text_plain n a0 = some r → AC mx 281 [qu a0] [] (qb r) [] := by
 delta go_text_plain
 exact fnL Tryz.func281 rfl <| rgL <| bEL fun y4 hE => rgF hE ⟨10, [(2, qb y4)]⟩ ⟨[], []⟩ (bEL fun r1 hr1 => kCL 1 ⟨[], 0, [], 0⟩ (go_text_letter_ok hr1) <| gFL 3 5 (eJ ⟨[], 0, [], 0⟩) <| bEL fun r2 hr2 => kCL 4 ⟨[], 0, [], 0⟩ (ct_IndexByte_ok hr2) <| eJ ⟨[], 0, [], 0⟩) <| b_retL <| rJ ⟨[], 0, [], 0⟩
def go_text_Escape_l1 (n : Nat) (a0 : (List UInt8)) : Nat → (List Int) → Int → Option (List Int)
 | 0, _, _ => none
 | k + 1, v92, v93 =>
  if (decide (v93 < (List.length (s2b a0) : Int))) = true then (((lidx (s2b a0) v93).bind fun x130 =>
  (go_text_plain n x130).bind fun r131 =>
  if r131 = true then ((lapp 1 v92 ([x130] : List Int)).bind fun x132 =>
  some x132) else ((bidx ([48, 49, 50, 51, 52, 53, 54, 55, 56, 57, 97, 98, 99, 100, 101, 102] : List UInt8) (Int.fdiv x130 16)).bind fun x133 =>
  (bidx ([48, 49, 50, 51, 52, 53, 54, 55, 56, 57, 97, 98, 99, 100, 101, 102] : List UInt8) (iand .u8 x130 15)).bind fun x134 =>
  (lapp 1 v92 ([92, x133, x134] : List Int)).bind fun x135 =>
  some x135)).bind fun y128 =>
  go_text_Escape_l1 n a0 k y128 (IntKind.wrap .i64 (v93 + 1))) else (some v92)
def go_text_Escape (n : Nat) (a0 : (List UInt8)) : Option (List UInt8) :=
 (go_text_Escape_l1 n a0 n ([] : List Int) 0).bind fun y68 =>
 some (b2s y68)
theorem go_text_Escape_ok {n : Nat} {a0 : (List UInt8)} {r : (List UInt8)} : go_text_Escape n a0 = some r → AC mx 168 [qs a0] [] (qs r) [] := by
 delta go_text_Escape
 exact fnL Tryz.func168 rfl <| rgL <| rgL <| rCL (lfL (fun z => kS 1 a0 z) <| kPL 2 (x_len (c := (cI .u8)) (l := s2b a0) (e := 5) (sz := 1) (sz' := 1) (b := 1) (tok := .none)) edL) <| blL (fun y68 => ⟨31, [(3, .sl 1 (List.map (cI .u8) y68) (.fam 0 (List.length y68)))]⟩) (fun y68 => ⟨[], [List.length y68]⟩) (fun y68 => b_wkL (wk (fr' := ⟨31, [(3, qn), (7, ql 1 (cI .u8) (s2b a0)), (8, qi (List.length (s2b a0) : Int)), (9, qi 0)]⟩) (st' := ⟨[], []⟩) ⟨[], 0, [], 0⟩) <| b_wkL Wk.nilFam <| lpL (fun k x => go_text_Escape_l1 n a0 k x.1 x.2) (([] : List Int), 0) ⟨[], 0, [0], 1⟩ (fun x => ⟨31, [(3, .sl 1 (List.map (cI .u8) x.1) (.fam 0 (List.length x.1))), (7, ql 1 (cI .u8) (s2b a0)), (8, qi (List.length (s2b a0) : Int)), (9, qi x.2)]⟩) (fun x => ⟨[], [List.length x.1]⟩) fun k x => by obtain ⟨v92, v93⟩ := x; rw [go_text_Escape_l1]; exact rgL <| bFL (blL (fun y128 => ⟨31, [(3, .sl 1 (List.map (cI .u8) y128) (.fam 0 (List.length y128))), (7, ql 1 (cI .u8) (s2b a0)), (8, qi (List.length (s2b a0) : Int)), (9, qi v93)]⟩) (fun y128 => ⟨[], [List.length y128]⟩) (fun y128 => bEL fun x130 hx130 => rCL (kPL 0 (x_lidx (c := (cI .u8)) (e := 5) (sz := 1) (b := 1) (tok := .none) hx130) edL) <| bEL fun r131 hr131 => rCL (kCL 1 ⟨[], 0, [], 1⟩ (go_text_plain_ok hr131) edL) <| bFL (bEL fun x132 hx132 => rCNL cl_blockL (lfL (fun z => kA 3 0 (cI .u8) (e := 5) (e2 := 5) (sz := 1) (bytes := 1) (b2 := 1) (tok2 := .exact) hx132 z) edL) <| jnL ⟨[], 0, [0], 1⟩) <| bEL fun x133 hx133 => bEL fun x134 hx134 => bEL fun x135 hx135 => lfL (fun z => zmN cl_blockL [0, 1, 2, 3, 4, 5, 6, 7, 8, 9] [8, 9] [[], [], [1], [1, 2], [], [4], [4, 5], [1, 2, 3, 4, 5, 6], [0, 1, 2, 3, 4, 5, 6, 7], [0, 1, 2, 3, 4, 5, 6, 7, 8]] [7, 8] [(3, .sl 1 (List.map (cI .u8) x135) (.fam 0 (List.length x135))), (9, qi v93)] ⟨[], [List.length x135]⟩ (dS [0, 1, 2] <| dP (x_bidx hx133) <| dS [4, 5] <| dP (x_bidx hx134) <| dS [7] <| dA (fxCons 6 (x_bidx hx134) (fxCons 3 (x_bidx hx133) fxNil)) 0 (cI .u8) (e := 5) (e2 := 5) (sz := 1) (bytes := 1) (b2 := 1) (tok2 := .exact) hx135 <| dF (fxCons 6 (x_bidx hx134) (fxCons 3 (x_bidx hx133) fxNil)) <| dE ⟨[], 0, [0], 1⟩) z) <| jnL ⟨[], 0, [0], 1⟩) fun y128 => rgNL cl_loopT fun h => ⟨(y128, IntKind.wrap .i64 (v93 + 1)), h, wk ⟨[], 0, [0], 1⟩⟩) <| b_exitL <| tk_exitL <| bl_exitL <| jnL ⟨[], 0, [0], 1⟩) fun y68 => rCL (lfL (fun z => kB 1 y68 z) edL) <| b_retL <| rJ ⟨[], 0, [], 1⟩
def go_dname_Format_l3 (n : Nat) (r16974 : (List T_dname_short)) (x16972 : T_api_Attribute) : Nat → (List UInt8) → Int → Option (List UInt8)
 | 0, _, _ => none
 | k + 1, v17004, v17005 =>
  if (decide (v17005 < (List.length r16974 : Int))) = true then (((lidx r16974 v17005).bind fun x17017 =>
  if (x17017.f_id == x16972.f_Type) = true then (some x17017.f_word) else (some v17004)).bind fun y17015 =>
  go_dname_Format_l3 n r16974 x16972 k y17015 (IntKind.wrap .i64 (v17005 + 1))) else (some v17004)
def go_dname_Format_l2 (n : Nat) (x16111 : (List T_api_Attribute)) : Nat → Int → (List T_dname_item) → Option (Ctl ((List UInt8) × Int) (List T_dname_item))
 | 0, _, _ => none
 | k + 1, v16720, v16721 =>
  if (decide (v16720 < (List.length x16111 : Int))) = true then ((lidx x16111 v16720).bind fun x16972 =>
  (go_dname_encodeAttribute n x16972).bind fun r16973 =>
  if (r16973.2 != 0) = true then (some (.ret (([] : List UInt8), r16973.2))) else ((go_dname_shorts n).bind fun r16974 =>
  (go_dname_Format_l3 n r16974 x16972 n x16972.f_Type 0).bind fun y16996 =>
  (sadd y16996 ([61] : List UInt8)).bind fun x17018 =>
  (go_text_Escape n x16972.f_Value).bind fun r17019 =>
  (sadd x17018 r17019).bind fun x17020 =>
  (lapp 32 v16721 ([(T_dname_item.mk r16973.1 x17020)] : List T_dname_item)).bind fun x17021 =>
  go_dname_Format_l2 n x16111 k (IntKind.wrap .i64 (v16720 + 1)) x17021)) else (some (.nxt v16721))
def go_dname_Format_l4 (n : Nat) (y16566 : (List T_dname_item)) : Nat → (List (List UInt8)) → Int → Option (List (List UInt8))
 | 0, _, _ => none
 | k + 1, v17046, v17047 =>
  if (decide (v17047 < (List.length y16566 : Int))) = true then ((lidx y16566 v17047).bind fun x17054 =>
  (lapp 16 v17046 ([x17054.f_words] : List (List UInt8))).bind fun x17055 =>
  go_dname_Format_l4 n y16566 k x17055 (IntKind.wrap .i64 (v17047 + 1))) else (some v17046)
def go_dname_Format_l1 (n : Nat) (a0 : T_api_Name) : Nat → (List (List UInt8)) → Int → Option (Ctl ((List UInt8) × Int) (List (List UInt8)))
 | 0, _, _ => none
 | k + 1, v11374, v11375 =>
  if (decide (v11375 < (List.length a0.f_RDNs : Int))) = true then ((lidx a0.f_RDNs v11375).bind fun x16111 =>
  ctlB (go_dname_Format_l2 n x16111 n 0 ([] : List T_dname_item)) (fun r => some (.ret r)) (fun y16566 =>
  (ot1 (List.length y16566)).bind fun x17022 =>
  (go_dname_Format_l4 n y16566 n ([] : List (List UInt8)) 0).bind fun y17039 =>
  (ct_Join n y17039 ([43] : List UInt8)).bind fun r17056 =>
  (lapp 16 v11374 ([r17056] : List (List UInt8))).bind fun x17057 =>
  go_dname_Format_l1 n a0 k x17057 (IntKind.wrap .i64 (v11375 + 1)))) else (some (.nxt v11374))
def go_dname_Format (n : Nat) (a0 : T_api_Name) : Option ((List UInt8) × Int) :=
 (go_dname_Check n a0).bind fun r1 =>
 if (r1 != 0) = true then (some (([] : List UInt8), r1)) else (ctlB (go_dname_Format_l1 n a0 n ([] : List (List UInt8)) 0) (fun r => some r) (fun y8529 =>
 (ct_Join n y8529 ([44] : List UInt8)).bind fun r17058 =>
 some (r17058, 0)))
theorem go_dname_Format_ok {n : Nat} {a0 : T_api_Name} {r : ((List UInt8) × Int)} : go_dname_Format n a0 = some r → AC mx 77 [.agg [ql 1 (cL 3 T_api_Attribute.cells) a0.f_RDNs]] [] (.tuple [qs r.1, qi r.2]) [] := by
 delta go_dname_Format
 exact fnL Tryz.func77 rfl <| rgL <| bEL fun r1 hr1 => rCL (kCL 1 ⟨[], 1, [], 0⟩ (go_dname_Check_ok hr1) edL) <| rgL <| bFL (rgL <| b_retL <| rJ ⟨[], 1, [], 0⟩) <| rgL <| rCL (kPL 2 (x_len (c := (cL 3 T_api_Attribute.cells)) (l := a0.f_RDNs) (e := 83) (sz := 1) (sz' := 1) (b := 24) (tok := .none)) edL) <| bcL (fun y8529 => ⟨97, [(5, .sl 1 (List.map cS y8529) (.fam 0 (List.length y8529)))]⟩) (fun y8529 => ⟨[], [List.length y8529]⟩) (fun o8530 hr8531 => b_wkL (wk (fr' := ⟨97, [(5, qn), (25, ql 1 (cL 3 T_api_Attribute.cells) a0.f_RDNs), (26, qi (List.length a0.f_RDNs : Int)), (27, qi 0)]⟩) (st' := ⟨[], []⟩) ⟨[], 1, [], 0⟩) <| b_wkL Wk.nilFam <| lpL (fun k x => go_dname_Format_l1 n a0 k x.1 x.2) (([] : List (List UInt8)), 0) ⟨[], 0, [0], 1⟩ (fun x => ⟨97, [(5, .sl 1 (List.map cS x.1) (.fam 0 (List.length x.1))), (25, ql 1 (cL 3 T_api_Attribute.cells) a0.f_RDNs), (26, qi (List.length a0.f_RDNs : Int)), (27, qi x.2)]⟩) (fun x => ⟨[], [List.length x.1]⟩) fun k x => by obtain ⟨v11374, v11375⟩ := x; rw [go_dname_Format_l1]; exact rgL <| bFL (b_blockL <| bEL fun x16111 hx16111 => rCL (kPL 0 (x_lidx (c := (cL 3 T_api_Attribute.cells)) (e := 83) (sz := 1) (b := 24) (tok := .none) hx16111) edL) <| rgL <| rCL (kPL 1 (x_len (c := T_api_Attribute.cells) (l := x16111) (e := 82) (sz := 3) (sz' := 3) (b := 40) (tok := .none)) edL) <| bcL (fun y16566 => ⟨97, [(5, .sl 1 (List.map cS v11374) (.fam 0 (List.length v11374))), (8, qp 0), (25, ql 1 (cL 3 T_api_Attribute.cells) a0.f_RDNs), (26, qi (List.length a0.f_RDNs : Int)), (27, qi v11375)]⟩) (fun y16566 => ⟨[[.sl 2 (List.map T_dname_item.cells y16566) (.fam 1 (List.length y16566))]], [List.length v11374, List.length y16566]⟩) (fun o16567 hr16568 => b_wkL (wk (fr' := ⟨97, [(5, .sl 1 (List.map cS v11374) (.fam 0 (List.length v11374))), (8, qp 0), (25, ql 1 (cL 3 T_api_Attribute.cells) a0.f_RDNs), (26, qi (List.length a0.f_RDNs : Int)), (27, qi v11375), (31, ql 3 T_api_Attribute.cells x16111), (32, qi (List.length x16111 : Int)), (33, qi 0)]⟩) (st' := ⟨[[qn]], [List.length v11374]⟩) ⟨[0], 1, [0], 1⟩) <| b_wkL Wk.nilFam <| lpL (fun k x => go_dname_Format_l2 n x16111 k x.1 x.2) (0, ([] : List T_dname_item)) ⟨[0], 1, [0, 1], 2⟩ (fun x => ⟨97, [(5, .sl 1 (List.map cS v11374) (.fam 0 (List.length v11374))), (8, qp 0), (25, ql 1 (cL 3 T_api_Attribute.cells) a0.f_RDNs), (26, qi (List.length a0.f_RDNs : Int)), (27, qi v11375), (31, ql 3 T_api_Attribute.cells x16111), (32, qi (List.length x16111 : Int)), (33, qi x.1)]⟩) (fun x => ⟨[[.sl 2 (List.map T_dname_item.cells x.2) (.fam 1 (List.length x.2))]], [List.length v11374, List.length x.2]⟩) fun k x => by obtain ⟨v16720, v16721⟩ := x; rw [go_dname_Format_l2]; exact rgL <| bFL (b_blockL <| bEL fun x16972 hx16972 => rCL (kPL 0 (x_lidx (c := T_api_Attribute.cells) (e := 82) (sz := 3) (b := 40) (tok := .none) hx16972) edL) <| bEL fun r16973 hr16973 => rCL (kCL 1 ⟨[], 2, [], 2⟩ (go_dname_encodeAttribute_ok hr16973) edL) <| rgL <| bFL (rgL <| b_retL <| bk_retL <| tk_retL <| hvL hr16568 <| bl_retL <| bk_retL <| tk_retL <| hvL hr8531 <| bl_retL <| rJ ⟨[], 2, [], 2⟩) <| rgL <| bEL fun r16974 hr16974 => rCL (kCL 0 ⟨[], 2, [], 2⟩ (go_dname_shorts_ok hr16974) <| kPL 1 (x_len (c := T_dname_short.cells) (l := r16974) (e := 246) (sz := 2) (sz' := 2) (b := 32) (tok := .none)) edL) <| blL (fun y16996 => ⟨97, [(5, .sl 1 (List.map cS v11374) (.fam 0 (List.length v11374))), (8, qp 0), (10, qp 1), (11, qs r16973.1), (13, qs y16996), (25, ql 1 (cL 3 T_api_Attribute.cells) a0.f_RDNs), (26, qi (List.length a0.f_RDNs : Int)), (27, qi v11375), (31, ql 3 T_api_Attribute.cells x16111), (32, qi (List.length x16111 : Int)), (33, qi v16720)]⟩) (fun y16996 => ⟨[[.sl 2 (List.map T_dname_item.cells v16721) (.fam 1 (List.length v16721))], T_api_Attribute.cells x16972], [List.length v11374, List.length v16721]⟩) (fun y16996 => lpL (fun k x => go_dname_Format_l3 n r16974 x16972 k x.1 x.2) (x16972.f_Type, 0) ⟨[0, 1], 2, [0, 1], 2⟩ (fun x => ⟨97, [(5, .sl 1 (List.map cS v11374) (.fam 0 (List.length v11374))), (8, qp 0), (10, qp 1), (11, qs r16973.1), (13, qs x.1), (25, ql 1 (cL 3 T_api_Attribute.cells) a0.f_RDNs), (26, qi (List.length a0.f_RDNs : Int)), (27, qi v11375), (31, ql 3 T_api_Attribute.cells x16111), (32, qi (List.length x16111 : Int)), (33, qi v16720), (47, ql 2 T_dname_short.cells r16974), (48, qi (List.length r16974 : Int)), (49, qi x.2)]⟩) (fun x => ⟨[[.sl 2 (List.map T_dname_item.cells v16721) (.fam 1 (List.length v16721))], T_api_Attribute.cells x16972], [List.length v11374, List.length v16721]⟩) fun k x => by obtain ⟨v17004, v17005⟩ := x; rw [go_dname_Format_l3]; exact rgL <| bFL (blL (fun y17015 => ⟨97, [(5, .sl 1 (List.map cS v11374) (.fam 0 (List.length v11374))), (8, qp 0), (10, qp 1), (11, qs r16973.1), (13, qs y17015), (25, ql 1 (cL 3 T_api_Attribute.cells) a0.f_RDNs), (26, qi (List.length a0.f_RDNs : Int)), (27, qi v11375), (31, ql 3 T_api_Attribute.cells x16111), (32, qi (List.length x16111 : Int)), (33, qi v16720), (47, ql 2 T_dname_short.cells r16974), (48, qi (List.length r16974 : Int)), (49, qi v17005)]⟩) (fun y17015 => ⟨[[.sl 2 (List.map T_dname_item.cells v16721) (.fam 1 (List.length v16721))], T_api_Attribute.cells x16972], [List.length v11374, List.length v16721]⟩) (fun y17015 => bEL fun x17017 hx17017 => rCL (kPL 0 (x_lidx (c := T_dname_short.cells) (e := 246) (sz := 2) (b := 32) (tok := .none) hx17017) edL) <| rgL <| bFL (rgNL cl_blockL <| jnL ⟨[0, 1], 3, [0, 1], 2⟩) <| jnL ⟨[0, 1], 3, [0, 1], 2⟩) fun y17015 => rgNL cl_loopT fun h => ⟨(y17015, IntKind.wrap .i64 (v17005 + 1)), h, wk ⟨[0, 1], 2, [0, 1], 2⟩⟩) <| b_exitL <| tk_exitL <| bl_exitL <| jnL ⟨[0, 1], 2, [0, 1], 2⟩) fun y16996 => bEL fun x17018 hx17018 => bEL fun r17019 hr17019 => bEL fun x17020 hx17020 => bEL fun x17021 hx17021 => lfL (fun z => zmN cl_cons [0, 1, 2, 3, 4, 5, 6, 7, 8, 9, 10, 11] [6, 10, 11] [[], [], [], [2], [], [4], [4, 5], [2, 3, 4, 5, 6], [1, 2, 3, 4, 5, 6, 7], [1, 2, 3, 4, 5, 6, 7, 8], [0, 1, 2, 3, 4, 5, 6, 7, 8, 9], [0, 1, 2, 3, 4, 5, 6, 7, 8, 9, 10]] [5, 25, 26, 27, 31, 32, 33] [(8, qp 0)] ⟨[[.sl 2 (List.map T_dname_item.cells x17021) (.fam 1 (List.length x17021))]], [List.length v11374, List.length x17021]⟩ (dS [0, 1, 2] <| dP (x_sadd (d := (tyT 9).d) hx17018) <| dS [4, 5] <| dC (fxCons 3 (x_sadd (d := (tyT 9).d) hx17018) fxNil) ⟨[], 2, [], 2⟩ (go_text_Escape_ok hr17019) <| dP (x_sadd (d := (tyT 9).d) hx17020) <| dS [8, 9] <| dA (fxCons 7 (x_sadd (d := (tyT 9).d) hx17020) (fxCons 3 (x_sadd (d := (tyT 9).d) hx17018) fxNil)) 1 T_dname_item.cells (e := 248) (e2 := 248) (sz := 2) (bytes := 32) (b2 := 32) (tok2 := .exact) hx17021 <| dF (fxCons 7 (x_sadd (d := (tyT 9).d) hx17020) (fxCons 3 (x_sadd (d := (tyT 9).d) hx17018) fxNil)) <| dE ⟨[0], 2, [0, 1], 2⟩) z) <| bk_normL <| rgNL cl_loopT fun h => ⟨(IntKind.wrap .i64 (v16720 + 1), x17021), h, wk ⟨[0], 1, [0, 1], 2⟩⟩) <| b_exitL <| tk_exitL <| bl_exitL <| jCL ⟨[0], 1, [0, 1], 2⟩) fun y16566 => bEL fun x17022 hx17022 => rCL (kCL 3 ⟨[0], 1, [0, 1], 2⟩ (ct_SortSliceS (c := T_dname_item.cells) (l := y16566) (sz := 2) (tok := (.fam 1 (List.length y16566))) (t := 241) (g := 170) (fs := []) (cap := [qp 0]) (st := ⟨[[.sl 2 (List.map T_dname_item.cells y16566) (.fam 1 (List.length y16566))]], [List.length v11374, List.length y16566]⟩) hx17022) edL) <| rgL <| rCL (kPL 1 (x_len (c := T_dname_item.cells) (l := y16566) (e := 248) (sz := 2) (sz' := 2) (b := 32) (tok := (.fam 1 (List.length y16566)))) edL) <| blL (fun y17039 => ⟨97, [(5, .sl 1 (List.map cS v11374) (.fam 0 (List.length v11374))), (16, .sl 1 (List.map cS y17039) (.fam 1 (List.length y17039))), (25, ql 1 (cL 3 T_api_Attribute.cells) a0.f_RDNs), (26, qi (List.length a0.f_RDNs : Int)), (27, qi v11375)]⟩) (fun y17039 => ⟨[], [List.length v11374, List.length y17039]⟩) (fun y17039 => b_wkL (wk (fr' := ⟨97, [(5, .sl 1 (List.map cS v11374) (.fam 0 (List.length v11374))), (16, qn), (25, ql 1 (cL 3 T_api_Attribute.cells) a0.f_RDNs), (26, qi (List.length a0.f_RDNs : Int)), (27, qi v11375), (77, .sl 2 (List.map T_dname_item.cells y16566) (.fam 1 (List.length y16566))), (78, qi (List.length y16566 : Int)), (79, qi 0)]⟩) (st' := ⟨[], [List.length v11374, List.length y16566]⟩) ⟨[], 1, [0, 1], 2⟩) <| b_wkL Wk.nilFam <| lpL (fun k x => go_dname_Format_l4 n y16566 k x.1 x.2) (([] : List (List UInt8)), 0) ⟨[], 0, [0, 1, 2], 3⟩ (fun x => ⟨97, [(5, .sl 1 (List.map cS v11374) (.fam 0 (List.length v11374))), (16, .sl 1 (List.map cS x.1) (.fam 2 (List.length x.1))), (25, ql 1 (cL 3 T_api_Attribute.cells) a0.f_RDNs), (26, qi (List.length a0.f_RDNs : Int)), (27, qi v11375), (77, .sl 2 (List.map T_dname_item.cells y16566) (.fam 1 (List.length y16566))), (78, qi (List.length y16566 : Int)), (79, qi x.2)]⟩) (fun x => ⟨[], [List.length v11374, List.length y16566, List.length x.1]⟩) fun k x => by obtain ⟨v17046, v17047⟩ := x; rw [go_dname_Format_l4]; exact rgL <| bFL (b_blockL <| bEL fun x17054 hx17054 => rCL (kPL 0 (x_lidx (c := T_dname_item.cells) (e := 248) (sz := 2) (b := 32) (tok := (.fam 1 (List.length y16566))) hx17054) edL) <| bEL fun x17055 hx17055 => rCNL cl_cons (lfL (fun z => kA 4 2 cS (e := 9) (e2 := 9) (sz := 1) (bytes := 16) (b2 := 16) (tok2 := .exact) hx17055 z) edL) <| bk_normL <| rgNL cl_loopT fun h => ⟨(x17055, IntKind.wrap .i64 (v17047 + 1)), h, wk ⟨[], 1, [0, 1, 2], 3⟩⟩) <| b_exitL <| tk_exitL <| bl_exitL <| jnL ⟨[], 0, [0, 2], 3⟩) fun y17039 => bEL fun r17056 hr17056 => bEL fun x17057 hx17057 => rCNL cl_cons (kCL 2 ⟨[], 0, [], 2⟩ (ct_Join_ok hr17056) <| lfL (fun z => kA 4 0 cS (e := 9) (e2 := 9) (sz := 1) (bytes := 16) (b2 := 16) (tok2 := .exact) hx17057 z) edL) <| bk_normL <| rgNL cl_loopT fun h => ⟨(x17057, IntKind.wrap .i64 (v11375 + 1)), h, wk ⟨[], 0, [0], 2⟩⟩) <| b_exitL <| tk_exitL <| bl_exitL <| jCL ⟨[], 0, [0], 1⟩) fun y8529 => bEL fun r17058 hr17058 => rCL (kCL 1 ⟨[], 0, [], 1⟩ (ct_Join_ok hr17058) edL) <| b_retL <| rJ ⟨[], 0, [], 1⟩
def go_script_writer_word (n : Nat) (a1 : (List UInt8)) (m0 : T_script_writer) : Option T_script_writer :=
 if (!(m0.f_line == ([] : List UInt8))) = true then ((sadd m0.f_line ([32] : List UInt8)).bind fun x1 =>
 (sadd x1 a1).bind fun x2 =>
 some (T_script_writer.mk x2 m0.f_e)) else ((sadd m0.f_line a1).bind fun x3 =>
 some (T_script_writer.mk x3 m0.f_e))
theorem go_script_writer_word_ok {n : Nat} {a1 : (List UInt8)} {m0 : T_script_writer} {r : T_script_writer} : go_script_writer_word n a1 m0 = some r → AC mx 78 [qp 0, qs a1] [T_script_writer.cells m0] (.tuple []) [T_script_writer.cells r] := by
 delta go_script_writer_word
 exact fnL Tryz.func78 rfl <| rgL <| bFL (bEL fun x1 hx1 => rCL (kPL 4 (x_sadd (d := (tyT 9).d) hx1) edL) <| bEL fun x2 hx2 => rCNL cl_body (kPL 5 (x_sadd (d := (tyT 9).d) hx2) edL) <| nJ ⟨[0], 1, [], 0⟩) <| bEL fun x3 hx3 => rCNL cl_body (kPL 5 (x_sadd (d := (tyT 9).d) hx3) edL) <| nJ ⟨[0], 1, [], 0⟩
def go_script_writer_check (n : Nat) (a1 : Int) (m0 : T_script_writer) : Option T_script_writer :=
 if (m0.f_e == 0) = true then (some (T_script_writer.mk m0.f_line a1)) else (some m0)
theorem go_script_writer_check_ok {n : Nat} {a1 : Int} {m0 : T_script_writer} {r : T_script_writer} : go_script_writer_check n a1 m0 = some r → AC mx 82 [qp 0, qi a1] [T_script_writer.cells m0] (.tuple []) [T_script_writer.cells r] := by
 delta go_script_writer_check
 exact fnL Tryz.func82 rfl <| rgL <| bFL (rgNL cl_body <| nJ ⟨[0], 1, [], 0⟩) <| nJ ⟨[0], 1, [], 0⟩
def go_script_writer_numbers_l1 (n : Nat) (a1 : (List Int)) : Nat → Int → (List UInt8) → Int → Option ((List UInt8) × Int)
 | 0, _, _, _ => none
 | k + 1, v120, v121, v122 =>
  if (decide (v120 < (List.length a1 : Int))) = true then (((lidx a1 v120).bind fun x171 =>
  (if (decide (x171 < 0)) = true then (some true) else (some (decide (x171 > 4611686018427387904)))).bind fun y173 =>
  if y173 = true then ((go_script_writer_check n 1 (T_script_writer.mk v121 v122)).bind fun r174 =>
  (ct_Itoa n x171).bind fun r175 =>
  (go_script_writer_word n r175 r174).bind fun r176 =>
  some (r176.f_line, r176.f_e)) else ((ct_Itoa n x171).bind fun r177 =>
  (go_script_writer_word n r177 (T_script_writer.mk v121 v122)).bind fun r178 =>
  some (r178.f_line, r178.f_e))).bind fun y169 =>
  go_script_writer_numbers_l1 n a1 k (IntKind.wrap .i64 (v120 + 1)) y169.1 y169.2) else (some (v121, v122))
def go_script_writer_numbers (n : Nat) (a1 : (List Int)) (m0 : T_script_writer) : Option T_script_writer :=
 (go_script_writer_numbers_l1 n a1 n 0 m0.f_line m0.f_e).bind fun y90 =>
 some (T_script_writer.mk y90.1 y90.2)
theorem go_script_writer_numbers_ok {n : Nat} {a1 : (List Int)} {m0 : T_script_writer} {r : T_script_writer} : go_script_writer_numbers n a1 m0 = some r → AC mx 79 [qp 0, ql 1 (cI .i64) a1] [T_script_writer.cells m0] (.tuple []) [T_script_writer.cells r] := by
 delta go_script_writer_numbers
 exact fnL Tryz.func79 rfl <| rCL (kPL 1 (x_len (c := (cI .i64)) (l := a1) (e := 3) (sz := 1) (sz' := 1) (b := 8) (tok := .none)) edL) <| blNL cl_body (fun y90 => ⟨25, []⟩) (fun y90 => ⟨[[qs y90.1, qi y90.2]], []⟩) (fun y90 => lpL (fun k x => go_script_writer_numbers_l1 n a1 k x.1 x.2.1 x.2.2) (0, m0.f_line, m0.f_e) ⟨[0], 1, [], 0⟩ (fun x => ⟨25, [(0, qp 0), (6, ql 1 (cI .i64) a1), (7, qi (List.length a1 : Int)), (8, qi x.1)]⟩) (fun x => ⟨[[qs x.2.1, qi x.2.2]], []⟩) fun k x => by obtain ⟨v120, v121, v122⟩ := x; rw [go_script_writer_numbers_l1]; exact rgL <| bFL (blL (fun y169 => ⟨25, [(0, qp 0), (6, ql 1 (cI .i64) a1), (7, qi (List.length a1 : Int)), (8, qi v120)]⟩) (fun y169 => ⟨[[qs y169.1, qi y169.2]], []⟩) (fun y169 => bEL fun x171 hx171 => rCL (kPL 0 (x_lidx (c := (cI .i64)) (e := 3) (sz := 1) (b := 8) (tok := .none) hx171) edL) <| bEL fun y173 hE => rgF hE ⟨25, [(0, qp 0), (5, qi x171), (6, ql 1 (cI .i64) a1), (7, qi (List.length a1 : Int)), (8, qi v120), (17, qb y173)]⟩ ⟨[[qs v121, qi v122]], []⟩ (gFL 3 14 (eJ ⟨[0], 1, [], 0⟩) <| eJ ⟨[0], 1, [], 0⟩) <| bFL (bEL fun r174 hr174 => rCL (kCL 1 ⟨[0], 1, [], 0⟩ (go_script_writer_check_ok hr174) edL) <| bEL fun r175 hr175 => bEL fun r176 hr176 => rCNL cl_blockL (kCL 2 ⟨[], 1, [], 0⟩ (ct_Itoa_ok hr175) <| kCL 3 ⟨[0], 1, [], 0⟩ (go_script_writer_word_ok hr176) edL) <| jnL ⟨[0], 1, [], 0⟩) <| bEL fun r177 hr177 => bEL fun r178 hr178 => rCNL cl_blockL (kCL 2 ⟨[], 1, [], 0⟩ (ct_Itoa_ok hr177) <| kCL 3 ⟨[0], 1, [], 0⟩ (go_script_writer_word_ok hr178) edL) <| jnL ⟨[0], 1, [], 0⟩) fun y169 => rgNL cl_loopT fun h => ⟨(IntKind.wrap .i64 (v120 + 1), y169.1, y169.2), h, wk ⟨[0], 1, [], 0⟩⟩) <| b_exitL <| tk_exitL <| bl_exitL <| jnL ⟨[0], 1, [], 0⟩) fun y90 => nJ ⟨[0], 1, [], 0⟩
def go_hash_Hex_l1 (n : Nat) (a0 : (List UInt8)) : Nat → (List Int) → Int → Option (List Int)
 | 0, _, _ => none
 | k + 1, v48, v49 =>
  if (decide (v49 < (List.length a0 : Int))) = true then ((bidx a0 v49).bind fun x65 =>
  (bidx ([48, 49, 50, 51, 52, 53, 54, 55, 56, 57, 97, 98, 99, 100, 101, 102] : List UInt8) (Int.fdiv x65 16)).bind fun x66 =>
  (bidx a0 v49).bind fun x67 =>
  (bidx ([48, 49, 50, 51, 52, 53, 54, 55, 56, 57, 97, 98, 99, 100, 101, 102] : List UInt8) (iand .u8 x67 15)).bind fun x68 =>
  (lapp 1 v48 ([x66, x68] : List Int)).bind fun x69 =>
  go_hash_Hex_l1 n a0 k x69 (IntKind.wrap .i64 (v49 + 1))) else (some v48)
def go_hash_Hex (n : Nat) (a0 : (List UInt8)) : Option (List UInt8) :=
 (go_hash_Hex_l1 n a0 n ([] : List Int) 0).bind fun y35 =>
 some (b2s y35)
theorem go_hash_Hex_ok {n : Nat} {a0 : (List UInt8)} {r : (List UInt8)} : go_hash_Hex n a0 = some r → AC mx 173 [qs a0] [] (qs r) [] := by
 delta go_hash_Hex
 exact fnL Tryz.func173 rfl <| rgL <| rgL <| rgL <| blL (fun y35 => ⟨26, [(3, .sl 1 (List.map (cI .u8) y35) (.fam 0 (List.length y35)))]⟩) (fun y35 => ⟨[], [List.length y35]⟩) (fun y35 => b_wkL (wk (fr' := ⟨26, [(0, qs a0), (3, qn), (4, qi 0)]⟩) (st' := ⟨[], []⟩) ⟨[], 0, [], 0⟩) <| b_wkL Wk.nilFam <| lpL (fun k x => go_hash_Hex_l1 n a0 k x.1 x.2) (([] : List Int), 0) ⟨[], 0, [0], 1⟩ (fun x => ⟨26, [(0, qs a0), (3, .sl 1 (List.map (cI .u8) x.1) (.fam 0 (List.length x.1))), (4, qi x.2)]⟩) (fun x => ⟨[], [List.length x.1]⟩) fun k x => by obtain ⟨v48, v49⟩ := x; rw [go_hash_Hex_l1]; exact rgL <| bFL (b_blockL <| bEL fun x65 hx65 => bEL fun x66 hx66 => bEL fun x67 hx67 => bEL fun x68 hx68 => bEL fun x69 hx69 => lfL (fun z => zmN cl_cons [0, 1, 2, 3, 4, 5, 6, 7, 8, 9, 10, 11, 12, 13] [12, 13] [[], [], [], [1, 2], [1, 2, 3], [1, 2, 3, 4], [], [], [6, 7], [6, 7, 8], [6, 7, 8, 9], [1, 2, 3, 4, 5, 6, 7, 8, 9, 10], [0, 1, 2, 3, 4, 5, 6, 7, 8, 9, 10, 11], [0, 1, 2, 3, 4, 5, 6, 7, 8, 9, 10, 11, 12]] [] [(0, qs a0), (3, .sl 1 (List.map (cI .u8) x69) (.fam 0 (List.length x69))), (4, qi v49)] ⟨[], [List.length x69]⟩ (dS [0, 1, 2] <| dP (x_bidx hx65) <| dS [4] <| dP (x_bidx hx66) <| dS [6, 7] <| dP (x_bidx hx67) <| dS [9] <| dP (x_bidx hx68) <| dS [11] <| dA (fxCons 10 (x_bidx hx68) (fxCons 8 (x_bidx hx67) (fxCons 5 (x_bidx hx66) (fxCons 3 (x_bidx hx65) fxNil)))) 0 (cI .u8) (e := 5) (e2 := 5) (sz := 1) (bytes := 1) (b2 := 1) (tok2 := .exact) hx69 <| dF (fxCons 10 (x_bidx hx68) (fxCons 8 (x_bidx hx67) (fxCons 5 (x_bidx hx66) (fxCons 3 (x_bidx hx65) fxNil)))) <| dE ⟨[], 0, [0], 1⟩) z) <| bk_normL <| rgNL cl_loopT fun h => ⟨(x69, IntKind.wrap .i64 (v49 + 1)), h, wk ⟨[], 0, [0], 1⟩⟩) <| b_exitL <| tk_exitL <| bl_exitL <| jnL ⟨[], 0, [0], 1⟩) fun y35 => rCL (lfL (fun z => kB 1 y35 z) edL) <| b_retL <| rJ ⟨[], 0, [], 1⟩
def go_script_writer_hex (n : Nat) (a1 : (List UInt8)) (m0 : T_script_writer) : Option T_script_writer :=
 if (a1 == ([] : List UInt8)) = true then ((go_script_writer_word n ([45] : List UInt8) m0).bind fun r1 =>
 some r1) else ((go_hash_Hex n a1).bind fun r2 =>
 (go_script_writer_word n r2 m0).bind fun r3 =>
 some r3)
theorem go_script_writer_hex_ok {n : Nat} {a1 : (List UInt8)} {m0 : T_script_writer} {r : T_script_writer} : go_script_writer_hex n a1 m0 = some r → AC mx 80 [qp 0, qs a1] [T_script_writer.cells m0] (.tuple []) [T_script_writer.cells r] := by
 delta go_script_writer_hex
 exact fnL Tryz.func80 rfl <| rgL <| bFL (bEL fun r1 hr1 => rCNL cl_body (kCL 1 ⟨[0], 1, [], 0⟩ (go_script_writer_word_ok hr1) edL) <| nJ ⟨[0], 1, [], 0⟩) <| bEL fun r2 hr2 => bEL fun r3 hr3 => rCNL cl_body (kCL 2 ⟨[], 1, [], 0⟩ (go_hash_Hex_ok hr2) <| kCL 3 ⟨[0], 1, [], 0⟩ (go_script_writer_word_ok hr3) edL) <| nJ ⟨[0], 1, [], 0⟩
def go_script_writer_end (n : Nat) (m0 : T_script_writer) : Option ((List UInt8) × Int × T_script_writer) :=
 if (m0.f_e != 0) = true then (some (([] : List UInt8), m0.f_e, m0)) else ((sadd m0.f_line ([10] : List UInt8)).bind fun x1 =>
 some (x1, 0, m0))
theorem go_script_writer_end_ok {n : Nat} {m0 : T_script_writer} {r : ((List UInt8) × Int × T_script_writer)} : go_script_writer_end n m0 = some r → AC mx 83 [qp 0] [T_script_writer.cells m0] (.tuple [qs r.1, qi r.2.1]) [T_script_writer.cells r.2.2] := by
 delta go_script_writer_end
 exact fnL Tryz.func83 rfl <| rgL <| rgL <| bFL (lfL (fun z => zs [0, 1, 2, 3, 4, 5] [] [[], [0], [0, 1], [0, 1, 2], [], [0, 1, 2, 3, 4]] [2] [(3, qi m0.f_e)] (dS [0, 1, 2, 3, 4, 5] <| dE ⟨[0], 1, [], 0⟩) z) <| b_retL <| rJ ⟨[0], 1, [], 0⟩) <| bEL fun x1 hx1 => rCL (kPL 4 (x_sadd (d := (tyT 9).d) hx1) edL) <| b_retL <| rJ ⟨[0], 1, [], 0⟩
def go_script_settings (n : Nat) (a0 : T_api_Settings) : Option ((List UInt8) × Int) :=
 (go_dname_Format n (T_api_Name.mk a0.f_Name.f_RDNs)).bind fun r1 =>
 if (r1.2 != 0) = true then (some (([] : List UInt8), r1.2)) else (if ((List.length a0.f_Name.f_RDNs : Int) == 0) = true then (some (([] : List UInt8), 14)) else (if ((List.length a0.f_Seed : Int) != 32) = true then (some (([] : List UInt8), 18)) else ((go_script_writer_word n ([97, 117, 116, 104, 111, 114, 105, 116, 121] : List UInt8) (T_script_writer.mk ([] : List UInt8) 0)).bind fun r2 =>
 (go_script_writer_numbers n ([a0.f_Height, a0.f_First] : List Int) r2).bind fun r3 =>
 (go_script_writer_hex n a0.f_Seed r3).bind fun r4 =>
 if (decide ((List.length a0.f_Points : Int) > 0)) = true then (none) else ((go_script_writer_hex n ([] : List UInt8) r4).bind fun r5 =>
 (go_script_writer_word n r1.1 r5).bind fun r6 =>
 (go_script_writer_end n r6).bind fun r7 =>
 some (r7.1, r7.2.1)))))
theorem go_script_settings_ok {n : Nat} {a0 : T_api_Settings} {r : ((List UInt8) × Int)} : go_script_settings n a0 = some r → AC mx 33 [.agg [ql 1 (cL 3 T_api_Attribute.cells) a0.f_Name.f_RDNs, qs a0.f_Seed, qi a0.f_Height, qi a0.f_First, ql 4 T_api_Point.cells a0.f_Points]] [] (.tuple [qs r.1, qi r.2]) [] := by
 delta go_script_settings
 exact fnL Tryz.func33 rfl <| rgL <| bEL fun r1 hr1 => rCL (kCL 2 ⟨[], 1, [], 0⟩ (go_dname_Format_ok hr1) edL) <| b_blockL <| rgL <| bFL (rgL <| b_retL <| bk_retL <| rJ ⟨[], 1, [], 0⟩) <| rCL (kPL 3 (x_len (c := (cL 3 T_api_Attribute.cells)) (l := a0.f_Name.f_RDNs) (e := 83) (sz := 1) (sz' := 1) (b := 24) (tok := .none)) edL) <| bFL (rgL <| b_retL <| bk_retL <| rJ ⟨[], 1, [], 0⟩) <| rgL <| bFL (rgL <| b_retL <| bk_retL <| rJ ⟨[], 1, [], 0⟩) <| bk_normL <| rgL <| bEL fun r2 hr2 => rCL (kCL 0 ⟨[1], 2, [], 0⟩ (go_script_writer_word_ok hr2) edL) <| bEL fun r3 hr3 => rCL (kCL 5 ⟨[1], 2, [], 0⟩ (go_script_writer_numbers_ok hr3) edL) <| bEL fun r4 hr4 => rCL (kCL 2 ⟨[1], 2, [], 0⟩ (go_script_writer_hex_ok hr4) edL) <| rgL <| rCL (kPL 2 (x_len (c := T_api_Point.cells) (l := a0.f_Points) (e := 118) (sz := 4) (sz' := 4) (b := 64) (tok := .none)) edL) <| bFL nEL <| bEL fun r5 hr5 => rCL (kCL 1 ⟨[1], 2, [], 0⟩ (go_script_writer_hex_ok hr5) edL) <| bEL fun r6 hr6 => rCL (kCL 1 ⟨[1], 2, [], 0⟩ (go_script_writer_word_ok hr6) edL) <| bEL fun r7 hr7 => rCL (kCL 0 ⟨[1], 2, [], 0⟩ (go_script_writer_end_ok hr7) edL) <| b_retL <| rJ ⟨[], 2, [], 0⟩
def go_script_writer_optional (n : Nat) (a1 : Int) (m0 : T_script_writer) : Option T_script_writer :=
 if (a1 == (-1)) = true then ((go_script_writer_word n ([45] : List UInt8) m0).bind fun r1 =>
 some r1) else ((go_script_writer_numbers n ([a1] : List Int) m0).bind fun r2 =>
 some r2)
theorem go_script_writer_optional_ok {n : Nat} {a1 : Int} {m0 : T_script_writer} {r : T_script_writer} : go_script_writer_optional n a1 m0 = some r → AC mx 183 [qp 0, qi a1] [T_script_writer.cells m0] (.tuple []) [T_script_writer.cells r] := by
 delta go_script_writer_optional
 exact fnL Tryz.func183 rfl <| rgL <| bFL (bEL fun r1 hr1 => rCNL cl_body (kCL 1 ⟨[0], 1, [], 0⟩ (go_script_writer_word_ok hr1) edL) <| nJ ⟨[0], 1, [], 0⟩) <| bEL fun r2 hr2 => rCNL cl_body (kCL 3 ⟨[0], 1, [], 0⟩ (go_script_writer_numbers_ok hr2) edL) <| nJ ⟨[0], 1, [], 0⟩
def go_script_writer_act (n : Nat) (a1 : T_api_Act) (m0 : T_script_writer) : Option (T_api_Act × T_script_writer) :=
 (if (a1.f_Kind == 1) = true then (none) else (if (a1.f_Kind == 2) = true then ((go_script_writer_word n ([114, 101, 110, 101, 119] : List UInt8) m0).bind fun r63 =>
 (go_script_writer_numbers n ([a1.f_Time, a1.f_Until, a1.f_Serial] : List Int) r63).bind fun r64 =>
 some (r64.f_line, r64.f_e, a1.f_Until, ([] : List UInt8), a1.f_Serial, 0, 0, 0, 0, 0, false)) else (if (a1.f_Kind == 3) = true then ((go_script_writer_word n ([114, 101, 107, 101, 121] : List UInt8) m0).bind fun r65 =>
 (go_script_writer_numbers n ([a1.f_Time, a1.f_Until] : List Int) r65).bind fun r66 =>
 some (r66.f_line, r66.f_e, a1.f_Until, ([] : List UInt8), 0, 0, 0, 0, 0, 0, false)) else (if (a1.f_Kind == 4) = true then ((go_script_writer_word n ([114, 101, 118, 111, 107, 101] : List UInt8) m0).bind fun r67 =>
 (go_script_writer_numbers n ([a1.f_Time, a1.f_Serial, a1.f_Reason] : List Int) r67).bind fun r68 =>
 (go_script_writer_optional n a1.f_Invalid r68).bind fun r69 =>
 some (r69.f_line, r69.f_e, 0, ([] : List UInt8), a1.f_Serial, a1.f_Reason, a1.f_Invalid, 0, 0, 0, false)) else (if (a1.f_Kind == 5) = true then ((go_script_writer_word n ([114, 101, 108, 101, 97, 115, 101] : List UInt8) m0).bind fun r70 =>
 (go_script_writer_numbers n ([a1.f_Time, a1.f_Serial] : List Int) r70).bind fun r71 =>
 some (r71.f_line, r71.f_e, 0, ([] : List UInt8), a1.f_Serial, 0, 0, 0, 0, 0, false)) else (if (a1.f_Kind == 6) = true then ((go_script_writer_word n ([112, 117, 98, 108, 105, 115, 104] : List UInt8) m0).bind fun r72 =>
 (go_script_writer_numbers n ([a1.f_Time, a1.f_Until] : List Int) r72).bind fun r73 =>
 (go_script_writer_optional n a1.f_Part r73).bind fun r74 =>
 (go_script_writer_numbers n ([a1.f_Class] : List Int) r74).bind fun r75 =>
 (go_script_writer_optional n a1.f_Base r75).bind fun r76 =>
 if a1.f_Foreign = true then ((go_script_writer_word n ([102, 111, 114, 101, 105, 103, 110] : List UInt8) r76).bind fun r77 =>
 some (r77.f_line, r77.f_e, a1.f_Until, ([] : List UInt8), 0, 0, 0, a1.f_Part, a1.f_Class, a1.f_Base, a1.f_Foreign)) else ((go_script_writer_word n ([111, 119, 110] : List UInt8) r76).bind fun r78 =>
 some (r78.f_line, r78.f_e, a1.f_Until, ([] : List UInt8), 0, 0, 0, a1.f_Part, a1.f_Class, a1.f_Base, a1.f_Foreign))) else (if (a1.f_Kind == 7) = true then ((go_script_writer_word n ([97, 100, 111, 112, 116] : List UInt8) m0).bind fun r79 =>
 (go_script_writer_numbers n ([a1.f_Time] : List Int) r79).bind fun r80 =>
 (go_script_writer_hex n a1.f_Data r80).bind fun r81 =>
 some (r81.f_line, r81.f_e, 0, a1.f_Data, 0, 0, 0, 0, 0, 0, false)) else ((go_script_writer_check n 1 m0).bind fun r82 =>
 some (r82.f_line, r82.f_e, 0, ([] : List UInt8), 0, 0, 0, 0, 0, 0, false))))))))).bind fun y58 =>
 some ((T_api_Act.mk a1.f_Kind a1.f_Time y58.2.2.1 y58.2.2.2.1 (T_api_Info.mk false false 0 0 ([] : (List (List UInt8))) ([] : (List (List UInt8))) ([] : (List T_api_Mapping)) 0 0 0 ([] : (List T_api_GeneralName)) false (T_api_Subtrees.mk ([] : (List T_api_GeneralName)) ([] : (List T_api_GeneralName))) ([] : List UInt8) ([] : List UInt8) ([] : (List T_api_Point)) ([] : (List T_api_Point)) ([] : (List T_api_Extension))) y58.2.2.2.2.1 y58.2.2.2.2.2.1 y58.2.2.2.2.2.2.1 y58.2.2.2.2.2.2.2.1 y58.2.2.2.2.2.2.2.2.1 y58.2.2.2.2.2.2.2.2.2.1 y58.2.2.2.2.2.2.2.2.2.2), (T_script_writer.mk y58.1 y58.2.1))
theorem go_script_writer_act_ok {n : Nat} {a1 : T_api_Act} {m0 : T_script_writer} {r : (T_api_Act × T_script_writer)} : go_script_writer_act n a1 m0 = some r → AC mx 85 [qp 0, .agg (T_api_Act.cells a1)] [T_script_writer.cells m0] (.agg (T_api_Act.cells r.1)) [T_script_writer.cells r.2] := by
 delta go_script_writer_act
 exact fnL Tryz.func85 rfl <| rgL <| rgL <| rgL <| blL (fun y58 => ⟨188, [(4, qp 1), (5, qp 2)]⟩) (fun y58 => ⟨[[qs y58.1, qi y58.2.1], [qi 0, qi 0, qi 0, qs ([] : List UInt8), qb false, qb false, qi 0, qi 0, qn, qn, qn, qi 0, qi 0, qi 0, qn, qb false, qn, qn, qs ([] : List UInt8), qs ([] : List UInt8), qn, qn, qn, qi 0, qi 0, qi 0, qi 0, qi 0, qi 0, qb false], [qi a1.f_Kind, qi a1.f_Time, qi y58.2.2.1, qs y58.2.2.2.1, qb false, qb false, qi 0, qi 0, qn, qn, qn, qi 0, qi 0, qi 0, qn, qb false, qn, qn, qs ([] : List UInt8), qs ([] : List UInt8), qn, qn, qn, qi y58.2.2.2.2.1, qi y58.2.2.2.2.2.1, qi y58.2.2.2.2.2.2.1, qi y58.2.2.2.2.2.2.2.1, qi y58.2.2.2.2.2.2.2.2.1, qi y58.2.2.2.2.2.2.2.2.2.1, qb y58.2.2.2.2.2.2.2.2.2.2]], []⟩) (fun y58 => rgL <| bFL nEL <| rgL <| bFL (lfL (fun z => zm [0, 1, 2, 3, 4, 5, 6, 7] [5, 7] [[], [0], [], [2], [0, 1], [0, 1, 4], [0, 1, 2, 3, 4, 5], [0, 1, 2, 3, 4, 5, 6]] [] [(0, qp 0), (3, qp 1), (4, qp 2), (5, qp 3)] ⟨[T_script_writer.cells m0, T_api_Act.cells a1, [qi 0, qi 0, qi 0, qs ([] : List UInt8), qb false, qb false, qi 0, qi 0, qn, qn, qn, qi 0, qi 0, qi 0, qn, qb false, qn, qn, qs ([] : List UInt8), qs ([] : List UInt8), qn, qn, qn, qi 0, qi 0, qi 0, qi 0, qi 0, qi 0, qb false], [qi a1.f_Kind, qi a1.f_Time, qi a1.f_Until, qs ([] : List UInt8), qb false, qb false, qi 0, qi 0, qn, qn, qn, qi 0, qi 0, qi 0, qn, qb false, qn, qn, qs ([] : List UInt8), qs ([] : List UInt8), qn, qn, qn, qi a1.f_Serial, qi 0, qi 0, qi 0, qi 0, qi 0, qb false]], []⟩ (dS [0, 1, 2, 3, 4] <| dF fxNil <| dS [6] <| dF fxNil <| dE ⟨[0, 1, 2, 3], 4, [], 0⟩) z) <| bEL fun r63 hr63 => rCL (kCL 1 ⟨[0], 4, [], 0⟩ (go_script_writer_word_ok hr63) edL) <| bEL fun r64 hr64 => rCNL cl_blockL (kCL 8 ⟨[0], 4, [], 0⟩ (go_script_writer_numbers_ok hr64) edL) <| jnL ⟨[0, 2, 3], 4, [], 0⟩) <| rgL <| bFL (rgL <| bEL fun r65 hr65 => rCL (kCL 1 ⟨[0], 4, [], 0⟩ (go_script_writer_word_ok hr65) edL) <| bEL fun r66 hr66 => rCNL cl_blockL (kCL 6 ⟨[0], 4, [], 0⟩ (go_script_writer_numbers_ok hr66) edL) <| jnL ⟨[0, 2, 3], 4, [], 0⟩) <| rgL <| bFL (lfL (fun z => zm [0, 1, 2, 3, 4, 5, 6, 7, 8, 9, 10, 11] [7, 9, 11] [[], [0], [], [2], [], [4], [0, 1], [0, 1, 6], [0, 1, 2, 3, 6, 7], [0, 1, 2, 3, 6, 7, 8], [0, 1, 2, 3, 4, 5, 6, 7, 8, 9], [0, 1, 2, 3, 4, 5, 6, 7, 8, 9, 10]] [] [(0, qp 0), (3, qp 1), (4, qp 2), (5, qp 3)] ⟨[T_script_writer.cells m0, T_api_Act.cells a1, [qi 0, qi 0, qi 0, qs ([] : List UInt8), qb false, qb false, qi 0, qi 0, qn, qn, qn, qi 0, qi 0, qi 0, qn, qb false, qn, qn, qs ([] : List UInt8), qs ([] : List UInt8), qn, qn, qn, qi 0, qi 0, qi 0, qi 0, qi 0, qi 0, qb false], [qi a1.f_Kind, qi a1.f_Time, qi 0, qs ([] : List UInt8), qb false, qb false, qi 0, qi 0, qn, qn, qn, qi 0, qi 0, qi 0, qn, qb false, qn, qn, qs ([] : List UInt8), qs ([] : List UInt8), qn, qn, qn, qi a1.f_Serial, qi a1.f_Reason, qi a1.f_Invalid, qi 0, qi 0, qi 0, qb false]], []⟩ (dS [0, 1, 2, 3, 4, 5, 6] <| dF fxNil <| dS [8] <| dF fxNil <| dS [10] <| dF fxNil <| dE ⟨[0, 1, 2, 3], 4, [], 0⟩) z) <| bEL fun r67 hr67 => rCL (kCL 1 ⟨[0], 4, [], 0⟩ (go_script_writer_word_ok hr67) edL) <| bEL fun r68 hr68 => rCL (kCL 8 ⟨[0], 4, [], 0⟩ (go_script_writer_numbers_ok hr68) edL) <| bEL fun r69 hr69 => rCNL cl_blockL (kCL 3 ⟨[0], 4, [], 0⟩ (go_script_writer_optional_ok hr69) edL) <| jnL ⟨[0, 2, 3], 4, [], 0⟩) <| rgL <| bFL (rgL <| bEL fun r70 hr70 => rCL (kCL 1 ⟨[0], 4, [], 0⟩ (go_script_writer_word_ok hr70) edL) <| bEL fun r71 hr71 => rCNL cl_blockL (kCL 6 ⟨[0], 4, [], 0⟩ (go_script_writer_numbers_ok hr71) edL) <| jnL ⟨[0, 2, 3], 4, [], 0⟩) <| rgL <| bFL (lfL (fun z => zm [0, 1, 2, 3, 4, 5, 6, 7, 8, 9, 10, 11, 12, 13, 14, 15, 16, 17, 18, 19] [11, 13, 15, 17, 19] [[], [0], [], [2], [], [4], [], [6], [], [8], [0, 1], [0, 1, 10], [0, 1, 2, 3, 10, 11], [0, 1, 2, 3, 10, 11, 12], [0, 1, 2, 3, 4, 5, 10, 11, 12, 13], [0, 1, 2, 3, 4, 5, 10, 11, 12, 13, 14], [0, 1, 2, 3, 4, 5, 6, 7, 10, 11, 12, 13, 14, 15], [0, 1, 2, 3, 4, 5, 6, 7, 10, 11, 12, 13, 14, 15, 16], [0, 1, 2, 3, 4, 5, 6, 7, 8, 9, 10, 11, 12, 13, 14, 15, 16, 17], [0, 1, 2, 3, 4, 5, 6, 7, 8, 9, 10, 11, 12, 13, 14, 15, 16, 17, 18]] [] [(0, qp 0), (3, qp 1), (4, qp 2), (5, qp 3)] ⟨[T_script_writer.cells m0, T_api_Act.cells a1, [qi 0, qi 0, qi 0, qs ([] : List UInt8), qb false, qb false, qi 0, qi 0, qn, qn, qn, qi 0, qi 0, qi 0, qn, qb false, qn, qn, qs ([] : List UInt8), qs ([] : List UInt8), qn, qn, qn, qi 0, qi 0, qi 0, qi 0, qi 0, qi 0, qb false], [qi a1.f_Kind, qi a1.f_Time, qi a1.f_Until, qs ([] : List UInt8), qb false, qb false, qi 0, qi 0, qn, qn, qn, qi 0, qi 0, qi 0, qn, qb false, qn, qn, qs ([] : List UInt8), qs ([] : List UInt8), qn, qn, qn, qi 0, qi 0, qi 0, qi a1.f_Part, qi a1.f_Class, qi a1.f_Base, qb a1.f_Foreign]], []⟩ (dS [0, 1, 2, 3, 4, 5, 6, 7, 8, 9, 10] <| dF fxNil <| dS [12] <| dF fxNil <| dS [14] <| dF fxNil <| dS [16] <| dF fxNil <| dS [18] <| dF fxNil <| dE ⟨[0, 1, 2, 3], 4, [], 0⟩) z) <| bEL fun r72 hr72 => rCL (kCL 1 ⟨[0], 4, [], 0⟩ (go_script_writer_word_ok hr72) edL) <| bEL fun r73 hr73 => rCL (kCL 6 ⟨[0], 4, [], 0⟩ (go_script_writer_numbers_ok hr73) edL) <| bEL fun r74 hr74 => rCL (kCL 3 ⟨[0], 4, [], 0⟩ (go_script_writer_optional_ok hr74) edL) <| bEL fun r75 hr75 => rCL (kCL 4 ⟨[0], 4, [], 0⟩ (go_script_writer_numbers_ok hr75) edL) <| bEL fun r76 hr76 => rCL (kCL 3 ⟨[0], 4, [], 0⟩ (go_script_writer_optional_ok hr76) edL) <| rgL <| bFL (bEL fun r77 hr77 => rCNL cl_blockL (kCL 1 ⟨[0], 4, [], 0⟩ (go_script_writer_word_ok hr77) edL) <| jnL ⟨[0, 2, 3], 4, [], 0⟩) <| bEL fun r78 hr78 => rCNL cl_blockL (kCL 1 ⟨[0], 4, [], 0⟩ (go_script_writer_word_ok hr78) edL) <| jnL ⟨[0, 2, 3], 4, [], 0⟩) <| rgL <| bFL (rgL <| bEL fun r79 hr79 => rCL (kCL 1 ⟨[0], 4, [], 0⟩ (go_script_writer_word_ok hr79) edL) <| bEL fun r80 hr80 => rCL (kCL 4 ⟨[0], 4, [], 0⟩ (go_script_writer_numbers_ok hr80) edL) <| bEL fun r81 hr81 => rCNL cl_blockL (kCL 3 ⟨[0], 4, [], 0⟩ (go_script_writer_hex_ok hr81) edL) <| jnL ⟨[0, 2, 3], 4, [], 0⟩) <| bEL fun r82 hr82 => rCNL cl_blockL (kCL 1 ⟨[0], 4, [], 0⟩ (go_script_writer_check_ok hr82) edL) <| jnL ⟨[0, 2, 3], 4, [], 0⟩) fun y58 => rgL <| b_retL <| rJ ⟨[0], 3, [], 0⟩
def go_record_Writer_Int_l1 (n : Nat) : Nat → Int → (List Int) → Option (Int × (List Int))
 | 0, _, _ => none
 | k + 1, v18, v19 =>
  if (decide (v18 ≥ 128)) = true then ((lapp 1 v19 ([ior .u8 (IntKind.wrap .u8 v18) 128] : List Int)).bind fun x23 =>
  go_record_Writer_Int_l1 n k (Int.fdiv v18 128) x23) else (some (v18, v19))
def go_record_Writer_Int (n : Nat) (a1 : Int) (m0 : T_record_Writer) : Option T_record_Writer :=
 (if (decide (a1 < 0)) = true then (some (ixor .u64 18446744073709551615 (IntKind.wrap .u64 ((IntKind.wrap .u64 a1) * 2)))) else (some (IntKind.wrap .u64 ((IntKind.wrap .u64 a1) * 2)))).bind fun y2 =>
 (go_record_Writer_Int_l1 n  n y2 m0.f_b).bind fun y14 =>
 (lapp 1 y14.2 ([IntKind.wrap .u8 y14.1] : List Int)).bind fun x24 =>
 some (T_record_Writer.mk x24)
theorem go_record_Writer_Int_ok {n : Nat} {a1 : Int} {m0 : T_record_Writer} {r : T_record_Writer} : go_record_Writer_Int n a1 m0 = some r → ACg mx 528 [qp 0, qi a1] [[.sl 1 (List.map (cI .u8) m0.f_b) (.fam 0 (List.length m0.f_b))]] [List.length m0.f_b] (.tuple []) [[.sl 1 (List.map (cI .u8) r.f_b) (.fam 0 (List.length r.f_b))]] [List.length r.f_b] := by
 delta go_record_Writer_Int
 exact fnL Tryz.func528 rfl <| rgL <| rgL <| cuL (fun y2 => ⟨39, [(0, qp 0), (4, .int .u64 y2)]⟩) (fun y2 => ⟨[[.sl 1 (List.map (cI .u8) m0.f_b) (.fam 0 (List.length m0.f_b))]], [List.length m0.f_b]⟩) (fun y2 => bFL (rgNL cl_loopT <| jnL ⟨[0], 1, [0], 1⟩) <| jnL ⟨[0], 1, [0], 1⟩) fun y2 => blL (fun y14 => ⟨39, [(0, qp 0), (4, .int .u64 y14.1)]⟩) (fun y14 => ⟨[[.sl 1 (List.map (cI .u8) y14.2) (.fam 0 (List.length y14.2))]], [List.length y14.2]⟩) (fun y14 => lpL (fun k x => go_record_Writer_Int_l1 n  k x.1 x.2) (y2, m0.f_b) ⟨[0], 1, [0], 1⟩ (fun x => ⟨39, [(0, qp 0), (4, .int .u64 x.1)]⟩) (fun x => ⟨[[.sl 1 (List.map (cI .u8) x.2) (.fam 0 (List.length x.2))]], [List.length x.2]⟩) fun k x => by obtain ⟨v18, v19⟩ := x; rw [go_record_Writer_Int_l1]; exact rgL <| bFL (b_blockL <| bEL fun x23 hx23 => rCNL cl_cons (lfL (fun z => kA 9 0 (cI .u8) (e := 5) (e2 := 5) (sz := 1) (bytes := 1) (b2 := 1) (tok2 := .exact) hx23 z) edL) <| bk_normL <| rgNL cl_loopT fun h => ⟨(Int.fdiv v18 128, x23), h, wk ⟨[0], 1, [0], 1⟩⟩) <| b_exitL <| tk_exitL <| bl_exitL <| jnL ⟨[0], 1, [0], 1⟩) fun y14 => bEL fun x24 hx24 => rCNL cl_body (lfL (fun z => kA 8 0 (cI .u8) (e := 5) (e2 := 5) (sz := 1) (bytes := 1) (b2 := 1) (tok2 := .exact) hx24 z) edL) <| nJ ⟨[0], 1, [0], 1⟩
def go_record_Writer_Bool (n : Nat) (a1 : Bool) (m0 : T_record_Writer) : Option T_record_Writer :=
 if a1 = true then ((go_record_Writer_Int n 1 m0).bind fun r1 =>
 some r1) else ((go_record_Writer_Int n 0 m0).bind fun r2 =>
 some r2)
theorem go_record_Writer_Bool_ok {n : Nat} {a1 : Bool} {m0 : T_record_Writer} {r : T_record_Writer} : go_record_Writer_Bool n a1 m0 = some r → ACg mx 484 [qp 0, qb a1] [[.sl 1 (List.map (cI .u8) m0.f_b) (.fam 0 (List.length m0.f_b))]] [List.length m0.f_b] (.tuple []) [[.sl 1 (List.map (cI .u8) r.f_b) (.fam 0 (List.length r.f_b))]] [List.length r.f_b] := by
 delta go_record_Writer_Bool
 exact fnL Tryz.func484 rfl <| rgL <| bFL (bEL fun r1 hr1 => rCNL cl_body (kCL 1 ⟨[0], 1, [0], 1⟩ (go_record_Writer_Int_ok hr1) edL) <| nJ ⟨[0], 1, [0], 1⟩) <| bEL fun r2 hr2 => rCNL cl_body (kCL 1 ⟨[0], 1, [0], 1⟩ (go_record_Writer_Int_ok hr2) edL) <| nJ ⟨[0], 1, [0], 1⟩
def go_record_Writer_Ints_l1 (n : Nat) (a1 : (List Int)) : Nat → Int → (List Int) → Option (List Int)
 | 0, _, _ => none
 | k + 1, v22, v23 =>
  if (decide (v22 < (List.length a1 : Int))) = true then ((lidx a1 v22).bind fun x30 =>
  (go_record_Writer_Int n x30 (T_record_Writer.mk v23)).bind fun r31 =>
  go_record_Writer_Ints_l1 n a1 k (IntKind.wrap .i64 (v22 + 1)) r31.f_b) else (some v23)
def go_record_Writer_Ints (n : Nat) (a1 : (List Int)) (m0 : T_record_Writer) : Option T_record_Writer :=
 (go_record_Writer_Ints_l1 n a1 n 0 m0.f_b).bind fun y16 =>
 some (T_record_Writer.mk y16)
theorem go_record_Writer_Ints_ok {n : Nat} {a1 : (List Int)} {m0 : T_record_Writer} {r : T_record_Writer} : go_record_Writer_Ints n a1 m0 = some r → ACg mx 485 [qp 0, ql 1 (cI .i64) a1] [[.sl 1 (List.map (cI .u8) m0.f_b) (.fam 0 (List.length m0.f_b))]] [List.length m0.f_b] (.tuple []) [[.sl 1 (List.map (cI .u8) r.f_b) (.fam 0 (List.length r.f_b))]] [List.length r.f_b] := by
 delta go_record_Writer_Ints
 exact fnL Tryz.func485 rfl <| rCL (kPL 1 (x_len (c := (cI .i64)) (l := a1) (e := 3) (sz := 1) (sz' := 1) (b := 8) (tok := .none)) edL) <| blNL cl_body (fun y16 => ⟨16, []⟩) (fun y16 => ⟨[[.sl 1 (List.map (cI .u8) y16) (.fam 0 (List.length y16))]], [List.length y16]⟩) (fun y16 => lpL (fun k x => go_record_Writer_Ints_l1 n a1 k x.1 x.2) (0, m0.f_b) ⟨[0], 1, [0], 1⟩ (fun x => ⟨16, [(0, qp 0), (6, ql 1 (cI .i64) a1), (7, qi (List.length a1 : Int)), (8, qi x.1)]⟩) (fun x => ⟨[[.sl 1 (List.map (cI .u8) x.2) (.fam 0 (List.length x.2))]], [List.length x.2]⟩) fun k x => by obtain ⟨v22, v23⟩ := x; rw [go_record_Writer_Ints_l1]; exact rgL <| bFL (b_blockL <| bEL fun x30 hx30 => rCL (kPL 0 (x_lidx (c := (cI .i64)) (e := 3) (sz := 1) (b := 8) (tok := .none) hx30) edL) <| bEL fun r31 hr31 => rCNL cl_cons (kCL 2 ⟨[0], 1, [0], 1⟩ (go_record_Writer_Int_ok hr31) edL) <| bk_normL <| rgNL cl_loopT fun h => ⟨(IntKind.wrap .i64 (v22 + 1), r31.f_b), h, wk ⟨[0], 1, [0], 1⟩⟩) <| b_exitL <| tk_exitL <| bl_exitL <| jnL ⟨[0], 1, [0], 1⟩) fun y16 => nJ ⟨[0], 1, [0], 1⟩
def go_record_Writer_String (n : Nat) (a1 : (List UInt8)) (m0 : T_record_Writer) : Option T_record_Writer :=
 (go_record_Writer_Int n (List.length a1 : Int) m0).bind fun r1 =>
 (lappS 1 r1.f_b a1).bind fun x2 =>
 some (T_record_Writer.mk x2)
theorem go_record_Writer_String_ok {n : Nat} {a1 : (List UInt8)} {m0 : T_record_Writer} {r : T_record_Writer} : go_record_Writer_String n a1 m0 = some r → ACg mx 489 [qp 0, qs a1] [[.sl 1 (List.map (cI .u8) m0.f_b) (.fam 0 (List.length m0.f_b))]] [List.length m0.f_b] (.tuple []) [[.sl 1 (List.map (cI .u8) r.f_b) (.fam 0 (List.length r.f_b))]] [List.length r.f_b] := by
 delta go_record_Writer_String
 exact fnL Tryz.func489 rfl <| bEL fun r1 hr1 => rCL (kCL 3 ⟨[0], 1, [0], 1⟩ (go_record_Writer_Int_ok hr1) edL) <| bEL fun x2 hx2 => rCNL cl_body (lfL (fun z => kT 6 1 1 0 (x_appS (T := tyT) (l := r1.f_b) (s := a1) (e := 5) (bytes := 1) (by kernel_rfl) hx2) z) edL) <| nJ ⟨[0], 1, [0], 1⟩
def go_record_write_string_l1 (n : Nat) (a1 : (List (List UInt8))) : Nat → Int → (List Int) → Option (List Int)
 | 0, _, _ => none
 | k + 1, v23, v24 =>
  if (decide (v23 < (List.length a1 : Int))) = true then ((lidx a1 v23).bind fun x31 =>
  (go_record_Writer_String n x31 (T_record_Writer.mk v24)).bind fun r32 =>
  go_record_write_string_l1 n a1 k (IntKind.wrap .i64 (v23 + 1)) r32.f_b) else (some v24)
def go_record_write_string (n : Nat) (a1 : (List (List UInt8))) (m0 : T_record_Writer) : Option T_record_Writer :=
 (go_record_Writer_Int n (List.length a1 : Int) m0).bind fun r1 =>
 (go_record_write_string_l1 n a1 n 0 r1.f_b).bind fun y17 =>
 some (T_record_Writer.mk y17)
theorem go_record_write_string_ok {n : Nat} {a1 : (List (List UInt8))} {m0 : T_record_Writer} {r : T_record_Writer} : go_record_write_string n a1 m0 = some r → ACg mx 529 [qp 0, ql 1 cS a1, .func (.func 489) [qp 0] []] [[.sl 1 (List.map (cI .u8) m0.f_b) (.fam 0 (List.length m0.f_b))]] [List.length m0.f_b] (.tuple []) [[.sl 1 (List.map (cI .u8) r.f_b) (.fam 0 (List.length r.f_b))]] [List.length r.f_b] := by
 delta go_record_write_string
 exact fnL Tryz.func529 rfl <| bEL fun r1 hr1 => rCL (kPL 2 (x_len (c := cS) (l := a1) (e := 9) (sz := 1) (sz' := 1) (b := 16) (tok := .none)) <| kCL 3 ⟨[0], 1, [0], 1⟩ (go_record_Writer_Int_ok hr1) edL) <| rCL (kPL 1 (x_len (c := cS) (l := a1) (e := 9) (sz := 1) (sz' := 1) (b := 16) (tok := .none)) edL) <| blNL cl_body (fun y17 => ⟨22, []⟩) (fun y17 => ⟨[[.sl 1 (List.map (cI .u8) y17) (.fam 0 (List.length y17))]], [List.length y17]⟩) (fun y17 => lpL (fun k x => go_record_write_string_l1 n a1 k x.1 x.2) (0, r1.f_b) ⟨[0], 1, [0], 1⟩ (fun x => ⟨22, [(2, .func (.func 489) [qp 0] []), (12, ql 1 cS a1), (13, qi (List.length a1 : Int)), (14, qi x.1)]⟩) (fun x => ⟨[[.sl 1 (List.map (cI .u8) x.2) (.fam 0 (List.length x.2))]], [List.length x.2]⟩) fun k x => by obtain ⟨v23, v24⟩ := x; rw [go_record_write_string_l1]; exact rgL <| bFL (b_blockL <| bEL fun x31 hx31 => rCL (kPL 0 (x_lidx (c := cS) (e := 9) (sz := 1) (b := 16) (tok := .none) hx31) edL) <| bEL fun r32 hr32 => rCNL cl_cons (kCL 2 ⟨[0], 1, [0], 1⟩ (go_record_Writer_String_ok hr32) edL) <| bk_normL <| rgNL cl_loopT fun h => ⟨(IntKind.wrap .i64 (v23 + 1), r32.f_b), h, wk ⟨[0], 1, [0], 1⟩⟩) <| b_exitL <| tk_exitL <| bl_exitL <| jnL ⟨[0], 1, [0], 1⟩) fun y17 => nJ ⟨[0], 1, [0], 1⟩
def go_record_Writer_Strings (n : Nat) (a1 : (List (List UInt8))) (m0 : T_record_Writer) : Option T_record_Writer :=
 (go_record_write_string n a1 m0).bind fun r1 =>
 some r1
theorem go_record_Writer_Strings_ok {n : Nat} {a1 : (List (List UInt8))} {m0 : T_record_Writer} {r : T_record_Writer} : go_record_Writer_Strings n a1 m0 = some r → ACg mx 486 [qp 0, ql 1 cS a1] [[.sl 1 (List.map (cI .u8) m0.f_b) (.fam 0 (List.length m0.f_b))]] [List.length m0.f_b] (.tuple []) [[.sl 1 (List.map (cI .u8) r.f_b) (.fam 0 (List.length r.f_b))]] [List.length r.f_b] := by
 delta go_record_Writer_Strings
 exact fnL Tryz.func486 rfl <| bEL fun r1 hr1 => rCNL cl_body (kCL 4 ⟨[0], 1, [0], 1⟩ (go_record_write_string_ok hr1) edL) <| nJ ⟨[0], 1, [0], 1⟩
def go_record_Writer_Info_1 (n : Nat) (a0 : T_api_Mapping) (m1 : T_record_Writer) : Option T_record_Writer :=
 (go_record_Writer_String n a0.f_Issuer m1).bind fun r1 =>
 (go_record_Writer_String n a0.f_Subject r1).bind fun r2 =>
 some r2
theorem go_record_Writer_Info_1_ok {n : Nat} {a0 : T_api_Mapping} {m1 : T_record_Writer} {r : T_record_Writer} : go_record_Writer_Info_1 n a0 m1 = some r → ACg mx 488 [.agg (T_api_Mapping.cells a0), qp 0] [[qp 1], [.sl 1 (List.map (cI .u8) m1.f_b) (.fam 0 (List.length m1.f_b))]] [List.length m1.f_b] (.tuple []) [[qp 1], [.sl 1 (List.map (cI .u8) r.f_b) (.fam 0 (List.length r.f_b))]] [List.length r.f_b] := by
 delta go_record_Writer_Info_1
 exact fnL Tryz.func488 rfl <| rgL <| bEL fun r1 hr1 => rCL (kCL 3 ⟨[1], 3, [0], 1⟩ (go_record_Writer_String_ok hr1) edL) <| bEL fun r2 hr2 => rCNL cl_body (kCL 3 ⟨[1], 3, [0], 1⟩ (go_record_Writer_String_ok hr2) edL) <| nJ ⟨[0, 1], 3, [0], 1⟩
def go_record_write_api_Mapping_l1 (n : Nat) (a1 : (List T_api_Mapping)) : Nat → Int → (List Int) → Option (List Int)
 | 0, _, _ => none
 | k + 1, v23, v24 =>
  if (decide (v23 < (List.length a1 : Int))) = true then ((lidx a1 v23).bind fun x31 =>
  (go_record_Writer_Info_1 n x31 (T_record_Writer.mk v24)).bind fun r32 =>
  go_record_write_api_Mapping_l1 n a1 k (IntKind.wrap .i64 (v23 + 1)) r32.f_b) else (some v24)
def go_record_write_api_Mapping (n : Nat) (a1 : (List T_api_Mapping)) (m0 : T_record_Writer) : Option T_record_Writer :=
 (go_record_Writer_Int n (List.length a1 : Int) m0).bind fun r1 =>
 (go_record_write_api_Mapping_l1 n a1 n 0 r1.f_b).bind fun y17 =>
 some (T_record_Writer.mk y17)
theorem go_record_write_api_Mapping_ok {n : Nat} {a1 : (List T_api_Mapping)} {m0 : T_record_Writer} {r : T_record_Writer} : go_record_write_api_Mapping n a1 m0 = some r → ACg mx 487 [qp 0, ql 2 T_api_Mapping.cells a1, .func (.func 488) [] [qp 1]] [[.sl 1 (List.map (cI .u8) m0.f_b) (.fam 0 (List.length m0.f_b))], [qp 0]] [List.length m0.f_b] (.tuple []) [[.sl 1 (List.map (cI .u8) r.f_b) (.fam 0 (List.length r.f_b))], [qp 0]] [List.length r.f_b] := by
 delta go_record_write_api_Mapping
 exact fnL Tryz.func487 rfl <| bEL fun r1 hr1 => rCL (kPL 2 (x_len (c := T_api_Mapping.cells) (l := a1) (e := 220) (sz := 2) (sz' := 2) (b := 32) (tok := .none)) <| kCL 3 ⟨[0], 2, [0], 1⟩ (go_record_Writer_Int_ok hr1) edL) <| rCL (kPL 1 (x_len (c := T_api_Mapping.cells) (l := a1) (e := 220) (sz := 2) (sz' := 2) (b := 32) (tok := .none)) edL) <| blNL cl_body (fun y17 => ⟨22, []⟩) (fun y17 => ⟨[[.sl 1 (List.map (cI .u8) y17) (.fam 0 (List.length y17))], [qp 0]], [List.length y17]⟩) (fun y17 => lpL (fun k x => go_record_write_api_Mapping_l1 n a1 k x.1 x.2) (0, r1.f_b) ⟨[0, 1], 2, [0], 1⟩ (fun x => ⟨22, [(2, .func (.func 488) [] [qp 1]), (12, ql 2 T_api_Mapping.cells a1), (13, qi (List.length a1 : Int)), (14, qi x.1)]⟩) (fun x => ⟨[[.sl 1 (List.map (cI .u8) x.2) (.fam 0 (List.length x.2))], [qp 0]], [List.length x.2]⟩) fun k x => by obtain ⟨v23, v24⟩ := x; rw [go_record_write_api_Mapping_l1]; exact rgL <| bFL (b_blockL <| bEL fun x31 hx31 => rCL (kPL 0 (x_lidx (c := T_api_Mapping.cells) (e := 220) (sz := 2) (b := 32) (tok := .none) hx31) edL) <| bEL fun r32 hr32 => rCNL cl_cons (kCL 2 ⟨[1, 0], 3, [0], 1⟩ (go_record_Writer_Info_1_ok hr32) edL) <| bk_normL <| rgNL cl_loopT fun h => ⟨(IntKind.wrap .i64 (v23 + 1), r32.f_b), h, wk ⟨[0, 1], 3, [0], 1⟩⟩) <| b_exitL <| tk_exitL <| bl_exitL <| jnL ⟨[0, 1], 2, [0], 1⟩) fun y17 => nJ ⟨[0, 1], 2, [0], 1⟩
def go_record_Writer_Name_l2 (n : Nat) (x978 : (List T_api_Attribute)) : Nat → Int → (List Int) → Option (List Int)
 | 0, _, _ => none
 | k + 1, v1017, v1018 =>
  if (decide (v1017 < (List.length x978 : Int))) = true then ((lidx x978 v1017).bind fun x1031 =>
  (go_record_Writer_String n x1031.f_Type (T_record_Writer.mk v1018)).bind fun r1032 =>
  (go_record_Writer_Int n x1031.f_Kind r1032).bind fun r1033 =>
  (go_record_Writer_String n x1031.f_Value r1033).bind fun r1034 =>
  go_record_Writer_Name_l2 n x978 k (IntKind.wrap .i64 (v1017 + 1)) r1034.f_b) else (some v1018)
def go_record_Writer_Name_l1 (n : Nat) (a1 : T_api_Name) : Nat → Int → (List Int) → Option (List Int)
 | 0, _, _ => none
 | k + 1, v691, v692 =>
  if (decide (v691 < (List.length a1.f_RDNs : Int))) = true then ((lidx a1.f_RDNs v691).bind fun x978 =>
  (go_record_Writer_Int n (List.length x978 : Int) (T_record_Writer.mk v692)).bind fun r979 =>
  (go_record_Writer_Name_l2 n x978 n 0 r979.f_b).bind fun y1007 =>
  go_record_Writer_Name_l1 n a1 k (IntKind.wrap .i64 (v691 + 1)) y1007) else (some v692)
def go_record_Writer_Name (n : Nat) (a1 : T_api_Name) (m0 : T_record_Writer) : Option T_record_Writer :=
 (go_record_Writer_Int n (List.length a1.f_RDNs : Int) m0).bind fun r1 =>
 (go_record_Writer_Name_l1 n a1 n 0 r1.f_b).bind fun y518 =>
 some (T_record_Writer.mk y518)
theorem go_record_Writer_Name_ok {n : Nat} {a1 : T_api_Name} {m0 : T_record_Writer} {r : T_record_Writer} : go_record_Writer_Name n a1 m0 = some r → ACg mx 532 [qp 0, .agg [ql 1 (cL 3 T_api_Attribute.cells) a1.f_RDNs]] [[.sl 1 (List.map (cI .u8) m0.f_b) (.fam 0 (List.length m0.f_b))]] [List.length m0.f_b] (.tuple []) [[.sl 1 (List.map (cI .u8) r.f_b) (.fam 0 (List.length r.f_b))]] [List.length r.f_b] := by
 delta go_record_Writer_Name
 exact fnL Tryz.func532 rfl <| rgL <| bEL fun r1 hr1 => rCL (kPL 3 (x_len (c := (cL 3 T_api_Attribute.cells)) (l := a1.f_RDNs) (e := 83) (sz := 1) (sz' := 1) (b := 24) (tok := .none)) <| kCL 4 ⟨[0], 2, [0], 1⟩ (go_record_Writer_Int_ok hr1) edL) <| rCL (kPL 2 (x_len (c := (cL 3 T_api_Attribute.cells)) (l := a1.f_RDNs) (e := 83) (sz := 1) (sz' := 1) (b := 24) (tok := .none)) edL) <| blNL cl_body (fun y518 => ⟨44, []⟩) (fun y518 => ⟨[[.sl 1 (List.map (cI .u8) y518) (.fam 0 (List.length y518))]], [List.length y518]⟩) (fun y518 => lpL (fun k x => go_record_Writer_Name_l1 n a1 k x.1 x.2) (0, r1.f_b) ⟨[0], 2, [0], 1⟩ (fun x => ⟨44, [(0, qp 0), (14, ql 1 (cL 3 T_api_Attribute.cells) a1.f_RDNs), (15, qi (List.length a1.f_RDNs : Int)), (16, qi x.1)]⟩) (fun x => ⟨[[.sl 1 (List.map (cI .u8) x.2) (.fam 0 (List.length x.2))]], [List.length x.2]⟩) fun k x => by obtain ⟨v691, v692⟩ := x; rw [go_record_Writer_Name_l1]; exact rgL <| bFL (b_blockL <| bEL fun x978 hx978 => rCL (kPL 0 (x_lidx (c := (cL 3 T_api_Attribute.cells)) (e := 83) (sz := 1) (b := 24) (tok := .none) hx978) edL) <| bEL fun r979 hr979 => rCL (kPL 2 (x_len (c := T_api_Attribute.cells) (l := x978) (e := 82) (sz := 3) (sz' := 3) (b := 40) (tok := .none)) <| kCL 3 ⟨[0], 1, [0], 1⟩ (go_record_Writer_Int_ok hr979) edL) <| rCL (kPL 1 (x_len (c := T_api_Attribute.cells) (l := x978) (e := 82) (sz := 3) (sz' := 3) (b := 40) (tok := .none)) edL) <| blNL cl_cons (fun y1007 => ⟨44, [(0, qp 0), (14, ql 1 (cL 3 T_api_Attribute.cells) a1.f_RDNs), (15, qi (List.length a1.f_RDNs : Int)), (16, qi v691)]⟩) (fun y1007 => ⟨[[.sl 1 (List.map (cI .u8) y1007) (.fam 0 (List.length y1007))]], [List.length y1007]⟩) (fun y1007 => lpL (fun k x => go_record_Writer_Name_l2 n x978 k x.1 x.2) (0, r979.f_b) ⟨[0], 1, [0], 1⟩ (fun x => ⟨44, [(0, qp 0), (14, ql 1 (cL 3 T_api_Attribute.cells) a1.f_RDNs), (15, qi (List.length a1.f_RDNs : Int)), (16, qi v691), (24, ql 3 T_api_Attribute.cells x978), (25, qi (List.length x978 : Int)), (26, qi x.1)]⟩) (fun x => ⟨[[.sl 1 (List.map (cI .u8) x.2) (.fam 0 (List.length x.2))]], [List.length x.2]⟩) fun k x => by obtain ⟨v1017, v1018⟩ := x; rw [go_record_Writer_Name_l2]; exact rgL <| bFL (b_blockL <| bEL fun x1031 hx1031 => rCL (kPL 0 (x_lidx (c := T_api_Attribute.cells) (e := 82) (sz := 3) (b := 40) (tok := .none) hx1031) edL) <| bEL fun r1032 hr1032 => rCL (kCL 3 ⟨[0], 2, [0], 1⟩ (go_record_Writer_String_ok hr1032) edL) <| bEL fun r1033 hr1033 => rCL (kCL 3 ⟨[0], 2, [0], 1⟩ (go_record_Writer_Int_ok hr1033) edL) <| bEL fun r1034 hr1034 => rCNL cl_cons (kCL 3 ⟨[0], 2, [0], 1⟩ (go_record_Writer_String_ok hr1034) edL) <| bk_normL <| rgNL cl_loopT fun h => ⟨(IntKind.wrap .i64 (v1017 + 1), r1034.f_b), h, wk ⟨[0], 2, [0], 1⟩⟩) <| b_exitL <| tk_exitL <| bl_exitL <| jnL ⟨[0], 1, [0], 1⟩) fun y1007 => bk_normL <| rgNL cl_loopT fun h => ⟨(IntKind.wrap .i64 (v691 + 1), y1007), h, wk ⟨[0], 1, [0], 1⟩⟩) <| b_exitL <| tk_exitL <| bl_exitL <| jnL ⟨[0], 1, [0], 1⟩) fun y518 => nJ ⟨[0], 1, [0], 1⟩
def go_record_Writer_Names_1 (n : Nat) (a0 : T_api_GeneralName) (m1 : T_record_Writer) : Option T_record_Writer :=
 (go_record_Writer_Int n a0.f_Kind m1).bind fun r1 =>
 (go_record_Writer_String n a0.f_Text r1).bind fun r2 =>
 (go_record_Writer_Name n (T_api_Name.mk a0.f_Name.f_RDNs) r2).bind fun r3 =>
 some r3
theorem go_record_Writer_Names_1_ok {n : Nat} {a0 : T_api_GeneralName} {m1 : T_record_Writer} {r : T_record_Writer} : go_record_Writer_Names_1 n a0 m1 = some r → ACg mx 531 [.agg (T_api_GeneralName.cells a0), qp 0] [[qp 1], [.sl 1 (List.map (cI .u8) m1.f_b) (.fam 0 (List.length m1.f_b))]] [List.length m1.f_b] (.tuple []) [[qp 1], [.sl 1 (List.map (cI .u8) r.f_b) (.fam 0 (List.length r.f_b))]] [List.length r.f_b] := by
 delta go_record_Writer_Names_1
 exact fnL Tryz.func531 rfl <| rgL <| bEL fun r1 hr1 => rCL (kCL 3 ⟨[1], 3, [0], 1⟩ (go_record_Writer_Int_ok hr1) edL) <| bEL fun r2 hr2 => rCL (kCL 3 ⟨[1], 3, [0], 1⟩ (go_record_Writer_String_ok hr2) edL) <| bEL fun r3 hr3 => rCNL cl_body (kCL 3 ⟨[1], 3, [0], 1⟩ (go_record_Writer_Name_ok hr3) edL) <| nJ ⟨[0, 1], 3, [0], 1⟩
def go_record_write_api_GeneralName_l1 (n : Nat) (a1 : (List T_api_GeneralName)) : Nat → Int → (List Int) → Option (List Int)
 | 0, _, _ => none
 | k + 1, v23, v24 =>
  if (decide (v23 < (List.length a1 : Int))) = true then ((lidx a1 v23).bind fun x31 =>
  (go_record_Writer_Names_1 n (T_api_GeneralName.mk x31.f_Kind x31.f_Text (T_api_Name.mk x31.f_Name.f_RDNs)) (T_record_Writer.mk v24)).bind fun r32 =>
  go_record_write_api_GeneralName_l1 n a1 k (IntKind.wrap .i64 (v23 + 1)) r32.f_b) else (some v24)
def go_record_write_api_GeneralName (n : Nat) (a1 : (List T_api_GeneralName)) (m0 : T_record_Writer) : Option T_record_Writer :=
 (go_record_Writer_Int n (List.length a1 : Int) m0).bind fun r1 =>
 (go_record_write_api_GeneralName_l1 n a1 n 0 r1.f_b).bind fun y17 =>
 some (T_record_Writer.mk y17)
theorem go_record_write_api_GeneralName_ok {n : Nat} {a1 : (List T_api_GeneralName)} {m0 : T_record_Writer} {r : T_record_Writer} : go_record_write_api_GeneralName n a1 m0 = some r → ACg mx 530 [qp 0, ql 3 T_api_GeneralName.cells a1, .func (.func 531) [] [qp 1]] [[.sl 1 (List.map (cI .u8) m0.f_b) (.fam 0 (List.length m0.f_b))], [qp 0]] [List.length m0.f_b] (.tuple []) [[.sl 1 (List.map (cI .u8) r.f_b) (.fam 0 (List.length r.f_b))], [qp 0]] [List.length r.f_b] := by
 delta go_record_write_api_GeneralName
 exact fnL Tryz.func530 rfl <| bEL fun r1 hr1 => rCL (kPL 2 (x_len (c := T_api_GeneralName.cells) (l := a1) (e := 213) (sz := 3) (sz' := 3) (b := 48) (tok := .none)) <| kCL 3 ⟨[0], 2, [0], 1⟩ (go_record_Writer_Int_ok hr1) edL) <| rCL (kPL 1 (x_len (c := T_api_GeneralName.cells) (l := a1) (e := 213) (sz := 3) (sz' := 3) (b := 48) (tok := .none)) edL) <| blNL cl_body (fun y17 => ⟨22, []⟩) (fun y17 => ⟨[[.sl 1 (List.map (cI .u8) y17) (.fam 0 (List.length y17))], [qp 0]], [List.length y17]⟩) (fun y17 => lpL (fun k x => go_record_write_api_GeneralName_l1 n a1 k x.1 x.2) (0, r1.f_b) ⟨[0, 1], 2, [0], 1⟩ (fun x => ⟨22, [(2, .func (.func 531) [] [qp 1]), (12, ql 3 T_api_GeneralName.cells a1), (13, qi (List.length a1 : Int)), (14, qi x.1)]⟩) (fun x => ⟨[[.sl 1 (List.map (cI .u8) x.2) (.fam 0 (List.length x.2))], [qp 0]], [List.length x.2]⟩) fun k x => by obtain ⟨v23, v24⟩ := x; rw [go_record_write_api_GeneralName_l1]; exact rgL <| bFL (b_blockL <| bEL fun x31 hx31 => rCL (kPL 0 (x_lidx (c := T_api_GeneralName.cells) (e := 213) (sz := 3) (b := 48) (tok := .none) hx31) edL) <| bEL fun r32 hr32 => rCNL cl_cons (kCL 2 ⟨[1, 0], 3, [0], 1⟩ (go_record_Writer_Names_1_ok hr32) edL) <| bk_normL <| rgNL cl_loopT fun h => ⟨(IntKind.wrap .i64 (v23 + 1), r32.f_b), h, wk ⟨[0, 1], 3, [0], 1⟩⟩) <| b_exitL <| tk_exitL <| bl_exitL <| jnL ⟨[0, 1], 2, [0], 1⟩) fun y17 => nJ ⟨[0, 1], 2, [0], 1⟩
def go_record_Writer_Names (n : Nat) (a1 : (List T_api_GeneralName)) (m0 : T_record_Writer) : Option T_record_Writer :=
 (go_record_write_api_GeneralName n a1 m0).bind fun r1 =>
 some r1
theorem go_record_Writer_Names_ok {n : Nat} {a1 : (List T_api_GeneralName)} {m0 : T_record_Writer} {r : T_record_Writer} : go_record_Writer_Names n a1 m0 = some r → ACg mx 490 [qp 0, ql 3 T_api_GeneralName.cells a1] [[.sl 1 (List.map (cI .u8) m0.f_b) (.fam 0 (List.length m0.f_b))]] [List.length m0.f_b] (.tuple []) [[.sl 1 (List.map (cI .u8) r.f_b) (.fam 0 (List.length r.f_b))]] [List.length r.f_b] := by
 delta go_record_Writer_Names
 exact fnL Tryz.func490 rfl <| rgL <| bEL fun r1 hr1 => rCNL cl_body (kCL 3 ⟨[0, 1], 2, [0], 1⟩ (go_record_write_api_GeneralName_ok hr1) edL) <| nJ ⟨[0], 2, [0], 1⟩
def go_record_Writer_Points_1 (n : Nat) (a0 : T_api_Point) (m1 : T_record_Writer) : Option T_record_Writer :=
 (go_record_Writer_Names n a0.f_Names m1).bind fun r1 =>
 (go_record_Writer_Int n a0.f_Reasons r1).bind fun r2 =>
 (go_record_Writer_Bool n a0.f_HasIssuer r2).bind fun r3 =>
 (go_record_Writer_Name n (T_api_Name.mk a0.f_Issuer.f_RDNs) r3).bind fun r4 =>
 some r4
theorem go_record_Writer_Points_1_ok {n : Nat} {a0 : T_api_Point} {m1 : T_record_Writer} {r : T_record_Writer} : go_record_Writer_Points_1 n a0 m1 = some r → ACg mx 534 [.agg (T_api_Point.cells a0), qp 0] [[qp 1], [.sl 1 (List.map (cI .u8) m1.f_b) (.fam 0 (List.length m1.f_b))]] [List.length m1.f_b] (.tuple []) [[qp 1], [.sl 1 (List.map (cI .u8) r.f_b) (.fam 0 (List.length r.f_b))]] [List.length r.f_b] := by
 delta go_record_Writer_Points_1
 exact fnL Tryz.func534 rfl <| rgL <| bEL fun r1 hr1 => rCL (kCL 3 ⟨[1], 3, [0], 1⟩ (go_record_Writer_Names_ok hr1) edL) <| bEL fun r2 hr2 => rCL (kCL 3 ⟨[1], 3, [0], 1⟩ (go_record_Writer_Int_ok hr2) edL) <| bEL fun r3 hr3 => rCL (kCL 3 ⟨[1], 3, [0], 1⟩ (go_record_Writer_Bool_ok hr3) edL) <| bEL fun r4 hr4 => rCNL cl_body (kCL 3 ⟨[1], 3, [0], 1⟩ (go_record_Writer_Name_ok hr4) edL) <| nJ ⟨[0, 1], 3, [0], 1⟩
def go_record_write_api_Point_l1 (n : Nat) (a1 : (List T_api_Point)) : Nat → Int → (List Int) → Option (List Int)
 | 0, _, _ => none
 | k + 1, v23, v24 =>
  if (decide (v23 < (List.length a1 : Int))) = true then ((lidx a1 v23).bind fun x31 =>
  (go_record_Writer_Points_1 n (T_api_Point.mk x31.f_Names x31.f_Reasons x31.f_HasIssuer (T_api_Name.mk x31.f_Issuer.f_RDNs)) (T_record_Writer.mk v24)).bind fun r32 =>
  go_record_write_api_Point_l1 n a1 k (IntKind.wrap .i64 (v23 + 1)) r32.f_b) else (some v24)
def go_record_write_api_Point (n : Nat) (a1 : (List T_api_Point)) (m0 : T_record_Writer) : Option T_record_Writer :=
 (go_record_Writer_Int n (List.length a1 : Int) m0).bind fun r1 =>
 (go_record_write_api_Point_l1 n a1 n 0 r1.f_b).bind fun y17 =>
 some (T_record_Writer.mk y17)
theorem go_record_write_api_Point_ok {n : Nat} {a1 : (List T_api_Point)} {m0 : T_record_Writer} {r : T_record_Writer} : go_record_write_api_Point n a1 m0 = some r → ACg mx 533 [qp 0, ql 4 T_api_Point.cells a1, .func (.func 534) [] [qp 1]] [[.sl 1 (List.map (cI .u8) m0.f_b) (.fam 0 (List.length m0.f_b))], [qp 0]] [List.length m0.f_b] (.tuple []) [[.sl 1 (List.map (cI .u8) r.f_b) (.fam 0 (List.length r.f_b))], [qp 0]] [List.length r.f_b] := by
 delta go_record_write_api_Point
 exact fnL Tryz.func533 rfl <| bEL fun r1 hr1 => rCL (kPL 2 (x_len (c := T_api_Point.cells) (l := a1) (e := 118) (sz := 4) (sz' := 4) (b := 64) (tok := .none)) <| kCL 3 ⟨[0], 2, [0], 1⟩ (go_record_Writer_Int_ok hr1) edL) <| rCL (kPL 1 (x_len (c := T_api_Point.cells) (l := a1) (e := 118) (sz := 4) (sz' := 4) (b := 64) (tok := .none)) edL) <| blNL cl_body (fun y17 => ⟨22, []⟩) (fun y17 => ⟨[[.sl 1 (List.map (cI .u8) y17) (.fam 0 (List.length y17))], [qp 0]], [List.length y17]⟩) (fun y17 => lpL (fun k x => go_record_write_api_Point_l1 n a1 k x.1 x.2) (0, r1.f_b) ⟨[0, 1], 2, [0], 1⟩ (fun x => ⟨22, [(2, .func (.func 534) [] [qp 1]), (12, ql 4 T_api_Point.cells a1), (13, qi (List.length a1 : Int)), (14, qi x.1)]⟩) (fun x => ⟨[[.sl 1 (List.map (cI .u8) x.2) (.fam 0 (List.length x.2))], [qp 0]], [List.length x.2]⟩) fun k x => by obtain ⟨v23, v24⟩ := x; rw [go_record_write_api_Point_l1]; exact rgL <| bFL (b_blockL <| bEL fun x31 hx31 => rCL (kPL 0 (x_lidx (c := T_api_Point.cells) (e := 118) (sz := 4) (b := 64) (tok := .none) hx31) edL) <| bEL fun r32 hr32 => rCNL cl_cons (kCL 2 ⟨[1, 0], 3, [0], 1⟩ (go_record_Writer_Points_1_ok hr32) edL) <| bk_normL <| rgNL cl_loopT fun h => ⟨(IntKind.wrap .i64 (v23 + 1), r32.f_b), h, wk ⟨[0, 1], 3, [0], 1⟩⟩) <| b_exitL <| tk_exitL <| bl_exitL <| jnL ⟨[0, 1], 2, [0], 1⟩) fun y17 => nJ ⟨[0, 1], 2, [0], 1⟩
def go_record_Writer_Points (n : Nat) (a1 : (List T_api_Point)) (m0 : T_record_Writer) : Option T_record_Writer :=
 (go_record_write_api_Point n a1 m0).bind fun r1 =>
 some r1
theorem go_record_Writer_Points_ok {n : Nat} {a1 : (List T_api_Point)} {m0 : T_record_Writer} {r : T_record_Writer} : go_record_Writer_Points n a1 m0 = some r → ACg mx 491 [qp 0, ql 4 T_api_Point.cells a1] [[.sl 1 (List.map (cI .u8) m0.f_b) (.fam 0 (List.length m0.f_b))]] [List.length m0.f_b] (.tuple []) [[.sl 1 (List.map (cI .u8) r.f_b) (.fam 0 (List.length r.f_b))]] [List.length r.f_b] := by
 delta go_record_Writer_Points
 exact fnL Tryz.func491 rfl <| rgL <| bEL fun r1 hr1 => rCNL cl_body (kCL 3 ⟨[0, 1], 2, [0], 1⟩ (go_record_write_api_Point_ok hr1) edL) <| nJ ⟨[0], 2, [0], 1⟩
def go_record_Writer_Info_2 (n : Nat) (a0 : T_api_Extension) (m1 : T_record_Writer) : Option T_record_Writer :=
 (go_record_Writer_String n a0.f_ID m1).bind fun r1 =>
 (go_record_Writer_Bool n a0.f_Critical r1).bind fun r2 =>
 (go_record_Writer_String n a0.f_Value r2).bind fun r3 =>
 some r3
theorem go_record_Writer_Info_2_ok {n : Nat} {a0 : T_api_Extension} {m1 : T_record_Writer} {r : T_record_Writer} : go_record_Writer_Info_2 n a0 m1 = some r → ACg mx 493 [.agg (T_api_Extension.cells a0), qp 0] [[qp 1], [.sl 1 (List.map (cI .u8) m1.f_b) (.fam 0 (List.length m1.f_b))]] [List.length m1.f_b] (.tuple []) [[qp 1], [.sl 1 (List.map (cI .u8) r.f_b) (.fam 0 (List.length r.f_b))]] [List.length r.f_b] := by
 delta go_record_Writer_Info_2
 exact fnL Tryz.func493 rfl <| rgL <| bEL fun r1 hr1 => rCL (kCL 3 ⟨[1], 3, [0], 1⟩ (go_record_Writer_String_ok hr1) edL) <| bEL fun r2 hr2 => rCL (kCL 3 ⟨[1], 3, [0], 1⟩ (go_record_Writer_Bool_ok hr2) edL) <| bEL fun r3 hr3 => rCNL cl_body (kCL 3 ⟨[1], 3, [0], 1⟩ (go_record_Writer_String_ok hr3) edL) <| nJ ⟨[0, 1], 3, [0], 1⟩
def go_record_write_api_Extension_l1 (n : Nat) (a1 : (List T_api_Extension)) : Nat → Int → (List Int) → Option (List Int)
 | 0, _, _ => none
 | k + 1, v23, v24 =>
  if (decide (v23 < (List.length a1 : Int))) = true then ((lidx a1 v23).bind fun x31 =>
  (go_record_Writer_Info_2 n x31 (T_record_Writer.mk v24)).bind fun r32 =>
  go_record_write_api_Extension_l1 n a1 k (IntKind.wrap .i64 (v23 + 1)) r32.f_b) else (some v24)
def go_record_write_api_Extension (n : Nat) (a1 : (List T_api_Extension)) (m0 : T_record_Writer) : Option T_record_Writer :=
 (go_record_Writer_Int n (List.length a1 : Int) m0).bind fun r1 =>
 (go_record_write_api_Extension_l1 n a1 n 0 r1.f_b).bind fun y17 =>
 some (T_record_Writer.mk y17)
theorem go_record_write_api_Extension_ok {n : Nat} {a1 : (List T_api_Extension)} {m0 : T_record_Writer} {r : T_record_Writer} : go_record_write_api_Extension n a1 m0 = some r → ACg mx 492 [qp 0, ql 3 T_api_Extension.cells a1, .func (.func 493) [] [qp 1]] [[.sl 1 (List.map (cI .u8) m0.f_b) (.fam 0 (List.length m0.f_b))], [qp 0]] [List.length m0.f_b] (.tuple []) [[.sl 1 (List.map (cI .u8) r.f_b) (.fam 0 (List.length r.f_b))], [qp 0]] [List.length r.f_b] := by
 delta go_record_write_api_Extension
 exact fnL Tryz.func492 rfl <| bEL fun r1 hr1 => rCL (kPL 2 (x_len (c := T_api_Extension.cells) (l := a1) (e := 123) (sz := 3) (sz' := 3) (b := 40) (tok := .none)) <| kCL 3 ⟨[0], 2, [0], 1⟩ (go_record_Writer_Int_ok hr1) edL) <| rCL (kPL 1 (x_len (c := T_api_Extension.cells) (l := a1) (e := 123) (sz := 3) (sz' := 3) (b := 40) (tok := .none)) edL) <| blNL cl_body (fun y17 => ⟨22, []⟩) (fun y17 => ⟨[[.sl 1 (List.map (cI .u8) y17) (.fam 0 (List.length y17))], [qp 0]], [List.length y17]⟩) (fun y17 => lpL (fun k x => go_record_write_api_Extension_l1 n a1 k x.1 x.2) (0, r1.f_b) ⟨[0, 1], 2, [0], 1⟩ (fun x => ⟨22, [(2, .func (.func 493) [] [qp 1]), (12, ql 3 T_api_Extension.cells a1), (13, qi (List.length a1 : Int)), (14, qi x.1)]⟩) (fun x => ⟨[[.sl 1 (List.map (cI .u8) x.2) (.fam 0 (List.length x.2))], [qp 0]], [List.length x.2]⟩) fun k x => by obtain ⟨v23, v24⟩ := x; rw [go_record_write_api_Extension_l1]; exact rgL <| bFL (b_blockL <| bEL fun x31 hx31 => rCL (kPL 0 (x_lidx (c := T_api_Extension.cells) (e := 123) (sz := 3) (b := 40) (tok := .none) hx31) edL) <| bEL fun r32 hr32 => rCNL cl_cons (kCL 2 ⟨[1, 0], 3, [0], 1⟩ (go_record_Writer_Info_2_ok hr32) edL) <| bk_normL <| rgNL cl_loopT fun h => ⟨(IntKind.wrap .i64 (v23 + 1), r32.f_b), h, wk ⟨[0, 1], 3, [0], 1⟩⟩) <| b_exitL <| tk_exitL <| bl_exitL <| jnL ⟨[0, 1], 2, [0], 1⟩) fun y17 => nJ ⟨[0, 1], 2, [0], 1⟩
def go_record_Writer_Info (n : Nat) (a1 : T_api_Info) (m0 : T_record_Writer) : Option T_record_Writer :=
 (go_record_Writer_Bool n a1.f_HasBasic m0).bind fun r1 =>
 (go_record_Writer_Bool n a1.f_CA r1).bind fun r2 =>
 (go_record_Writer_Ints n ([a1.f_PathLen, a1.f_Usage] : List Int) r2).bind fun r3 =>
 (go_record_Writer_Strings n a1.f_Purposes r3).bind fun r4 =>
 (go_record_Writer_Strings n a1.f_Policies r4).bind fun r5 =>
 (go_record_write_api_Mapping n a1.f_Mappings r5).bind fun r6 =>
 (go_record_Writer_Ints n ([a1.f_RequireExplicit, a1.f_InhibitMapping, a1.f_InhibitAny] : List Int) r6).bind fun r7 =>
 (go_record_Writer_Names n a1.f_Names r7).bind fun r8 =>
 (go_record_Writer_Bool n a1.f_HasConstraints r8).bind fun r9 =>
 (go_record_Writer_Names n a1.f_Constraints.f_Permitted r9).bind fun r10 =>
 (go_record_Writer_Names n a1.f_Constraints.f_Excluded r10).bind fun r11 =>
 (go_record_Writer_String n a1.f_SubjectKey r11).bind fun r12 =>
 (go_record_Writer_String n a1.f_AuthorityKey r12).bind fun r13 =>
 (go_record_Writer_Points n a1.f_Points r13).bind fun r14 =>
 (go_record_Writer_Points n a1.f_Freshest r14).bind fun r15 =>
 (go_record_write_api_Extension n a1.f_Unknown r15).bind fun r16 =>
 some r16
theorem go_record_Writer_Info_ok {n : Nat} {a1 : T_api_Info} {m0 : T_record_Writer} {r : T_record_Writer} : go_record_Writer_Info n a1 m0 = some r → ACg mx 397 [qp 0, .agg (T_api_Info.cells a1)] [[.sl 1 (List.map (cI .u8) m0.f_b) (.fam 0 (List.length m0.f_b))]] [List.length m0.f_b] (.tuple []) [[.sl 1 (List.map (cI .u8) r.f_b) (.fam 0 (List.length r.f_b))]] [List.length r.f_b] := by
 delta go_record_Writer_Info
 exact fnL Tryz.func397 rfl <| rgL <| bEL fun r1 hr1 => rCL (kCL 3 ⟨[0], 3, [0], 1⟩ (go_record_Writer_Bool_ok hr1) edL) <| bEL fun r2 hr2 => rCL (kCL 3 ⟨[0], 3, [0], 1⟩ (go_record_Writer_Bool_ok hr2) edL) <| bEL fun r3 hr3 => rCL (kCL 6 ⟨[0], 3, [0], 1⟩ (go_record_Writer_Ints_ok hr3) edL) <| bEL fun r4 hr4 => rCL (kCL 3 ⟨[0], 3, [0], 1⟩ (go_record_Writer_Strings_ok hr4) edL) <| bEL fun r5 hr5 => rCL (kCL 3 ⟨[0], 3, [0], 1⟩ (go_record_Writer_Strings_ok hr5) edL) <| bEL fun r6 hr6 => rCL (kCL 4 ⟨[0, 1], 3, [0], 1⟩ (go_record_write_api_Mapping_ok hr6) edL) <| bEL fun r7 hr7 => rCL (kCL 8 ⟨[0], 3, [0], 1⟩ (go_record_Writer_Ints_ok hr7) edL) <| bEL fun r8 hr8 => rCL (kCL 3 ⟨[0], 3, [0], 1⟩ (go_record_Writer_Names_ok hr8) edL) <| bEL fun r9 hr9 => rCL (kCL 3 ⟨[0], 3, [0], 1⟩ (go_record_Writer_Bool_ok hr9) edL) <| bEL fun r10 hr10 => rCL (kCL 4 ⟨[0], 3, [0], 1⟩ (go_record_Writer_Names_ok hr10) edL) <| bEL fun r11 hr11 => rCL (kCL 4 ⟨[0], 3, [0], 1⟩ (go_record_Writer_Names_ok hr11) edL) <| bEL fun r12 hr12 => rCL (kCL 3 ⟨[0], 3, [0], 1⟩ (go_record_Writer_String_ok hr12) edL) <| bEL fun r13 hr13 => rCL (kCL 3 ⟨[0], 3, [0], 1⟩ (go_record_Writer_String_ok hr13) edL) <| bEL fun r14 hr14 => rCL (kCL 3 ⟨[0], 3, [0], 1⟩ (go_record_Writer_Points_ok hr14) edL) <| bEL fun r15 hr15 => rCL (kCL 3 ⟨[0], 3, [0], 1⟩ (go_record_Writer_Points_ok hr15) edL) <| bEL fun r16 hr16 => rCNL cl_body (kCL 4 ⟨[0, 1], 3, [0], 1⟩ (go_record_write_api_Extension_ok hr16) edL) <| nJ ⟨[0], 3, [0], 1⟩
def go_record_Writer_Bytes (n : Nat) (m0 : T_record_Writer) : Option ((List UInt8) × T_record_Writer) :=
 some (b2s m0.f_b, m0)
theorem go_record_Writer_Bytes_ok {n : Nat} {m0 : T_record_Writer} {r : ((List UInt8) × T_record_Writer)} : go_record_Writer_Bytes n m0 = some r → ACg mx 398 [qp 0] [[.sl 1 (List.map (cI .u8) m0.f_b) (.fam 0 (List.length m0.f_b))]] [List.length m0.f_b] (qs r.1) [[.sl 1 (List.map (cI .u8) r.2.f_b) (.fam 0 (List.length r.2.f_b))]] [List.length r.2.f_b] := by
 delta go_record_Writer_Bytes
 exact fnL Tryz.func398 rfl <| rgL <| rCL (lfL (fun z => kB 4 m0.f_b z) edL) <| b_retL <| rJ ⟨[0], 1, [0], 1⟩
def go_script_sameInfo (n : Nat) (a0 : T_api_Info) (a1 : T_api_Info) : Option Bool :=
 (go_record_Writer_Info n (T_api_Info.mk a0.f_HasBasic a0.f_CA a0.f_PathLen a0.f_Usage a0.f_Purposes a0.f_Policies a0.f_Mappings a0.f_RequireExplicit a0.f_InhibitMapping a0.f_InhibitAny a0.f_Names a0.f_HasConstraints (T_api_Subtrees.mk a0.f_Constraints.f_Permitted a0.f_Constraints.f_Excluded) a0.f_SubjectKey a0.f_AuthorityKey a0.f_Points a0.f_Freshest a0.f_Unknown) (T_record_Writer.mk ([] : List Int))).bind fun r1 =>
 (go_record_Writer_Info n (T_api_Info.mk a1.f_HasBasic a1.f_CA a1.f_PathLen a1.f_Usage a1.f_Purposes a1.f_Policies a1.f_Mappings a1.f_RequireExplicit a1.f_InhibitMapping a1.f_InhibitAny a1.f_Names a1.f_HasConstraints (T_api_Subtrees.mk a1.f_Constraints.f_Permitted a1.f_Constraints.f_Excluded) a1.f_SubjectKey a1.f_AuthorityKey a1.f_Points a1.f_Freshest a1.f_Unknown) (T_record_Writer.mk ([] : List Int))).bind fun r2 =>
 (go_record_Writer_Bytes n r1).bind fun r3 =>
 (go_record_Writer_Bytes n r2).bind fun r4 =>
 some (r3.1 == r4.1)
theorem go_script_sameInfo_ok {n : Nat} {a0 : T_api_Info} {a1 : T_api_Info} {r : Bool} : go_script_sameInfo n a0 a1 = some r → AC mx 304 [.agg (T_api_Info.cells a0), .agg (T_api_Info.cells a1)] [] (qb r) [] := by
 delta go_script_sameInfo
 exact fnL Tryz.func304 rfl <| rgL <| rgL <| b_wkL Wk.nilFam <| b_wkL (wk (fr' := ⟨14, [(0, .agg (T_api_Info.cells a0)), (1, .agg (T_api_Info.cells a1)), (2, qp 0), (3, qp 1), (4, qb false), (5, qp 2), (6, qp 3)]⟩) (st' := ⟨[T_api_Info.cells a0, T_api_Info.cells a1, [.sl 1 (List.map (cI .u8) ([] : List Int)) (.fam 0 (List.length ([] : List Int)))], [qn]], [List.length ([] : List Int)]⟩) ⟨[0, 1, 2, 3], 4, [0], 1⟩) <| b_wkL Wk.nilFam <| b_wkL (wk (fr' := ⟨14, [(0, .agg (T_api_Info.cells a0)), (1, .agg (T_api_Info.cells a1)), (2, qp 0), (3, qp 1), (4, qb false), (5, qp 2), (6, qp 3)]⟩) (st' := ⟨[T_api_Info.cells a0, T_api_Info.cells a1, [.sl 1 (List.map (cI .u8) ([] : List Int)) (.fam 0 (List.length ([] : List Int)))], [.sl 1 (List.map (cI .u8) ([] : List Int)) (.fam 1 (List.length ([] : List Int)))]], [List.length ([] : List Int), List.length ([] : List Int)]⟩) ⟨[0, 1, 2, 3], 4, [0, 1], 2⟩) <| bEL fun r1 hr1 => rCL (kCL 1 ⟨[2], 4, [0], 2⟩ (go_record_Writer_Info_ok hr1) edL) <| bEL fun r2 hr2 => rCL (kCL 1 ⟨[3], 4, [1], 2⟩ (go_record_Writer_Info_ok hr2) edL) <| bEL fun r3 hr3 => bEL fun r4 hr4 => rCL (kCL 0 ⟨[2], 4, [0], 2⟩ (go_record_Writer_Bytes_ok hr3) <| kCL 1 ⟨[3], 4, [1], 2⟩ (go_record_Writer_Bytes_ok hr4) edL) <| b_retL <| rJ ⟨[], 4, [], 2⟩
def go_script_sameAct (n : Nat) (a0 : T_api_Act) (a1 : T_api_Act) : Option Bool :=
 (if (a0.f_Kind == a1.f_Kind) = true then (if (a0.f_Time == a1.f_Time) = true then (if (a0.f_Until == a1.f_Until) = true then (if (a0.f_Data == a1.f_Data) = true then ((go_script_sameInfo n (T_api_Info.mk a0.f_Info.f_HasBasic a0.f_Info.f_CA a0.f_Info.f_PathLen a0.f_Info.f_Usage a0.f_Info.f_Purposes a0.f_Info.f_Policies a0.f_Info.f_Mappings a0.f_Info.f_RequireExplicit a0.f_Info.f_InhibitMapping a0.f_Info.f_InhibitAny a0.f_Info.f_Names a0.f_Info.f_HasConstraints (T_api_Subtrees.mk a0.f_Info.f_Constraints.f_Permitted a0.f_Info.f_Constraints.f_Excluded) a0.f_Info.f_SubjectKey a0.f_Info.f_AuthorityKey a0.f_Info.f_Points a0.f_Info.f_Freshest a0.f_Info.f_Unknown) (T_api_Info.mk a1.f_Info.f_HasBasic a1.f_Info.f_CA a1.f_Info.f_PathLen a1.f_Info.f_Usage a1.f_Info.f_Purposes a1.f_Info.f_Policies a1.f_Info.f_Mappings a1.f_Info.f_RequireExplicit a1.f_Info.f_InhibitMapping a1.f_Info.f_InhibitAny a1.f_Info.f_Names a1.f_Info.f_HasConstraints (T_api_Subtrees.mk a1.f_Info.f_Constraints.f_Permitted a1.f_Info.f_Constraints.f_Excluded) a1.f_Info.f_SubjectKey a1.f_Info.f_AuthorityKey a1.f_Info.f_Points a1.f_Info.f_Freshest a1.f_Info.f_Unknown)).bind fun r1 =>
 if r1 = true then (if (a0.f_Serial == a1.f_Serial) = true then (if (a0.f_Reason == a1.f_Reason) = true then (if (a0.f_Invalid == a1.f_Invalid) = true then (if (a0.f_Part == a1.f_Part) = true then (if (a0.f_Class == a1.f_Class) = true then (if (a0.f_Base == a1.f_Base) = true then (some (a0.f_Foreign == a1.f_Foreign)) else (some false)) else (some false)) else (some false)) else (some false)) else (some false)) else (some false)) else (some false)) else (some false)) else (some false)) else (some false)) else (some false)).bind fun y3 =>
 some y3
theorem go_script_sameAct_ok {n : Nat} {a0 : T_api_Act} {a1 : T_api_Act} {r : Bool} : go_script_sameAct n a0 a1 = some r → AC mx 197 [.agg (T_api_Act.cells a0), .agg (T_api_Act.cells a1)] [] (qb r) [] := by
 delta go_script_sameAct
 exact fnL Tryz.func197 rfl <| rgL <| bEL fun y3 hE => rgF hE ⟨87, [(4, qb y3)]⟩ ⟨[], []⟩ (gFL 6 10 (gFL 13 17 (gFL 20 24 (gFL 27 31 (bEL fun r1 hr1 => kCL 31 ⟨[], 2, [], 0⟩ (go_script_sameInfo_ok hr1) <| gFL 34 38 (gFL 41 45 (gFL 48 52 (gFL 55 59 (gFL 62 66 (gFL 69 73 (gFL 76 80 (eJ ⟨[], 2, [], 0⟩) <| eJ ⟨[], 2, [], 0⟩) <| eJ ⟨[], 2, [], 0⟩) <| eJ ⟨[], 2, [], 0⟩) <| eJ ⟨[], 2, [], 0⟩) <| eJ ⟨[], 2, [], 0⟩) <| eJ ⟨[], 2, [], 0⟩) <| eJ ⟨[], 2, [], 0⟩) <| eJ ⟨[], 2, [], 0⟩) <| eJ ⟨[], 2, [], 0⟩) <| eJ ⟨[], 2, [], 0⟩) <| eJ ⟨[], 2, [], 0⟩) <| b_retL <| rJ ⟨[], 0, [], 0⟩
def go_script_noQuery (n : Nat) (a0 : T_api_Query) : Option Bool :=
 (if (a0.f_Time == 0) = true then (if (a0.f_Purpose == ([] : List UInt8)) = true then (if (a0.f_Usage == 0) = true then (if ((List.length a0.f_Policies : Int) == 0) = true then (if (!a0.f_Explicit) = true then (if (!a0.f_NoMapping) = true then (if (!a0.f_NoAny) = true then (if ((List.length a0.f_Names : Int) == 0) = true then (if (a0.f_MaxLength == 0) = true then (if (!a0.f_Status) = true then (some ((List.length a0.f_Issuers : Int) == 0)) else (some false)) else (some false)) else (some false)) else (some false)) else (some false)) else (some false)) else (some false)) else (some false)) else (some false)) else (some false)).bind fun y2 =>
 some y2
theorem go_script_noQuery_ok {n : Nat} {a0 : T_api_Query} {r : Bool} : go_script_noQuery n a0 = some r → AC mx 198 [.agg (T_api_Query.cells a0)] [] (qb r) [] := by
 delta go_script_noQuery
 exact fnL Tryz.func198 rfl <| rgL <| bEL fun y2 hE => rgF hE ⟨59, [(2, qb y2)]⟩ ⟨[], []⟩ (gFL 4 6 (gFL 9 11 (gFL 14 16 (kPL 16 (x_len (c := cS) (l := a0.f_Policies) (e := 9) (sz := 1) (sz' := 1) (b := 16) (tok := .none)) <| gFL 20 22 (gFL 25 27 (gFL 30 32 (gFL 35 37 (kPL 37 (x_len (c := T_api_GeneralName.cells) (l := a0.f_Names) (e := 213) (sz := 3) (sz' := 3) (b := 48) (tok := .none)) <| gFL 41 43 (gFL 46 48 (gFL 51 53 (kPL 53 (x_len (c := T_api_Anchor.cells) (l := a0.f_Issuers) (e := 228) (sz := 4) (sz' := 4) (b := 64) (tok := .none)) <| eJ ⟨[], 1, [], 0⟩) <| eJ ⟨[], 1, [], 0⟩) <| eJ ⟨[], 1, [], 0⟩) <| eJ ⟨[], 1, [], 0⟩) <| eJ ⟨[], 1, [], 0⟩) <| eJ ⟨[], 1, [], 0⟩) <| eJ ⟨[], 1, [], 0⟩) <| eJ ⟨[], 1, [], 0⟩) <| eJ ⟨[], 1, [], 0⟩) <| eJ ⟨[], 1, [], 0⟩) <| eJ ⟨[], 1, [], 0⟩) <| b_retL <| rJ ⟨[], 0, [], 0⟩
def go_script_sameDeed (n : Nat) (a0 : T_api_Deed) (a1 : T_api_Deed) : Option Bool :=
 (if (a0.f_Who != a1.f_Who) = true then (some true) else ((go_script_sameAct n (T_api_Act.mk a0.f_Act.f_Kind a0.f_Act.f_Time a0.f_Act.f_Until a0.f_Act.f_Data (T_api_Info.mk a0.f_Act.f_Info.f_HasBasic a0.f_Act.f_Info.f_CA a0.f_Act.f_Info.f_PathLen a0.f_Act.f_Info.f_Usage a0.f_Act.f_Info.f_Purposes a0.f_Act.f_Info.f_Policies a0.f_Act.f_Info.f_Mappings a0.f_Act.f_Info.f_RequireExplicit a0.f_Act.f_Info.f_InhibitMapping a0.f_Act.f_Info.f_InhibitAny a0.f_Act.f_Info.f_Names a0.f_Act.f_Info.f_HasConstraints (T_api_Subtrees.mk a0.f_Act.f_Info.f_Constraints.f_Permitted a0.f_Act.f_Info.f_Constraints.f_Excluded) a0.f_Act.f_Info.f_SubjectKey a0.f_Act.f_Info.f_AuthorityKey a0.f_Act.f_Info.f_Points a0.f_Act.f_Info.f_Freshest a0.f_Act.f_Info.f_Unknown) a0.f_Act.f_Serial a0.f_Act.f_Reason a0.f_Act.f_Invalid a0.f_Act.f_Part a0.f_Act.f_Class a0.f_Act.f_Base a0.f_Act.f_Foreign) (T_api_Act.mk a1.f_Act.f_Kind a1.f_Act.f_Time a1.f_Act.f_Until a1.f_Act.f_Data (T_api_Info.mk a1.f_Act.f_Info.f_HasBasic a1.f_Act.f_Info.f_CA a1.f_Act.f_Info.f_PathLen a1.f_Act.f_Info.f_Usage a1.f_Act.f_Info.f_Purposes a1.f_Act.f_Info.f_Policies a1.f_Act.f_Info.f_Mappings a1.f_Act.f_Info.f_RequireExplicit a1.f_Act.f_Info.f_InhibitMapping a1.f_Act.f_Info.f_InhibitAny a1.f_Act.f_Info.f_Names a1.f_Act.f_Info.f_HasConstraints (T_api_Subtrees.mk a1.f_Act.f_Info.f_Constraints.f_Permitted a1.f_Act.f_Info.f_Constraints.f_Excluded) a1.f_Act.f_Info.f_SubjectKey a1.f_Act.f_Info.f_AuthorityKey a1.f_Act.f_Info.f_Points a1.f_Act.f_Info.f_Freshest a1.f_Act.f_Info.f_Unknown) a1.f_Act.f_Serial a1.f_Act.f_Reason a1.f_Act.f_Invalid a1.f_Act.f_Part a1.f_Act.f_Class a1.f_Act.f_Base a1.f_Act.f_Foreign)).bind fun r1 =>
 if (!r1) = true then (some true) else (if (!(a0.f_Hide == a1.f_Hide)) = true then (some true) else (if (a0.f_Keep != a1.f_Keep) = true then (some true) else (if (a0.f_Bytes != a1.f_Bytes) = true then (some true) else (some (a0.f_Target != a1.f_Target))))))).bind fun y3 =>
 if y3 = true then (some false) else ((if (a0.f_Kind == 5) = true then (some true) else (if (a0.f_View.f_Time == 0) = true then (if ((List.length a0.f_View.f_Withheld : Int) == 0) = true then ((go_script_noQuery n (T_api_Query.mk a0.f_Query.f_Time a0.f_Query.f_Purpose a0.f_Query.f_Usage a0.f_Query.f_Policies a0.f_Query.f_Explicit a0.f_Query.f_NoMapping a0.f_Query.f_NoAny a0.f_Query.f_Names a0.f_Query.f_MaxLength a0.f_Query.f_Status a0.f_Query.f_Issuers)).bind fun r4 =>
 if r4 = true then (some ((List.length a0.f_Anchors : Int) == 0)) else (some false)) else (some false)) else (some false))).bind fun y6 =>
 some y6)
theorem go_script_sameDeed_ok {n : Nat} {a0 : T_api_Deed} {a1 : T_api_Deed} {r : Bool} : go_script_sameDeed n a0 a1 = some r → AC mx 88 [.agg (T_api_Deed.cells a0), .agg (T_api_Deed.cells a1)] [] (qb r) [] := by
 delta go_script_sameDeed
 exact fnL Tryz.func88 rfl <| rgL <| bEL fun y3 hE => rgF hE ⟨73, [(2, qp 0), (45, qb y3)]⟩ ⟨[T_api_Deed.cells a0], []⟩ (gFL 6 10 (eJ ⟨[0], 2, [], 0⟩) <| bEL fun r1 hr1 => kCL 10 ⟨[], 2, [], 0⟩ (go_script_sameAct_ok hr1) <| gFL 14 18 (eJ ⟨[0], 2, [], 0⟩) <| gFL 21 25 (eJ ⟨[0], 2, [], 0⟩) <| gFL 28 32 (eJ ⟨[0], 2, [], 0⟩) <| gFL 35 39 (eJ ⟨[0], 2, [], 0⟩) <| eJ ⟨[0], 2, [], 0⟩) <| bFL (rgL <| b_retL <| rJ ⟨[], 1, [], 0⟩) <| bEL fun y6 hE => rgF hE ⟨73, [(4, qb y6)]⟩ ⟨[], []⟩ (gFL 4 49 (eJ ⟨[], 1, [], 0⟩) <| gFL 9 54 (kPL 12 (x_len (c := (cI .i64)) (l := a0.f_View.f_Withheld) (e := 3) (sz := 1) (sz' := 1) (b := 8) (tok := .none)) <| gFL 16 61 (bEL fun r4 hr4 => kCL 18 ⟨[], 1, [], 0⟩ (go_script_noQuery_ok hr4) <| gFL 21 66 (kPL 23 (x_len (c := (cI .i64)) (l := a0.f_Anchors) (e := 3) (sz := 1) (sz' := 1) (b := 8) (tok := .none)) <| eJ ⟨[], 1, [], 0⟩) <| eJ ⟨[], 1, [], 0⟩) <| eJ ⟨[], 1, [], 0⟩) <| eJ ⟨[], 1, [], 0⟩) <| b_retL <| rJ ⟨[], 0, [], 0⟩
end Go.Abs
end
