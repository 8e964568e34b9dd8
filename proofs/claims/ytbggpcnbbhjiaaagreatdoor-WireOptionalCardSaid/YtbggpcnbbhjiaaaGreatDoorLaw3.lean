/- The typed Lean form of WireOptional gives true for every list of at most 9223372036854775807 numbers. -/
import Derived.Test.YtbggpcnbbhjiaaaGreatDoorLaw2
set_option linter.unusedVariables false
set_option linter.unusedSimpArgs false
set_option linter.unnecessarySimpa false
section
set_option maxRecDepth 100000
namespace Go.Abs
open Go Go.Proofs
def chkRow (r : List T_api_Attribute) : Bool :=
 match go_dname_checkRelative N0 r with
 | some 0 => (match go_dname_Encode_l2 N0 r N0 [] 0 with
  | some (.nxt y) => (match go_tlv_Order N0 y with
   | some o => decide (o.length ≤ 300)
   | none => false)
  | _ => false)
 | _ => false
def chkFlat (g : T_api_GeneralName) : Bool :=
 match go_gname_Check N0 g false with
 | some 0 => (match go_gname_Encode N0 g false with
  | some (e, 0) => decide (1 ≤ e.length) && decide (e.length ≤ 2000)
  | _ => false)
 | _ => false
def base (t m : Int) : Option (List UInt8 × Int) := go_wire_EncodeQuery N0 ⟨t, [], 0, [], false, false, false, [], m, false, []⟩
def longer (o : Option (List UInt8 × Int)) (k : Nat) (exact : Bool) : Bool := match o with
 | some (c, 0) => decide (k < c.length) && (!exact || c.length == k + 3)
 | _ => false
def chkQ (t m : Int) : Bool :=
 match base t m with
 | some (b, 0) =>
  longer (go_wire_EncodeQuery N0 ⟨t, [49, 46, 51, 46, 54, 46, 49, 46, 53, 46, 53, 46, 55, 46, 51, 46, 49], 0, [], false, false, false, [], m, false, []⟩) b.length false &&
  longer (go_wire_EncodeQuery N0 ⟨t, [], 1, [], false, false, false, [], m, false, []⟩) b.length false &&
  longer (go_wire_EncodeQuery N0 ⟨t, [], 0, [[49, 46, 50, 46, 51]], false, false, false, [], m, false, []⟩) b.length false &&
  longer (go_wire_EncodeQuery N0 ⟨t, [], 0, [], true, false, false, [], m, false, []⟩) b.length true &&
  longer (go_wire_EncodeQuery N0 ⟨t, [], 0, [], false, true, false, [], m, false, []⟩) b.length true &&
  longer (go_wire_EncodeQuery N0 ⟨t, [], 0, [], false, false, true, [], m, false, []⟩) b.length true &&
  longer (go_wire_EncodeQuery N0 ⟨t, [], 0, [], false, false, false, [], m, true, []⟩) b.length false &&
  (match go_date_Encode N0 t with
   | some (s, 0) => (match go_prim_PutInteger N0 m with
    | some p => decide (s.length ≤ 50) && decide (p.length ≤ 50) && b.length == s.length + p.length + 4
    | _ => false)
   | _ => false)
 | _ => false
def times : List Int := [0, 1000, 2000000000, 3155759999, 3155760000, 254033452799, 2400000000]
def lens : List Int := [1, 2, 3, 4, 5, 6, 7, 8]
theorem rows_chk : rows.all chkRow = true := by kernel_rfl
theorem flat_chk : flat.all chkFlat = true := by kernel_rfl
theorem awake_chk : go_certpathlaw37_awake N0 = some true := by kernel_rfl
theorem q_chk : (times.all fun t => lens.all fun m => chkQ t m) = true := by kernel_rfl
end Go.Abs
end
