/- The program's types and functions in the abstract reading, its records as Lean structures, and the contracts of library functions. -/
import Derived.Test.YtbggpcnbbhjiaaaGreatDoorT1
set_option linter.unusedVariables false
set_option linter.unusedSimpArgs false
set_option linter.unnecessarySimpa false
section
namespace Go.Abs
open Go Go.Proofs
structure T_certpathmade_Deck where
 f_L : (List Int)
 f_At : Int
def T_certpathmade_Deck.cells (x : T_certpathmade_Deck) : List V := [.sl 1 (List.map (cI .i64) x.f_L) .none, .int .i64 x.f_At]
structure T_api_Attribute where
 f_Type : (List UInt8)
 f_Kind : Int
 f_Value : (List UInt8)
def T_api_Attribute.cells (x : T_api_Attribute) : List V := [.str x.f_Type, .int .i64 x.f_Kind, .str x.f_Value]
structure T_api_Name where
 f_RDNs : (List (List T_api_Attribute))
def T_api_Name.cells (x : T_api_Name) : List V := [.sl 1 (List.map (cL 3 T_api_Attribute.cells) x.f_RDNs) .none]
structure T_api_GeneralName where
 f_Kind : Int
 f_Text : (List UInt8)
 f_Name : T_api_Name
def T_api_GeneralName.cells (x : T_api_GeneralName) : List V := [.int .i64 x.f_Kind, .str x.f_Text, .sl 1 (List.map (cL 3 T_api_Attribute.cells) x.f_Name.f_RDNs) .none]
structure T_api_Key where
 f_Height : Int
 f_ID : (List UInt8)
 f_Root : (List UInt8)
def T_api_Key.cells (x : T_api_Key) : List V := [.int .i64 x.f_Height, .str x.f_ID, .str x.f_Root]
structure T_api_Anchor where
 f_Name : T_api_Name
 f_Key : T_api_Key
def T_api_Anchor.cells (x : T_api_Anchor) : List V := [.sl 1 (List.map (cL 3 T_api_Attribute.cells) x.f_Name.f_RDNs) .none, .int .i64 x.f_Key.f_Height, .str x.f_Key.f_ID, .str x.f_Key.f_Root]
structure T_api_Query where
 f_Time : Int
 f_Purpose : (List UInt8)
 f_Usage : Int
 f_Policies : (List (List UInt8))
 f_Explicit : Bool
 f_NoMapping : Bool
 f_NoAny : Bool
 f_Names : (List T_api_GeneralName)
 f_MaxLength : Int
 f_Status : Bool
 f_Issuers : (List T_api_Anchor)
def T_api_Query.cells (x : T_api_Query) : List V := [.int .i64 x.f_Time, .str x.f_Purpose, .int .i64 x.f_Usage, .sl 1 (List.map cS x.f_Policies) .none, .bool x.f_Explicit, .bool x.f_NoMapping, .bool x.f_NoAny, .sl 3 (List.map T_api_GeneralName.cells x.f_Names) .none, .int .i64 x.f_MaxLength, .bool x.f_Status, .sl 4 (List.map T_api_Anchor.cells x.f_Issuers) .none]
structure T_api_Date where
 f_Year : Int
 f_Month : Int
 f_Day : Int
 f_Hour : Int
 f_Minute : Int
 f_Second : Int
def T_api_Date.cells (x : T_api_Date) : List V := [.int .i64 x.f_Year, .int .i64 x.f_Month, .int .i64 x.f_Day, .int .i64 x.f_Hour, .int .i64 x.f_Minute, .int .i64 x.f_Second]
structure T_wire_buffer where
 f_b : (List UInt8)
 f_e : Int
def T_wire_buffer.cells (x : T_wire_buffer) : List V := [.str x.f_b, .int .i64 x.f_e]
structure T_api_Element where
 f_Tag : Int
 f_Content : (List UInt8)
 f_Raw : (List UInt8)
def T_api_Element.cells (x : T_api_Element) : List V := [.int .i64 x.f_Tag, .str x.f_Content, .str x.f_Raw]
structure T_wire_reader where
 f_l : (List T_api_Element)
 f_failed : Bool
def T_wire_reader.cells (x : T_wire_reader) : List V := [.sl 3 (List.map T_api_Element.cells x.f_l) .none, .bool x.f_failed]
structure T_api_Result where
 f_Check : Int
 f_Position : Int
 f_Policies : (List (List UInt8))
def T_api_Result.cells (x : T_api_Result) : List V := [.int .i64 x.f_Check, .int .i64 x.f_Position, .sl 1 (List.map cS x.f_Policies) .none]
structure T_api_Found where
 f_Anchor : Int
 f_Path : (List Int)
 f_Result : T_api_Result
def T_api_Found.cells (x : T_api_Found) : List V := [.int .i64 x.f_Anchor, .sl 1 (List.map (cI .i64) x.f_Path) .none, .int .i64 x.f_Result.f_Check, .int .i64 x.f_Result.f_Position, .sl 1 (List.map cS x.f_Result.f_Policies) .none]
end Go.Abs
end
