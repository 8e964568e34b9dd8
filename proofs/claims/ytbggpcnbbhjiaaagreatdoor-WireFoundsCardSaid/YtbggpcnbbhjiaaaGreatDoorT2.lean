/- The program's types and functions in the abstract reading, its records as Lean structures, and the contracts of library functions. -/
import Derived.Test.YtbggpcnbbhjiaaaGreatDoorT1
set_option linter.unusedVariables false
set_option linter.unusedSimpArgs false
set_option linter.unnecessarySimpa false
section
namespace Go.Abs
open Go Go.Proofs
structure T_api_Result where
 f_Check : Int
 f_Position : Int
 f_Policies : (List (List UInt8))
def T_api_Result.cells (x : T_api_Result) : List V := [qi x.f_Check, qi x.f_Position, ql 1 cS x.f_Policies]
structure T_api_Found where
 f_Anchor : Int
 f_Path : (List Int)
 f_Result : T_api_Result
def T_api_Found.cells (x : T_api_Found) : List V := [qi x.f_Anchor, ql 1 (cI .i64) x.f_Path, qi x.f_Result.f_Check, qi x.f_Result.f_Position, ql 1 cS x.f_Result.f_Policies]
structure T_api_Attribute where
 f_Type : (List UInt8)
 f_Kind : Int
 f_Value : (List UInt8)
def T_api_Attribute.cells (x : T_api_Attribute) : List V := [qs x.f_Type, qi x.f_Kind, qs x.f_Value]
structure T_api_Name where
 f_RDNs : (List (List T_api_Attribute))
def T_api_Name.cells (x : T_api_Name) : List V := [ql 1 (cL 3 T_api_Attribute.cells) x.f_RDNs]
structure T_api_GeneralName where
 f_Kind : Int
 f_Text : (List UInt8)
 f_Name : T_api_Name
def T_api_GeneralName.cells (x : T_api_GeneralName) : List V := [qi x.f_Kind, qs x.f_Text, ql 1 (cL 3 T_api_Attribute.cells) x.f_Name.f_RDNs]
structure T_api_Key where
 f_Height : Int
 f_ID : (List UInt8)
 f_Root : (List UInt8)
def T_api_Key.cells (x : T_api_Key) : List V := [qi x.f_Height, qs x.f_ID, qs x.f_Root]
structure T_api_Anchor where
 f_Name : T_api_Name
 f_Key : T_api_Key
def T_api_Anchor.cells (x : T_api_Anchor) : List V := [ql 1 (cL 3 T_api_Attribute.cells) x.f_Name.f_RDNs, qi x.f_Key.f_Height, qs x.f_Key.f_ID, qs x.f_Key.f_Root]
structure T_api_Query where
 f_Time : Int
 f_Purpose : (List UInt8)
 f_Usage : Int
 f_Policies : (List (List UInt8))
 f_Explicit : Bool
 f_NoMapping : Bool
 f_NoAny : Bool
 f_Names : (List T_api_GeneralName)
 f_MaxLength : Int
 f_Status : Bool
 f_Issuers : (List T_api_Anchor)
def T_api_Query.cells (x : T_api_Query) : List V := [qi x.f_Time, qs x.f_Purpose, qi x.f_Usage, ql 1 cS x.f_Policies, qb x.f_Explicit, qb x.f_NoMapping, qb x.f_NoAny, ql 3 T_api_GeneralName.cells x.f_Names, qi x.f_MaxLength, qb x.f_Status, ql 4 T_api_Anchor.cells x.f_Issuers]
structure T_api_Date where
 f_Year : Int
 f_Month : Int
 f_Day : Int
 f_Hour : Int
 f_Minute : Int
 f_Second : Int
def T_api_Date.cells (x : T_api_Date) : List V := [qi x.f_Year, qi x.f_Month, qi x.f_Day, qi x.f_Hour, qi x.f_Minute, qi x.f_Second]
structure T_wire_buffer where
 f_b : (List UInt8)
 f_e : Int
def T_wire_buffer.cells (x : T_wire_buffer) : List V := [qs x.f_b, qi x.f_e]
structure T_api_Element where
 f_Tag : Int
 f_Content : (List UInt8)
 f_Raw : (List UInt8)
def T_api_Element.cells (x : T_api_Element) : List V := [qi x.f_Tag, qs x.f_Content, qs x.f_Raw]
structure T_wire_reader where
 f_l : (List T_api_Element)
 f_failed : Bool
def T_wire_reader.cells (x : T_wire_reader) : List V := [ql 3 T_api_Element.cells x.f_l, qb x.f_failed]
structure T_certpathmade_Deck where
 f_L : (List Int)
 f_At : Int
def T_certpathmade_Deck.cells (x : T_certpathmade_Deck) : List V := [ql 1 (cI .i64) x.f_L, qi x.f_At]
structure T_certpathref35_reader where
 f_l : (List T_api_Element)
 f_at : Int
 f_bad : Bool
def T_certpathref35_reader.cells (x : T_certpathref35_reader) : List V := [ql 3 T_api_Element.cells x.f_l, qi x.f_at, qb x.f_bad]
end Go.Abs
end
