/- The typed Lean form of ScriptLimits gives true for every two numbers. Condition: none beyond each statement's own. -/
import Derived.Test.YthfhicembdpjpaaGreatDoorW3
set_option linter.unusedVariables false
set_option linter.unusedSimpArgs false
set_option linter.unnecessarySimpa false
section
set_option maxRecDepth 100000
namespace Go.Abs
open Go Go.Proofs
def lmN : Nat := 5000
theorem awake_true : go_certpathlaw38_awake lmN = some true := by kernel_rfl
def lmZ : T_api_Deed := (T_api_Deed.mk 0 0 (T_api_Act.mk 0 0 0 ([] : List UInt8) (T_api_Info.mk false false 0 0 ([] : (List (List UInt8))) ([] : (List (List UInt8))) ([] : (List T_api_Mapping)) 0 0 0 ([] : (List T_api_GeneralName)) false (T_api_Subtrees.mk ([] : (List T_api_GeneralName)) ([] : (List T_api_GeneralName))) ([] : List UInt8) ([] : List UInt8) ([] : (List T_api_Point)) ([] : (List T_api_Point)) ([] : (List T_api_Extension))) 0 0 0 0 0 0 false) false 0 0 0 (T_api_View.mk 0 ([] : (List Int))) (T_api_Query.mk 0 ([] : List UInt8) 0 ([] : (List (List UInt8))) false false false ([] : (List T_api_GeneralName)) 0 false ([] : (List T_api_Anchor))) ([] : (List Int)))
def lmD : T_api_Deed := {lmZ with f_Kind := 4}
def lmL : List UInt8 := [99, 111, 109, 112, 97, 99, 116, 32, 48]
theorem deed_c : go_script_deed lmN lmD = some (lmL ++ [10], 0) := by kernel_rfl
theorem parse_c : (match go_script_parseDeed lmN lmL with | some r => r.2 == 0 | none => false) = true := by kernel_rfl
theorem pre_c : go_strings_HasPrefix lmN lmL [97, 117, 116, 104, 111, 114, 105, 116, 121, 32] = some false := by kernel_rfl
def lmA : List UInt8 := [97, 117, 116, 104, 111, 114, 105, 116, 121, 32]
def lmS : List UInt8 → List UInt8 → List (List UInt8)
 | [], _ => []
 | c :: r, a => if c == 10 then a.reverse :: lmS r [] else lmS r (c :: a)
def lmK (L : List UInt8) : Bool := (!L.contains 10) && (go_strings_HasPrefix lmN L lmA == some true) && (match go_script_parseSettings lmN L with | some r => r.2 == 0 | none => false)
def lmJ (ls : List (List UInt8)) : List UInt8 := ls.flatMap (· ++ [10])
def lmC (n : Nat) : Bool := match go_certpathlaw38_ScriptLimits_l1 lmN ((n : Int), ⟨[], 0⟩) lmN [] [] 0 with
 | some (S, t) => (lmS t []).all lmK && (lmS t []).length == n && lmJ (lmS t []) == t && Nat.ble t.length 3000 && S.length == n && (match go_script_Format_l1 lmN S lmN 0 [] [] with | some (.nxt (u, v)) => u == v && Nat.ble u.length 3000 | _ => false)
 | none => false
theorem lm_c0 : lmC 0 = true := by kernel_rfl
theorem lm_c1 : lmC 1 = true := by kernel_rfl
theorem lm_c2 : lmC 2 = true := by kernel_rfl
theorem lm_c3 : lmC 3 = true := by kernel_rfl
theorem lm_c4 : lmC 4 = true := by kernel_rfl
theorem lm_c5 : lmC 5 = true := by kernel_rfl
theorem lm_c6 : lmC 6 = true := by kernel_rfl
theorem lm_c7 : lmC 7 = true := by kernel_rfl
theorem lm_c8 : lmC 8 = true := by kernel_rfl
theorem lm_c9 : lmC 9 = true := by kernel_rfl
theorem lm_c10 : lmC 10 = true := by kernel_rfl
theorem lm_c {n : Nat} (h : n ≤ 10) : lmC n = true := by
 match n, h with
 | 0, _ => exact lm_c0
 | 1, _ => exact lm_c1
 | 2, _ => exact lm_c2
 | 3, _ => exact lm_c3
 | 4, _ => exact lm_c4
 | 5, _ => exact lm_c5
 | 6, _ => exact lm_c6
 | 7, _ => exact lm_c7
 | 8, _ => exact lm_c8
 | 9, _ => exact lm_c9
 | 10, _ => exact lm_c10
theorem lm_get {n : Nat} (h : n ≤ 10) : ∃ S ls u, go_certpathlaw38_ScriptLimits_l1 lmN ((n : Int), ⟨[], 0⟩) lmN [] [] 0 = some (S, lmJ ls) ∧ (∀ L ∈ ls, lmK L = true) ∧ ls.length = n ∧ (lmJ ls).length ≤ 3000 ∧ S.length = n ∧
  go_script_Format_l1 lmN S lmN 0 [] [] = some (.nxt (u, u)) ∧ u.length ≤ 3000 := by
 have hc := lm_c h
 unfold lmC at hc
 split at hc
 ·rename_i S t e
  simp only [Bool.and_eq_true, beq_iff_eq, List.all_eq_true, Nat.ble_eq] at hc
  obtain ⟨⟨⟨⟨⟨h1, h2⟩, h3⟩, h4⟩, h5⟩, h6⟩ := hc
  split at h6
  ·rename_i u v e2
   simp only [Bool.and_eq_true, beq_iff_eq, Nat.ble_eq] at h6
   obtain ⟨rfl, h7⟩ := h6
   exact ⟨S, lmS t [], u, by rw [h3]; exact e, h1, h2, by rw [h3]; exact h4, h5, e2, h7⟩
  ·cases h6
 ·cases hc
end Go.Abs
end
