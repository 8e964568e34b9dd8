/- The typed Lean form of ScriptLimits gives true for every two numbers. Condition: none beyond each statement's own. -/
import Derived.Test.YthfhicembdpjpaaGreatDoorLaw1
set_option linter.unusedVariables false
set_option linter.unusedSimpArgs false
set_option linter.unnecessarySimpa false
section
set_option maxRecDepth 100000
namespace Go.Abs
open Go Go.Proofs
theorem lm_w {x : Int} (h : -9223372036854775808 ≤ x ∧ x ≤ 9223372036854775807) : IntKind.wrap .i64 x = x := IntWalk.i64_in x h
theorem lm_idx : ∀ (L rest : List UInt8), L.contains 10 = false → Lib.index (L ++ 10 :: rest) [10] = L.length
 | [], rest, _ => by simp [Lib.index]
 | c :: L, rest, h => by
  simp only [List.contains_cons, Bool.or_eq_false_iff] at h
  have h1 := lm_idx L rest h.2
  have h2 : ((10 : UInt8) == c) = false := h.1
  simp only [List.cons_append, Lib.index, h1, List.isPrefixOf, h2, Bool.false_and, Bool.false_eq_true, if_false, List.length_cons]
  rw [if_neg (by simp)]
  omega
theorem lm_cut {n : Nat} {L rest : List UInt8} (h : L.contains 10 = false) (hl : (L ++ 10 :: rest).length < 4294967281) : go_strings_Cut n (L ++ 10 :: rest) [10] = some (L, rest, true) := by
 have h1 : ct_lIndex n (L ++ 10 :: rest) [10] = some (L.length : Int) := by
  unfold ct_lIndex
  rw [if_pos hl, lm_idx L rest h]
 have hl' : L.length + (rest.length + 1) < 4294967281 := by simpa using hl
 have h2 : ssl (L ++ 10 :: rest) 0 (L.length : Int) = some L := by
  unfold ssl
  rw [if_pos ⟨by omega, by omega, by simp; omega⟩]
  simp
 have h3 : ssl (L ++ 10 :: rest) (IntKind.wrap .i64 ((L.length : Int) + (([10] : List UInt8).length : Int))) ((L ++ 10 :: rest).length : Int) = some rest := by
  unfold ssl
  have e1 : IntKind.wrap .i64 ((L.length : Int) + (([10] : List UInt8).length : Int)) = ((L.length + 1 : Nat) : Int) := by
   rw [lm_w (by simp; omega)]; simp
  rw [e1, if_pos ⟨by omega, by simp; omega, by omega⟩]
  simp only [Int.toNat_natCast, List.take_length]
  rw [List.drop_append]
  simp
 unfold go_strings_Cut go_internal_stringslite_Cut
 rw [h1]
 simp only [Option.bind_some]
 rw [if_pos (by simp), h2, h3]
 rfl
theorem lm_K {L : List UInt8} (h : lmK L = true) : L.contains 10 = false ∧ go_strings_HasPrefix lmN L lmA = some true ∧ ∃ r, go_script_parseSettings lmN L = some r ∧ r.2 = 0 := by
 unfold lmK at h
 simp only [Bool.and_eq_true, Bool.not_eq_true', beq_iff_eq] at h
 obtain ⟨⟨h1, h2⟩, h3⟩ := h
 split at h3
 ·rename_i r e
  exact ⟨h1, h2, r, e, by simpa using h3⟩
 ·cases h3
theorem lm_ne (L rest : List UInt8) : (!(L ++ 10 :: rest == ([] : List UInt8))) = true := by
 cases L <;> rfl
theorem lm_app {α : Type} {b : Nat} {l : List α} {x : α} (h : (l.length + 1) * b ≤ 140737488355328) : lapp b l [x] = some (l ++ [x]) := if_pos h
theorem lm_stepS {k : Nat} {c : Int} {v : List T_api_Settings} {L rest : List UInt8} (hL : lmK L = true) (hl : (L ++ 10 :: rest).length < 4294967281) (hv : v.length ≤ 8) :
  (v.length + 1 ≤ 8 → ∃ x, go_script_Parse_l1 lmN (k + 1) (L ++ 10 :: rest) v [] c = go_script_Parse_l1 lmN k rest (v ++ [x]) [] (IntKind.wrap .i64 (c + 1))) ∧
  (v.length = 8 → go_script_Parse_l1 lmN (k + 1) (L ++ 10 :: rest) v [] c = some (.ret ([], [], c, 2))) := by
 obtain ⟨h1, h2, r, h3, h4⟩ := lm_K hL
 rw [go_script_Parse_l1, if_pos (lm_ne L rest), lm_cut h1 hl]
 simp only [Option.bind_some]
 rw [show ([97, 117, 116, 104, 111, 114, 105, 116, 121, 32] : List UInt8) = lmA from rfl, h2]
 simp only [Option.bind_some, Bool.not_true, Bool.false_eq_true, if_false, if_true, List.length_nil]
 rw [h3]
 simp only [Option.bind_some]
 generalize T_api_Settings.mk _ _ _ _ _ = x
 rw [lm_app (by omega)]
 have e0 : decide (((0 : Nat) : Int) > 0) = false := rfl
 simp only [Option.bind_some, h4, e0, Bool.false_eq_true, if_false]
 refine ⟨fun hv' => ⟨x, ?_⟩, fun hv' => ?_⟩
 ·have e1 : decide (((v ++ [x]).length : Int) > 8) = false := by simp; omega
  have e2 : decide ((([] : List T_api_Deed).length : Int) > 4096) = false := rfl
  simp only [e1, e2, beq_self_eq_true, if_true, Bool.false_eq_true, if_false, Option.bind_some]
  rfl
 ·have e1 : decide (((v ++ [x]).length : Int) > 8) = true := by simp; omega
  simp only [e1, beq_self_eq_true, if_true, Option.bind_some]
  rfl
theorem lm_stepD {k : Nat} {c : Int} {v : List T_api_Settings} {d : List T_api_Deed} {rest : List UInt8} (hl : (lmL ++ 10 :: rest).length < 4294967281) (hv : v.length ≤ 8) (hd : d.length ≤ 4096) :
  (d.length + 1 ≤ 4096 → ∃ x, go_script_Parse_l1 lmN (k + 1) (lmL ++ 10 :: rest) v d c = go_script_Parse_l1 lmN k rest v (d ++ [x]) (IntKind.wrap .i64 (c + 1))) ∧
  (d.length = 4096 → go_script_Parse_l1 lmN (k + 1) (lmL ++ 10 :: rest) v d c = some (.ret ([], [], c, 2))) := by
 have hp := parse_c
 split at hp
 ·rename_i r h3
  have h4 : r.2 = 0 := by simpa using hp
  rw [go_script_Parse_l1, if_pos (lm_ne lmL rest), lm_cut (by decide) hl]
  simp only [Option.bind_some]
  rw [pre_c]
  simp only [Option.bind_some, Bool.not_true, Bool.false_eq_true, if_false]
  rw [h3]
  simp only [Option.bind_some]
  generalize T_api_Deed.mk _ _ _ _ _ _ _ _ _ _ = x
  rw [lm_app (by omega)]
  simp only [Option.bind_some, h4]
  have e0 : decide ((v.length : Int) > 8) = false := by simp; omega
  refine ⟨fun hv' => ⟨x, ?_⟩, fun hv' => ?_⟩
  ·have e1 : decide (((d ++ [x]).length : Int) > 4096) = false := by simp; omega
   simp only [e0, e1, beq_self_eq_true, if_true, Bool.false_eq_true, if_false, Option.bind_some]
   rfl
  ·have e1 : decide (((d ++ [x]).length : Int) > 4096) = true := by simp; omega
   simp only [e0, e1, beq_self_eq_true, if_true, Bool.false_eq_true, if_false, Option.bind_some]
   rfl
 ·cases hp
def lmR (m : Nat) : List UInt8 := lmJ (List.replicate m lmL)
theorem lmR_succ (m : Nat) : lmR (m + 1) = lmL ++ 10 :: lmR m := by simp [lmR, lmJ, List.replicate_succ]
theorem lmR_len (m : Nat) : (lmR m).length = 10 * m := by
 induction m with
 | zero => rfl
 | succ m ih => rw [lmR_succ]; simp [ih, lmL]; omega
theorem lmR_snoc (m : Nat) : lmR (m + 1) = lmR m ++ (lmL ++ [10]) := by
 induction m with
 | zero => rfl
 | succ m ih =>
  rw [lmR_succ (m + 1)]
  conv => lhs; rw [ih]
  rw [lmR_succ m]; simp
theorem lmJ_cons (L : List UInt8) (ls : List (List UInt8)) (rest : List UInt8) : lmJ (L :: ls) ++ rest = L ++ 10 :: (lmJ ls ++ rest) := by simp [lmJ]
theorem lm_pS {rest : List UInt8} (k : Nat) : ∀ (ls : List (List UInt8)) (v : List T_api_Settings) (c : Int), (∀ L ∈ ls, lmK L = true) → v.length + ls.length ≤ 8 → 0 ≤ c → c + ls.length ≤ 100000 → (lmJ ls ++ rest).length < 4294967281 →
  ∃ v', v'.length = v.length + ls.length ∧ go_script_Parse_l1 lmN (k + ls.length) (lmJ ls ++ rest) v [] c = go_script_Parse_l1 lmN k rest v' [] (c + ls.length)
 | [], v, c, _, _, _, _, _ => ⟨v, rfl, by simp [lmJ]⟩
 | L :: ls, v, c, hL, hv, h0, h1, hl => by
  simp only [List.length_cons] at hv h1 ⊢
  rw [lmJ_cons] at hl ⊢
  obtain ⟨x, hx⟩ := (lm_stepS (k := k + ls.length) (c := c) (v := v) (hL L (by simp)) hl (by omega)).1 (by omega)
  rw [show k + (ls.length + 1) = k + ls.length + 1 from (Nat.add_assoc _ _ _).symm, hx, lm_w (by omega)]
  obtain ⟨v', e1, e2⟩ := lm_pS (rest := rest) k ls (v ++ [x]) (c + 1) (fun L h => hL L (by simp [h])) (by simp; omega) (by omega) (by omega) (by simp at hl ⊢; omega)
  exact ⟨v', by rw [e1]; simp; omega, by rw [e2]; congr 1; omega⟩
theorem lm_pD {v : List T_api_Settings} {rest : List UInt8} (hv : v.length ≤ 8) (k : Nat) : ∀ (m : Nat) (d : List T_api_Deed) (c : Int), d.length + m ≤ 4096 → 0 ≤ c → c + m ≤ 100000 → (lmR m ++ rest).length < 4294967281 →
  ∃ d', d'.length = d.length + m ∧ go_script_Parse_l1 lmN (k + m) (lmR m ++ rest) v d c = go_script_Parse_l1 lmN k rest v d' (c + m)
 | 0, d, c, _, _, _, _ => ⟨d, rfl, by simp [lmR, lmJ]⟩
 | m + 1, d, c, hd, h0, h1, hl => by
  have e0 : lmR (m + 1) ++ rest = lmL ++ 10 :: (lmR m ++ rest) := by rw [lmR_succ]; simp
  rw [e0] at hl ⊢
  obtain ⟨x, hx⟩ := (lm_stepD (k := k + m) (c := c) (v := v) (d := d) hl hv (by omega)).1 (by omega)
  rw [show k + (m + 1) = k + m + 1 from (Nat.add_assoc _ _ _).symm, hx, lm_w (by omega)]
  obtain ⟨d', e1, e2⟩ := lm_pD (rest := rest) hv k m (d ++ [x]) (c + 1) (by simp; omega) (by omega) (by omega) (by simp at hl ⊢; omega)
  exact ⟨d', by rw [e1]; simp; omega, by rw [e2]; congr 1; omega⟩
theorem lm_pE {k : Nat} {v : List T_api_Settings} {d : List T_api_Deed} {c : Int} : go_script_Parse_l1 lmN (k + 1) [] v d c = some (.nxt (v, d)) := by rw [go_script_Parse_l1]; rfl
theorem lm_fD (m : Nat) (hm : m ≤ 100000) (k : Nat) : ∀ (j i : Nat) (u : List UInt8), i + j = m → u.length + 10 * j ≤ 10000000 →
  go_script_Format_l2 lmN (List.replicate m lmD) (k + j + 1) (i : Int) u u = some (.nxt (u ++ lmR j, u ++ lmR j))
 | 0, i, u, hi, _ => by
  rw [go_script_Format_l2, if_neg (by simp; omega)]
  simp [lmR, lmJ]
 | j + 1, i, u, hi, hu => by
  have h1 : lidx (List.replicate m lmD) (i : Int) = some lmD := by
   unfold lidx
   rw [if_pos (by omega), Int.toNat_natCast, List.getElem?_replicate, if_pos (by omega)]
  rw [go_script_Format_l2, if_pos (by simp; omega), h1]
  simp only [Option.bind_some]
  refine Eq.trans (congrArg (fun o => Option.bind o _) deed_c) ?_
  simp only [Option.bind_some]
  rw [if_neg (by simp)]
  have h2 : ct_WS u u (lmL ++ [10]) = some (u ++ (lmL ++ [10])) := by
   unfold ct_WS
   rw [if_pos ⟨rfl, by simp, by simp [lmL]; omega⟩]
  rw [h2]
  simp only [Option.bind_some]
  rw [lm_w (by omega)]
  have h3 := lm_fD m hm k j (i + 1) (u ++ (lmL ++ [10])) (by omega) (by simp [lmL]; omega)
  rw [show ((i : Int) + 1) = ((i + 1 : Nat) : Int) by omega]
  rw [show k + (j + 1) = k + j + 1 from rfl, h3]
  have h4 : u ++ (lmL ++ [10]) ++ lmR j = u ++ lmR (j + 1) := by rw [lmR_succ]; simp
  rw [h4]
theorem lm_b2s (s : List UInt8) : b2s (s2b s) = s := by
 unfold b2s s2b
 rw [List.map_map]
 conv => rhs; rw [← List.map_id s]
 apply List.map_congr_left
 intro x _
 simp
theorem lm_set {α : Type} (D Z : α) (i j : Nat) : (List.replicate i D ++ List.replicate (j + 1) Z)[i]? = some Z ∧ (List.replicate i D ++ List.replicate (j + 1) Z).set i D = List.replicate (i + 1) D ++ List.replicate j Z := by
 constructor
 ·rw [List.getElem?_append_right (by simp)]; simp
 ·rw [List.set_append_right _ _ (by simp), List.replicate_succ' (n := i)]
  simp [List.replicate_succ]
theorem lm_l3 (n m : Nat) (hm : m ≤ 100000) (k : Nat) : ∀ (j i : Nat), i + j = m →
  go_certpathlaw38_ScriptLimits_l3 n (m : Int) m (k + j + 1) (s2b (lmR i)) (i : Int) (List.replicate i lmD ++ List.replicate j lmZ) = some (s2b (lmR m), List.replicate m lmD)
 | 0, i, hi => by
  obtain rfl : i = m := by omega
  rw [go_certpathlaw38_ScriptLimits_l3, if_neg (by simp)]
  simp
 | j + 1, i, hi => by
  have h1 : oidx m (i : Int) = some i := by unfold oidx; rw [if_pos (by omega)]; simp
  obtain ⟨h2, h3⟩ := lm_set lmD lmZ i j
  rw [go_certpathlaw38_ScriptLimits_l3, if_pos (by simp; omega), h1]
  simp only [Option.bind_some]
  have h4 : lupd (List.replicate i lmD ++ List.replicate (j + 1) lmZ) i (fun q : T_api_Deed => {q with f_Kind := 4}) = some (List.replicate (i + 1) lmD ++ List.replicate j lmZ) := by
   unfold lupd
   rw [h2]
   simp only
   rw [← h3]; rfl
  rw [h4]
  simp only [Option.bind_some]
  have h5 : lappS 1 (s2b (lmR i)) [99, 111, 109, 112, 97, 99, 116, 32, 48, 10] = some (s2b (lmR (i + 1))) := by
   unfold lappS
   rw [if_pos (by simp [s2b, lmR_len]; omega), lmR_snoc]
   simp [s2b, lmL]
  rw [h5]
  simp only [Option.bind_some]
  rw [lm_w (by omega), show ((i : Int) + 1) = ((i + 1 : Nat) : Int) by omega, show k + (j + 1) = k + j + 1 from rfl]
  exact lm_l3 n m hm k j (i + 1) (by omega)
theorem lm_l1 (n : Nat) (a : Int) (d d' : T_certpathmade_Deck) : ∀ (k : Nat) (S : List T_api_Settings) (t : List UInt8) (i : Int), go_certpathlaw38_ScriptLimits_l1 n (a, d) k S t i = go_certpathlaw38_ScriptLimits_l1 n (a, d') k S t i
 | 0, S, t, i => rfl
 | k + 1, S, t, i => by
  rw [go_certpathlaw38_ScriptLimits_l1, go_certpathlaw38_ScriptLimits_l1]
  simp only [lm_l1 n a d d' k]
theorem lm_fmt {n m : Nat} {S : List T_api_Settings} {u : List UInt8} (hS : S.length = n) (hm : m ≤ 4097) (hu : u.length ≤ 3000) (h1 : go_script_Format_l1 lmN S lmN 0 [] [] = some (.nxt (u, u))) :
  ∃ w, go_script_Format lmN S (List.replicate m lmD) = some (w, if n > 8 ∨ m > 4096 then 2 else 0) := by
 unfold go_script_Format
 simp only [hS, List.length_replicate]
 by_cases hn : n > 8
 ·have e1 : decide ((n : Int) > 8) = true := by simp; omega
  rw [if_pos e1]
  simp only [Option.bind_some, if_true]
  exact ⟨[], by rw [if_pos (.inl hn)]⟩
 ·have e1 : decide ((n : Int) > 8) = false := by simp; omega
  rw [e1]
  simp only [Bool.false_eq_true, if_false, Option.bind_some]
  by_cases h4 : m > 4096
  ·rw [if_pos (by simp; omega)]
   exact ⟨[], by rw [if_pos (.inr h4)]⟩
  ·rw [if_neg (by simp; omega), h1]
   have h5 := lm_fD m (by omega) (4999 - m) m 0 u (by omega) (by omega)
   rw [show 4999 - m + m + 1 = lmN by unfold lmN; omega] at h5
   simp only [ctlB]
   rw [show (0 : Int) = ((0 : Nat) : Int) from rfl, h5]
   simp only [ct_Str, if_true, Option.bind_some]
   exact ⟨_, by rw [if_neg (by omega)]⟩
theorem lm_prs {n m : Nat} {ls : List (List UInt8)} (hn : n ≤ 10) (hls : ls.length = n) (hL : ∀ L ∈ ls, lmK L = true) (hlen : (lmJ ls).length ≤ 3000) (hm : m ≤ 4097) :
  ∃ a b, go_script_Parse lmN (lmJ ls ++ lmR m) = some (a, b, if n > 8 then 9 else if m > 4096 then ((n + m : Nat) : Int) else 0, if n > 8 ∨ m > 4096 then 2 else 0) := by
 unfold go_script_Parse
 have hl : (lmJ ls ++ lmR m).length ≤ 50000 := by simp [lmR_len]; omega
 rw [if_neg (by simp at hl ⊢; omega)]
 by_cases h8 : n > 8
 ·obtain ⟨l1, L, l2, rfl, h3⟩ : ∃ l1 L l2, ls = l1 ++ L :: l2 ∧ l1.length = 8 := by
   refine ⟨ls.take 8, ls[8]'(by omega), ls.drop 9, ?_, by simp; omega⟩
   rw [← List.drop_eq_getElem_cons, List.take_append_drop]
  have e1 : lmJ (l1 ++ L :: l2) ++ lmR m = lmJ l1 ++ (L ++ 10 :: (lmJ l2 ++ lmR m)) := by simp [lmJ]
  rw [e1] at hl ⊢
  obtain ⟨v', g1, g2⟩ := lm_pS (rest := L ++ 10 :: (lmJ l2 ++ lmR m)) (4992) l1 [] 1 (fun L h => hL L (by simp [h])) (by simp; omega) (by omega) (by omega) (by omega)
  rw [h3] at g1 g2
  have g3 := (lm_stepS (k := 4991) (c := 1 + ((8 : Nat) : Int)) (v := v') (L := L) (rest := lmJ l2 ++ lmR m) (hL L (by simp)) (by simp only [List.length_append] at hl ⊢; omega) (by simp at g1; omega)).2 (by simpa using g1)
  rw [show (4992 + 8 : Nat) = lmN from rfl] at g2
  rw [g2, g3]
  simp only [ctlB]
  exact ⟨[], [], by rw [if_pos h8, if_pos (.inl h8)]; rfl⟩
 ·by_cases h4 : m > 4096
  ·obtain rfl : m = 4096 + 1 := by omega
   rw [lmR_snoc, show lmL ++ [10] = lmL ++ 10 :: [] from rfl] at hl ⊢
   obtain ⟨v', g1, g2⟩ := lm_pS (rest := lmR 4096 ++ (lmL ++ 10 :: [])) (5000 - n) ls [] 1 hL (by simp; omega) (by omega) (by omega) (by omega)
   obtain ⟨d', g3, g4⟩ := lm_pD (v := v') (rest := lmL ++ 10 :: []) (by simp at g1; omega) (904 - n) 4096 [] (1 + (ls.length : Int)) (by simp) (by omega) (by omega) (by simp only [List.length_append] at hl ⊢; omega)
   have g5 := (lm_stepD (k := 903 - n) (c := 1 + (ls.length : Int) + ((4096 : Nat) : Int)) (v := v') (d := d') (rest := []) (by decide) (by simp at g1; omega) (by simp at g3; omega)).2 (by simpa using g3)
   rw [show 5000 - n + ls.length = lmN by unfold lmN; omega, show 5000 - n = 904 - n + 4096 by omega, g4, show 904 - n = 903 - n + 1 by omega, g5] at g2
   rw [g2]
   simp only [ctlB]
   refine ⟨[], [], ?_⟩
   rw [if_neg h8, if_pos h4, if_pos (.inr h4)]
   simp only [Option.some.injEq, Prod.mk.injEq, true_and, and_true]
   omega
  ·obtain ⟨v', g1, g2⟩ := lm_pS (rest := lmR m) (5000 - n) ls [] 1 hL (by simp; omega) (by omega) (by omega) (by omega)
   obtain ⟨d', g3, g4⟩ := lm_pD (v := v') (rest := []) (by simp at g1; omega) (5000 - n - m) m [] (1 + (ls.length : Int)) (by simp; omega) (by omega) (by omega) (by simp [lmR_len]; omega)
   rw [List.append_nil] at g4
   rw [show 5000 - n + ls.length = lmN by unfold lmN; omega, show 5000 - n = 5000 - n - m + m by omega, g4, show 5000 - n - m = 4999 - n - m + 1 by omega, lm_pE] at g2
   rw [g2]
   simp only [ctlB]
   exact ⟨_, _, by rw [if_neg h8, if_neg h4, if_neg (by omega)]⟩
def DeckOk (d : T_certpathmade_Deck) : Prop := 0 ≤ d.f_At ∧ d.f_At ≤ (d.f_L.length : Int) ∧ d.f_L.length ≤ 9223372036854775807
theorem lidx_some {α : Type} {l : List α} {i : Int} (h0 : 0 ≤ i) (h1 : i < (l.length : Int)) : ∃ x, lidx l i = some x ∧ x ∈ l := by
 have h : i.toNat < l.length := by omega
 exact ⟨l[i.toNat], by simp [lidx, h0, h], by simp⟩
theorem next_law {n : Nat} {k : Int} {d : T_certpathmade_Deck} (hk : 0 < k) (hk2 : k ≤ 4611686018427387904) (hd : DeckOk d) :
  ∃ r d', go_certpathmade_Deck_Next n k d = some (r, d') ∧ 0 ≤ r ∧ r < k := by
 obtain ⟨h0, h1, h2⟩ := hd
 unfold go_certpathmade_Deck_Next
 by_cases hc : d.f_At ≥ (d.f_L.length : Int)
 ·exact ⟨0, d, by simp [hc], by omega, by omega⟩
 ·have ha : IntKind.wrap .i64 (d.f_At + 1) = d.f_At + 1 := lm_w (by omega)
  have hb : IntKind.wrap .i64 (IntKind.wrap .i64 (d.f_At + 1) - 1) = d.f_At := by rw [ha, lm_w (by omega)]; omega
  obtain ⟨x, hx, _⟩ := lidx_some h0 (Int.not_le.1 hc)
  have hm1 : -k < x.tmod k := by
   have := Int.lt_tmod_of_pos x hk; omega
  have hm2 : x.tmod k < k := Int.tmod_lt_of_pos x hk
  have hw : IntKind.wrap .i64 (x.tmod k + k) = x.tmod k + k := lm_w (by omega)
  refine ⟨(x.tmod k + k).tmod k, ⟨d.f_L, d.f_At + 1⟩, ?_, ?_, ?_⟩
  ·rw [hb, hx, ha]
   have hk' : k ≠ 0 := by omega
   simp [hc, irem, hk', hw]
  ·exact Int.tmod_nonneg k (by omega)
  ·exact Int.tmod_lt_of_pos _ hk
theorem lm_end {n m : Nat} (hn : n ≤ 10) (hm : m ≤ 4097) {S : List T_api_Settings} {ls : List (List UInt8)} {u : List UInt8} (h2 : ∀ L ∈ ls, lmK L = true) (h3 : ls.length = n) (h4 : (lmJ ls).length ≤ 3000) (h5 : S.length = n)
    (h6 : go_script_Format_l1 lmN S lmN 0 [] [] = some (.nxt (u, u))) (h7 : u.length ≤ 3000) :
    (go_script_Format lmN S (List.replicate m lmD)).bind (fun r87 =>
 (sadd (lmJ ls) (lmR m)).bind fun x88 =>
 (go_script_Parse lmN x88).bind fun r89 =>
 (if (decide ((m : Int) > 4096)) = true then (some (2, IntKind.wrap .i64 ((n : Int) + (m : Int)))) else (some ((0 : Int), (0 : Int)))).bind fun y92 =>
 (if (decide ((n : Int) > 8)) = true then (some ((2 : Int), (9 : Int))) else (some (y92.1, y92.2))).bind fun y96 =>
 (if (r87.2 == y96.1) = true then (if (r89.2.2.2 == y96.1) = true then (if (r89.2.2.1 == y96.2) = true then ((go_certpathlaw38_awake lmN).bind fun r98 =>
 some r98) else (some false)) else (some false)) else (some false)).bind fun y100 =>
 some y100) = some true := by
  obtain ⟨w, e1⟩ := lm_fmt h5 hm h7 h6
  obtain ⟨a, b, e2⟩ := lm_prs (m := m) hn h3 h2 h4 hm
  have e3 : sadd (lmJ ls) (lmR m) = some (lmJ ls ++ lmR m) := by
    unfold sadd
    rw [if_pos (by rw [lmR_len]; omega)]
  rw [e1]
  simp only [Option.bind_some]
  rw [e3]
  simp only [Option.bind_some]
  rw [e2, awake_true]
  simp only [Option.bind_some]
  by_cases h8 : n > 8
  · have d1 : decide ((n : Int) > 8) = true := by simp; omega
    simp only [d1, if_true, h8, true_or]
    by_cases hq : m > 4096
    · have d2 : decide ((m : Int) > 4096) = true := by simp; omega
      simp only [d2, if_true, Option.bind_some, beq_self_eq_true]
    · have d2 : decide ((m : Int) > 4096) = false := by simp; omega
      simp only [d2, Bool.false_eq_true, if_false, Option.bind_some, beq_self_eq_true, if_true]
  · have d1 : decide ((n : Int) > 8) = false := by simp; omega
    simp only [d1, Bool.false_eq_true, if_false, h8, false_or]
    by_cases hq : m > 4096
    · have d2 : decide ((m : Int) > 4096) = true := by simp; omega
      have d3 : IntKind.wrap .i64 ((n : Int) + (m : Int)) = ((n + m : Nat) : Int) := by rw [lm_w (by omega)]; simp
      simp only [d2, d3, hq, if_true, Option.bind_some, beq_self_eq_true]
    · have d2 : decide ((m : Int) > 4096) = false := by simp; omega
      simp only [d2, hq, Bool.false_eq_true, if_false, Option.bind_some, beq_self_eq_true, if_true]
theorem lm_om {m : Nat} (h0 : 0 < m) (hm : m ≤ 4097) : omake 632 (m : Int) (m : Int) = some m ∧ omake0 1 (IntKind.wrap .i64 ((10 : Int) * (m : Int))) = some () := by
 rw [lm_w (by omega)]
 unfold omake omake0
 rw [if_pos ⟨by omega, by omega, by omega, by omega⟩, if_pos ⟨by omega, by omega, by omega⟩]
 exact ⟨by simp, rfl⟩
theorem limits_law (a b : Int) : ∃ n, go_certpathlaw38_ScriptLimits n a b = some true := by
 refine ⟨lmN, ?_⟩
 obtain ⟨x, d, e1, hx0, hx1⟩ := next_law (n := lmN) (k := 11) (d := ⟨[a], 0⟩) (by omega) (by omega) ⟨by simp, by simp, by simp⟩
 obtain ⟨y, d2, e2, hy0, hy1⟩ := next_law (n := lmN) (k := 4) (d := ⟨[b], 0⟩) (by omega) (by omega) ⟨by simp, by simp, by simp⟩
 obtain ⟨n, rfl⟩ := Int.eq_ofNat_of_zero_le hx0
 have hn : n ≤ 10 := by omega
 obtain ⟨S, ls, u, h1, h2, h3, h4, h5, h6, h7⟩ := lm_get hn
 have hl1 : go_certpathlaw38_ScriptLimits_l1 lmN ((n : Int), d) lmN [] [] 0 = some (S, lmJ ls) := by rw [lm_l1 lmN n d ⟨[], 0⟩]; exact h1
 unfold go_certpathlaw38_ScriptLimits
 simp only [go_certpathmade_New, Option.bind_some]
 rw [e1]
 simp only [Option.bind_some]
 rw [e2]
 simp only [Option.bind_some]
 rw [hl1]
 simp only [Option.bind_some]
 obtain ⟨m, hm, hm', e3⟩ : ∃ m : Nat, m ≤ 4097 ∧ (m = 0 ∨ 0 < m) ∧ lidx ([0, 1, 4096, 4097] : List Int) y = some (m : Int) := by
  obtain ⟨k, rfl⟩ := Int.eq_ofNat_of_zero_le hy0
  match k, hy1 with
  | 0, _ => exact ⟨0, by omega, .inl rfl, rfl⟩
  | 1, _ => exact ⟨1, by omega, .inr (by omega), rfl⟩
  | 2, _ => exact ⟨4096, by omega, .inr (by omega), rfl⟩
  | 3, _ => exact ⟨4097, by omega, .inr (by omega), rfl⟩
  | k + 4, h => omega
 rw [e3]
 simp only [Option.bind_some]
 have hend := lm_end hn hm h2 h3 h4 h5 h6 h7
 rcases hm' with rfl | hpos
 ·rw [if_pos (by rfl)]
  rw [show omake0 632 ((0 : Nat) : Int) = some () from rfl, show omake0 1 (IntKind.wrap .i64 ((10 : Int) * ((0 : Nat) : Int))) = some () from rfl]
  simp only [Option.bind_some]
  rw [show go_certpathlaw38_ScriptLimits_l2 lmN ((0 : Nat) : Int) lmN = some () from rfl]
  simp only [Option.bind_some]
  exact hend
 ·obtain ⟨o1, o2⟩ := lm_om hpos hm
  rw [if_neg (by simp; omega), o1]
  simp only [Option.bind_some]
  rw [o2]
  simp only [Option.bind_some]
  have h8 := lm_l3 lmN m (by omega) (4999 - m) m 0 (by omega)
  rw [show 4999 - m + m + 1 = lmN by unfold lmN; omega] at h8
  have h9 : ofrz m (List.replicate m lmD) = some (List.replicate m lmD) := by
   unfold ofrz
   rw [if_pos (by simp)]
   simp
  refine Eq.trans (congrArg (fun o => Option.bind o _) h8) ?_
  simp only [Option.bind_some]
  rw [h9]
  simp only [Option.bind_some]
  rw [lm_b2s]
  exact hend
end Go.Abs
end
