/- The typed Lean form of WireFounds gives true for every list of at most 9223372036854775807 numbers and every value found. -/
import Derived.Test.YtbggpcnbbhjiaaaGreatDoorLaw3
set_option linter.unusedVariables false
set_option linter.unusedSimpArgs false
set_option linter.unnecessarySimpa false
section
set_option maxRecDepth 100000
namespace Go.Abs
open Go Go.Proofs
def sm (x : Int) : Bool := decide (0 ≤ x) && decide (x < 64)
def numE (t : Nat) (x : Int) : Nat × Bs := (t, [o8 x.toNat])
def polE (s : Bs) : Nat × Bs := (6, encO ((tArcs s).getD []))
def goodF (f : T_api_Found) : Bool := sm f.f_Anchor && f.f_Path.all sm && (decide (0 ≤ f.f_Result.f_Check) && decide (f.f_Result.f_Check ≤ 15)) && (decide (0 ≤ f.f_Result.f_Position) && decide (f.f_Result.f_Position ≤ 8))
def contF (f : T_api_Found) : List (Nat × Bs) := [numE 2 f.f_Anchor, (48, wraps (f.f_Path.map (numE 2))), numE 10 f.f_Result.f_Check, numE 2 f.f_Result.f_Position, (48, wraps (f.f_Result.f_Policies.map polE))]
def encF (f : T_api_Found) : Bs × Int :=
 if goodF f = false then ([], 1) else if 8 < f.f_Path.length then ([], 2) else if f.f_Result.f_Policies.all (fun s => (tArcs s).isSome) = false then ([], 11) else
 if 131072 < (wraps (f.f_Result.f_Policies.map polE)).length then ([], 2) else if 131072 < (wraps (contF f)).length then ([], 2) else ((tWrap 48 (wraps (contF f))).1, 0)
theorem tWrap_small {t : Nat} {c : Bs} (h : c.length ≤ 131072) : tWrap t c = ((tWrap t c).1, 0) := by unfold tWrap; rw [if_pos h]
theorem wrapP {n t : Nat} {c : Bs} (h1 : t ≤ 255) (h2 : t % 32 ≠ 31) (hc : c.length ≤ 1000000000000) (hn : 20 ≤ n) : go_tlv_Wrap n (t : Int) [c] = some (tWrap t c) := by
 have := tlv_Wrap (n := n) (t := t) (cs := [c]) h1 h2 (by simpa using hc) (by simp; omega) (by simp)
 rw [this]; simp
theorem wrapR {n t : Nat} {c : Bs} (h1 : t ≤ 255) (h2 : t % 32 ≠ 31) (hc : c.length ≤ 1000000000000) (hn : 20 ≤ n) : go_certpathref01_Wrap n (t : Int) [c] = some (tWrap t c) := by
 have := ref_Wrap (n := n) (t := t) (cs := [c]) h1 h2 (by simpa using hc) (by simp; omega) (by simp)
 rw [this]; simp
theorem addP {n : Nat} {b a : Bs} {e : Int} (h : b.length + a.length ≤ 1000000000000) : go_wire_buffer_add n a e ⟨b, 0⟩ = some ⟨b ++ a, e⟩ := by
 unfold go_wire_buffer_add
 rw [if_pos (by rfl), sadd_some (by show b.length + a.length ≤ _; omega)]; rfl
theorem elemP {n t : Nat} {b c : Bs} (h1 : t ≤ 255) (h2 : t % 32 ≠ 31) (hc : b.length + c.length ≤ 100000000000) (hn : 20 ≤ n) : go_wire_buffer_element n (t : Int) c ⟨b, 0⟩ = some ⟨b ++ (tWrap t c).1, (tWrap t c).2⟩ := by
 unfold go_wire_buffer_element
 have := tWrap_len t c
 rw [wrapP h1 h2 (by omega) hn, Option.bind_some, addP (by omega)]; rfl
theorem sm_nat {x : Int} (h : sm x = true) : ∃ v : Nat, x = (v : Int) ∧ v < 64 := by
 simp only [sm, Bool.and_eq_true, decide_eq_true_eq] at h
 exact ⟨x.toNat, by omega, by omega⟩
theorem intB {n t : Nat} {b : Bs} {x : Int} (hx : sm x = true) (h1 : t ≤ 255) (h2 : t % 32 ≠ 31) (hb : b.length ≤ 10000000000) (hn : 20 ≤ n) : go_wire_buffer_integer n (t : Int) x ⟨b, 0⟩ = some ⟨b ++ (tWrap t [o8 x.toNat]).1, 0⟩ := by
 obtain ⟨v, rfl, hv⟩ := sm_nat hx
 unfold go_wire_buffer_integer
 rw [putP_small hn hv, Option.bind_some, elemP h1 h2 (by simp; omega) hn, Int.toNat_natCast, tWrap_small (c := [o8 v]) (by simp)]; rfl
theorem intB_tot {n t : Nat} {b : Bs} {x : Int} (hx : sm x = true) (h1 : t ≤ 255) (h2 : t % 32 ≠ 31) (hb : b.length ≤ 10000000000) (hn : 20 ≤ n) : go_wire_buffer_number n x ⟨b, 0⟩ = some ⟨b ++ (tWrap 2 [o8 x.toNat]).1, 0⟩ := by
 unfold go_wire_buffer_number
 have := intB (n := n) (t := 2) hx (by omega) (by omega) hb hn
 rw [show ((2 : Nat) : Int) = 2 from rfl] at this
 rw [this]; rfl
theorem wraps_cons (l : List (Nat × Bs)) (p : Nat × Bs) : wraps (p :: l) = (tWrap p.1 p.2).1 ++ wraps l := by simp [wraps, -List.length_flatten]
theorem wraps_len {m : Nat} : ∀ l : List (Nat × Bs), (∀ p ∈ l, p.2.length ≤ m) → (wraps l).length ≤ (m + 5) * l.length
 | [], _ => by simp [wraps]
 | p :: l, h => by
  have h1 := h p (by simp)
  have h2 := tWrap_len p.1 p.2
  have ih := wraps_len l (fun q hq => h q (by simp [hq]))
  rw [wraps_cons, List.length_append, List.length_cons, Nat.mul_succ]; omega
theorem listI_l1 {n : Nat} (hn : 20 ≤ n) (a : List Int) (ha : a.length ≤ 100000000) (hs : a.all sm = true) : ∀ (k i : Nat) (b : Bs), i ≤ a.length → a.length - i < k → b.length + 6 * (a.length - i) ≤ 1000000000 →
  go_wire_list_int_l1 n a k (i : Int) b 0 = some (b ++ wraps ((a.drop i).map (numE 2)), 0)
 | 0, _, _, _, h, _ => by omega
 | k + 1, i, b, hi, hk, hb => by
  rw [go_wire_list_int_l1]
  by_cases hc : i < a.length
  ·have hx := List.all_eq_true.1 hs a[i] (List.getElem_mem hc)
   have hl := tWrap_len 2 [o8 a[i].toNat]
   simp only [List.length_singleton] at hl
   rw [if_pos (by rw [decide_eq_true_eq]; omega), lidx_nat hc, Option.bind_some, intB_tot (t := 2) hx (by omega) (by omega) (by omega) hn, Option.bind_some, w1 (by omega)]
   show go_wire_list_int_l1 n a k _ _ 0 = _
   rw [listI_l1 hn a ha hs k (i + 1) _ (by omega) (by omega) (by rw [List.length_append]; omega), List.drop_eq_getElem_cons hc, List.map_cons, wraps_cons, List.append_assoc]; rfl
  ·rw [if_neg (by rw [decide_eq_true_eq]; omega), List.drop_eq_nil_of_le (by omega)]; simp [wraps]
theorem paths_len (a : List Int) : (wraps (a.map (numE 2))).length ≤ 6 * a.length := by
 have := wraps_len (m := 1) (a.map (numE 2)) (by intro p hp; obtain ⟨x, _, rfl⟩ := List.mem_map.1 hp; exact Nat.le_refl _)
 rw [List.length_map] at this; omega
theorem listI {n : Nat} {a : List Int} {b : Bs} (hn : a.length + 20 ≤ n) (ha : a.length ≤ 100000000) (hs : a.all sm = true) (hb : b.length ≤ 1000000000) : go_wire_list_int n 48 a ⟨b, 0⟩ = some ⟨b ++ (tWrap 48 (wraps (a.map (numE 2)))).1, (tWrap 48 (wraps (a.map (numE 2)))).2⟩ := by
 unfold go_wire_list_int
 have h1 := listI_l1 (n := n) (by omega) a ha hs n 0 [] (by omega) (by omega) (by simp; omega)
 rw [show ((0 : Nat) : Int) = 0 from rfl, List.drop_zero, List.nil_append] at h1
 rw [show go_wire_numbers n ⟨[], 0⟩ = some ⟨[], 0⟩ from rfl, Option.bind_some]
 simp only []
 rw [h1, Option.bind_some]
 have hl := paths_len a
 have h2 := elemP (n := n) (t := 48) (b := b ++ []) (c := wraps (a.map (numE 2))) (by omega) (by omega) (by simp; omega) (by omega)
 rw [show ((48 : Nat) : Int) = 48 from rfl, List.append_nil] at h2
 simp only []
 rw [addP (by simp; omega), List.append_nil, Option.bind_some, h2]; rfl
theorem polB {n : Nat} {b s : Bs} (hs : s.length ≤ 100000000) (hn : s.length + 40 ≤ n) (h : (tArcs s).isSome = true) (hb : b.length ≤ 10000000000) : go_wire_buffer_oid n s ⟨b, 0⟩ = some ⟨b ++ (tWrap (polE s).1 (polE s).2).1, 0⟩ := by
 obtain ⟨l, hl⟩ := Option.isSome_iff_exists.1 h
 unfold go_wire_buffer_oid
 have hlen := encO_len (tArcs_ok hl)
 have h2 := elemP (n := n) (t := 6) (b := b) (c := encO l) (by omega) (by omega) (by omega) (by omega)
 rw [show ((6 : Nat) : Int) = 6 from rfl] at h2
 rw [oid_Encode hs hn hl, Option.bind_some]
 simp only []
 rw [addP (by simp; omega), List.append_nil, Option.bind_some, h2, tWrap_small (c := encO l) (by omega)]
 simp [polE, hl]
theorem listS_l1 {n B : Nat} (hB : B ≤ 100000000) (hn : B + 40 ≤ n) (a : List Bs) (ha : a.length ≤ 10000000) (hs : a.all (fun s => (tArcs s).isSome) = true) (hl : ∀ s ∈ a, s.length ≤ B) : ∀ (k i : Nat) (b : Bs), i ≤ a.length → a.length - i < k → b.length + 60 * (a.length - i) ≤ 1000000000 →
  go_wire_list_string_l1 n a k (i : Int) b 0 = some (b ++ wraps ((a.drop i).map polE), 0)
 | 0, _, _, _, h, _ => by omega
 | k + 1, i, b, hi, hk, hb => by
  rw [go_wire_list_string_l1]
  by_cases hc : i < a.length
  ·have hx := List.all_eq_true.1 hs a[i] (List.getElem_mem hc)
   have hxl := hl a[i] (List.getElem_mem hc)
   have hl0 := tWrap_len 6 (polE a[i]).2
   obtain ⟨l, he⟩ := Option.isSome_iff_exists.1 hx
   have hl1 : (polE a[i]).2.length ≤ 55 := by unfold polE; rw [he]; exact encO_len (tArcs_ok he)
   rw [if_pos (by rw [decide_eq_true_eq]; omega), lidx_nat hc, Option.bind_some, polB (by omega) (by omega) hx (by omega), Option.bind_some, w1 (by omega)]
   show go_wire_list_string_l1 n a k _ _ 0 = _
   rw [listS_l1 hB hn a ha hs hl k (i + 1) _ (by omega) (by omega) (by rw [List.length_append]; show b.length + (tWrap 6 (polE a[i]).2).1.length + _ ≤ _; omega), List.drop_eq_getElem_cons hc, List.map_cons, wraps_cons, List.append_assoc]
  ·rw [if_neg (by rw [decide_eq_true_eq]; omega), List.drop_eq_nil_of_le (by omega)]; simp [wraps]
theorem pols_len {a : List Bs} (hs : a.all (fun s => (tArcs s).isSome) = true) : (wraps (a.map polE)).length ≤ 60 * a.length := by
 have := wraps_len (m := 55) (a.map polE) (by
  intro p hp; obtain ⟨x, hx, rfl⟩ := List.mem_map.1 hp
  obtain ⟨l, he⟩ := Option.isSome_iff_exists.1 (List.all_eq_true.1 hs x hx)
  unfold polE; rw [he]; exact encO_len (tArcs_ok he))
 rw [List.length_map] at this; omega
theorem listS {n B : Nat} {a : List Bs} {b : Bs} (hB : B ≤ 100000000) (hn : a.length + B + 40 ≤ n) (ha : a.length ≤ 10000000) (hs : a.all (fun s => (tArcs s).isSome) = true) (hl : ∀ s ∈ a, s.length ≤ B) (hb : b.length ≤ 1000000000) : go_wire_list_string n 48 a ⟨b, 0⟩ = some ⟨b ++ (tWrap 48 (wraps (a.map polE))).1, (tWrap 48 (wraps (a.map polE))).2⟩ := by
 unfold go_wire_list_string
 have h1 := listS_l1 (n := n) hB (by omega) a ha hs hl n 0 [] (by omega) (by omega) (by simp; omega)
 rw [show ((0 : Nat) : Int) = 0 from rfl, List.drop_zero, List.nil_append] at h1
 rw [show go_wire_oids n ⟨[], 0⟩ = some ⟨[], 0⟩ from rfl, Option.bind_some]
 simp only []
 rw [h1, Option.bind_some]
 have hl := pols_len hs
 have h2 := elemP (n := n) (t := 48) (b := b ++ []) (c := wraps (a.map polE)) (by omega) (by omega) (by simp; omega) (by omega)
 rw [show ((48 : Nat) : Int) = 48 from rfl, List.append_nil] at h2
 simp only []
 rw [addP (by simp; omega), List.append_nil, Option.bind_some, h2]; rfl
structure Fit (n B : Nat) (f : T_api_Found) : Prop where
 b : B ≤ 100000000
 path : f.f_Path.length ≤ 10000000
 pols : f.f_Result.f_Policies.length ≤ 10000000
 pol : ∀ s ∈ f.f_Result.f_Policies, s.length ≤ B
 n : f.f_Path.length + f.f_Result.f_Policies.length + B + 400 ≤ n
theorem sm1 {n : Nat} (x : Int) : go_wire_EncodeFound_1 n x = some (sm x) := by
 unfold go_wire_EncodeFound_1 sm
 by_cases h : 0 ≤ x
 ·rw [if_pos (by simpa using h), decide_eq_true h]; simp
 ·rw [if_neg (by simpa using h), decide_eq_false h]; simp
theorem encW_l1 {n : Nat} (f : T_api_Found) (hl : f.f_Path.length ≤ 10000000) : ∀ (k i : Nat) (ok : Bool), i ≤ f.f_Path.length → f.f_Path.length - i < k → go_wire_EncodeFound_l1 n f k ok (i : Int) = some (ok && (f.f_Path.drop i).all sm)
 | 0, _, _, _, h => by omega
 | k + 1, i, ok, hi, hk => by
  rw [go_wire_EncodeFound_l1]
  by_cases hc : i < f.f_Path.length
  ·rw [if_pos (by rw [decide_eq_true_eq]; omega), lidx_nat hc, Option.bind_some, sm1]
   have : (if ok = true then (some (sm f.f_Path[i])).bind fun r54 => some r54 else some false) = some (ok && sm f.f_Path[i]) := by cases ok <;> rfl
   rw [this, Option.bind_some, w1 (by omega), encW_l1 f hl k (i + 1) _ (by omega) (by omega), List.drop_eq_getElem_cons hc, List.all_cons, Bool.and_assoc]
  ·rw [if_neg (by rw [decide_eq_true_eq]; omega), List.drop_eq_nil_of_le (by omega)]; simp
theorem encW_l2 {n B : Nat} (f : T_api_Found) (hf : Fit n B f) : ∀ (k i : Nat), i ≤ f.f_Result.f_Policies.length → f.f_Result.f_Policies.length - i < k → go_wire_EncodeFound_l2 n f k (i : Int) = some (if (f.f_Result.f_Policies.drop i).all (fun s => (tArcs s).isSome) = true then .nxt () else .ret ([], 11))
 | 0, _, _, h => by omega
 | k + 1, i, hi, hk => by
  have hb := hf.b
  have hp := hf.pols
  have hn := hf.n
  rw [go_wire_EncodeFound_l2]
  by_cases hc : i < f.f_Result.f_Policies.length
  ·have hl := hf.pol _ (List.getElem_mem hc)
   rw [if_pos (by rw [decide_eq_true_eq]; omega), lidx_nat hc, Option.bind_some, oid_Valid (by omega) (by omega), Option.bind_some, List.drop_eq_getElem_cons hc, List.all_cons]
   cases h : (tArcs f.f_Result.f_Policies[i]).isSome with
   | false => rw [if_pos (by rfl), if_neg (by simp)]
   | true => rw [if_neg (by simp), w1 (by omega), encW_l2 f hf k (i + 1) (by omega) (by omega), Bool.true_and]
  ·rw [if_neg (by rw [decide_eq_true_eq]; omega), List.drop_eq_nil_of_le (by omega)]; simp
theorem lo15 {x : Int} (h : 0 ≤ x ∧ x ≤ 15) : sm x = true := by simp only [sm, Bool.and_eq_true, decide_eq_true_eq]; omega
theorem contF_eq (f : T_api_Found) : wraps (contF f) = (tWrap 2 [o8 f.f_Anchor.toNat]).1 ++ (tWrap 48 (wraps (f.f_Path.map (numE 2)))).1 ++ (tWrap 10 [o8 f.f_Result.f_Check.toNat]).1 ++ (tWrap 2 [o8 f.f_Result.f_Position.toNat]).1 ++ (tWrap 48 (wraps (f.f_Result.f_Policies.map polE))).1 := by
 unfold contF
 simp only [wraps_cons, numE, List.append_assoc]
 simp [wraps]
theorem whole_err {n : Nat} {b : Bs} {e : Int} (he : e ≠ 0) (hb : b.length ≤ 100000000000) (hn : 20 ≤ n) : go_wire_buffer_whole n ⟨b, e⟩ = some ([], 2, ⟨b, e⟩) := by
 unfold go_wire_buffer_whole
 have := wrapP (n := n) (t := 48) (c := b) (by omega) (by omega) (by omega) hn
 rw [show ((48 : Nat) : Int) = 48 from rfl] at this
 rw [this]
 simp only [Option.bind_some]
 rw [if_pos (by simpa using he)]; rfl
theorem whole_ok {n : Nat} {b : Bs} (hb : b.length ≤ 100000000000) (hn : 20 ≤ n) : go_wire_buffer_whole n ⟨b, 0⟩ = some (if 131072 < b.length then ([], 2, ⟨b, 0⟩) else ((tWrap 48 b).1, 0, ⟨b, 0⟩)) := by
 unfold go_wire_buffer_whole
 have := wrapP (n := n) (t := 48) (c := b) (by omega) (by omega) (by omega) hn
 rw [show ((48 : Nat) : Int) = 48 from rfl] at this
 rw [this]
 simp only [Option.bind_some]
 rw [if_neg (by simp)]
 by_cases h : 131072 < b.length
 ·rw [if_pos h]; unfold tWrap; rw [if_neg (by omega)]; rfl
 ·rw [if_neg h, tWrap_small (by omega)]; rfl
theorem wrap_big {t : Nat} {c : Bs} (h : 131072 < c.length) : tWrap t c = ([], 6) := by unfold tWrap; rw [if_neg (by omega)]
theorem encP {n B : Nat} {f : T_api_Found} (hf : Fit n B f) : go_wire_EncodeFound n f = some (encF f) := by
 have hb := hf.b
 have hp := hf.pols
 have hpa := hf.path
 have hn := hf.n
 unfold go_wire_EncodeFound
 rw [sm1, Option.bind_some]
 have h1 := encW_l1 (n := n) f hpa n 0 (sm f.f_Anchor) (by omega) (by omega)
 rw [show ((0 : Nat) : Int) = 0 from rfl, List.drop_zero] at h1
 rw [h1, Option.bind_some]
 have hg : (if (!(sm f.f_Anchor && f.f_Path.all sm)) = true then some true else if (decide (f.f_Result.f_Check < 0)) = true then some true else if (decide (f.f_Result.f_Check > 15)) = true then some true else if (decide (f.f_Result.f_Position < 0)) = true then some true else some (decide (f.f_Result.f_Position > 8))) = some (!goodF f) := by
  unfold goodF
  cases sm f.f_Anchor && f.f_Path.all sm with
  | false => rfl
  | true =>
   rw [if_neg (by simp), Bool.true_and]
   by_cases c1 : f.f_Result.f_Check < 0
   ·rw [if_pos (by simpa using c1), decide_eq_false (show ¬ 0 ≤ f.f_Result.f_Check by omega)]; rfl
   ·rw [if_neg (by simpa using c1), decide_eq_true (show 0 ≤ f.f_Result.f_Check by omega)]
    by_cases c2 : f.f_Result.f_Check ≤ 15
    ·rw [if_neg (by rw [decide_eq_true_eq]; omega), decide_eq_true c2]
     by_cases c3 : f.f_Result.f_Position < 0
     ·rw [if_pos (by simpa using c3), decide_eq_false (show ¬ 0 ≤ f.f_Result.f_Position by omega)]; rfl
     ·rw [if_neg (by simpa using c3), decide_eq_true (show 0 ≤ f.f_Result.f_Position by omega)]
      by_cases c4 : f.f_Result.f_Position ≤ 8
      ·rw [decide_eq_true c4, decide_eq_false (by omega)]; rfl
      ·rw [decide_eq_false c4, decide_eq_true (by omega)]; rfl
    ·rw [if_pos (by rw [decide_eq_true_eq]; omega), decide_eq_false c2]; rfl
 rw [hg, Option.bind_some]
 unfold encF
 cases hgd : goodF f with
 | false => rfl
 | true =>
  rw [if_neg (show ¬((!true) = true) by simp), if_neg (show ¬(true = false) by simp)]
  by_cases h8 : 8 < f.f_Path.length
  ·rw [if_pos (by rw [decide_eq_true_eq]; omega), if_pos h8]
  ·rw [if_neg (by rw [decide_eq_true_eq]; omega), if_neg h8]
   have h2 := encW_l2 f hf n 0 (by omega) (by omega)
   rw [show ((0 : Nat) : Int) = 0 from rfl, List.drop_zero] at h2
   rw [h2]
   cases hall : f.f_Result.f_Policies.all (fun s => (tArcs s).isSome) with
   | false => rfl
   | true =>
    rw [if_pos rfl, if_neg (show ¬(true = false) by simp)]
    simp only [ctlB]
    unfold goodF at hgd
    simp only [Bool.and_eq_true, decide_eq_true_eq] at hgd
    obtain ⟨⟨⟨ga, gp⟩, gc⟩, gq⟩ := hgd
    rw [intB_tot (t := 2) ga (by omega) (by omega) (by simp) (by omega), Option.bind_some, List.nil_append]
    have l1 := tWrap_len 2 [o8 f.f_Anchor.toNat]
    have l2 := tWrap_len 10 [o8 f.f_Result.f_Check.toNat]
    have l3 := tWrap_len 2 [o8 f.f_Result.f_Position.toNat]
    simp only [List.length_singleton] at l1 l2 l3
    have l4 := paths_len f.f_Path
    have l5 := pols_len hall
    have l6 := tWrap_len 48 (wraps (f.f_Path.map (numE 2)))
    have l7 := tWrap_len 48 (wraps (f.f_Result.f_Policies.map polE))
    rw [listI (by omega) (by omega) gp (by omega), tWrap_small (c := wraps (f.f_Path.map (numE 2))) (by omega), Option.bind_some]
    have i1 := intB (n := n) (t := 10) (b := (tWrap 2 [o8 f.f_Anchor.toNat]).1 ++ (tWrap 48 (wraps (f.f_Path.map (numE 2)))).1) (lo15 gc) (by omega) (by omega) (by rw [List.length_append]; omega) (by omega)
    rw [show ((10 : Nat) : Int) = 10 from rfl] at i1
    rw [i1, Option.bind_some, intB_tot (t := 2) (lo15 (by omega)) (by omega) (by omega) (by rw [List.length_append, List.length_append]; omega) (by omega), Option.bind_some,
     listS (B := B) (by omega) (by omega) (by omega) hall hf.pol (by rw [List.length_append, List.length_append, List.length_append]; omega), Option.bind_some]
    by_cases hbig : 131072 < (wraps (f.f_Result.f_Policies.map polE)).length
    ·rw [if_pos hbig, wrap_big hbig, List.append_nil, whole_err (by decide) (by rw [List.length_append, List.length_append, List.length_append]; omega) (by omega)]; rfl
    ·rw [if_neg hbig, tWrap_small (c := wraps (f.f_Result.f_Policies.map polE)) (by omega), ← contF_eq, whole_ok (by rw [contF_eq, List.length_append, List.length_append, List.length_append, List.length_append]; omega) (by omega), Option.bind_some]
     by_cases hb2 : 131072 < (wraps (contF f)).length
     ·rw [if_pos hb2, if_pos hb2]
     ·rw [if_neg hb2, if_neg hb2]
theorem wrap7 {n t : Nat} {c : Bs} (h1 : t ≤ 255) (h2 : t % 32 ≠ 31) (hc : c.length ≤ 1000000000000) (hn : 20 ≤ n) : go_certpathref07_Wrap n (t : Int) [c] = some (tWrap t c).1 := by
 unfold go_certpathref07_Wrap
 rw [wrapR h1 h2 hc hn]; rfl
theorem intRw {n : Nat} {x : Int} (hx : sm x = true) (hn : 20 ≤ n) : go_certpathref35_integer n x = some (tWrap 2 [o8 x.toNat]).1 := by
 obtain ⟨v, rfl, hv⟩ := sm_nat hx
 unfold go_certpathref35_integer
 have := wrap7 (n := n) (t := 2) (c := [o8 v]) (by omega) (by omega) (by simp) hn
 rw [show ((2 : Nat) : Int) = 2 from rfl] at this
 rw [putR_small hn hv, Option.bind_some, this, Int.toNat_natCast]; rfl
theorem intRw_tot {n : Nat} (x : Int) (hn : 20 ≤ n) : ∃ s, go_certpathref35_integer n x = some s ∧ s.length ≤ 13 := by
 unfold go_certpathref35_integer
 obtain ⟨s, hs, hl⟩ := putR_total (n := n) x hn
 have := wrap7 (n := n) (t := 2) (c := s) (by omega) (by omega) (by omega) hn
 rw [show ((2 : Nat) : Int) = 2 from rfl] at this
 rw [hs, Option.bind_some, this]
 exact ⟨_, rfl, by have := tWrap_len 2 s; omega⟩
theorem sm_false {x : Int} : (decide (x < 0) || decide (x ≥ 64)) = !sm x := by
 unfold sm
 by_cases h : x < 0
 ·rw [decide_eq_true h, decide_eq_false (show ¬ 0 ≤ x by omega)]; rfl
 ·rw [decide_eq_false h, decide_eq_true (show 0 ≤ x by omega)]
  by_cases h2 : x < 64
  ·rw [decide_eq_true h2, decide_eq_false (by omega)]; rfl
  ·rw [decide_eq_false h2, decide_eq_true (by omega)]; rfl
theorem encR_l1 {n : Nat} (hn : 20 ≤ n) (f : T_api_Found) (hl : f.f_Path.length ≤ 10000000) : ∀ (k i : Nat) (bad : Bool) (b : Bs), i ≤ f.f_Path.length → f.f_Path.length - i < k → b.length ≤ 13 * i →
  ∃ c, go_certpathref35_EncodeFound_l1 n f k bad b (i : Int) = some (bad || !(f.f_Path.drop i).all sm, c) ∧ ((f.f_Path.drop i).all sm = true → c = b ++ wraps ((f.f_Path.drop i).map (numE 2)))
 | 0, _, _, _, _, h, _ => by omega
 | k + 1, i, bad, b, hi, hk, hb => by
  rw [go_certpathref35_EncodeFound_l1]
  by_cases hc : i < f.f_Path.length
  ·have hx : lidx f.f_Path (i : Int) = some f.f_Path[i] := lidx_nat hc
   obtain ⟨s, hs, hsl⟩ := intRw_tot (n := n) f.f_Path[i] hn
   have ey : (if bad = true then some true else (lidx f.f_Path (i : Int)).bind fun x90 => if (decide (x90 < 0)) = true then some true else (lidx f.f_Path (i : Int)).bind fun x91 => some (decide (x91 ≥ 64))) = some (bad || !sm f.f_Path[i]) := by
    rw [hx, ← sm_false]
    simp only [Option.bind_some]
    cases bad with
    | true => rfl
    | false =>
     rw [if_neg (by simp)]
     cases decide (f.f_Path[i] < 0) <;> rfl
   rw [if_pos (by rw [decide_eq_true_eq]; omega), ey, Option.bind_some, hx, Option.bind_some, hs, Option.bind_some, sadd_some (by omega), Option.bind_some, w1 (by omega)]
   obtain ⟨c, hc1, hc2⟩ := encR_l1 hn f hl k (i + 1) (bad || !sm f.f_Path[i]) (b ++ s) (by omega) (by omega) (by rw [List.length_append]; omega)
   rw [hc1, List.drop_eq_getElem_cons hc, List.all_cons]
   refine ⟨c, ?_, ?_⟩
   ·congr 2
    cases sm f.f_Path[i] <;> cases bad <;> simp
   ·intro h
    rw [Bool.and_eq_true] at h
    rw [hc2 h.2, List.map_cons, wraps_cons]
    rw [intRw h.1 hn] at hs
    injection hs with hs
    rw [← hs, List.append_assoc]; rfl
  ·rw [if_neg (by rw [decide_eq_true_eq]; omega), List.drop_eq_nil_of_le (by omega)]
   exact ⟨b, by simp, fun _ => by simp [wraps]⟩
theorem encR_l2 {n B : Nat} (f : T_api_Found) (hf : Fit n B f) : ∀ (k i : Nat), i ≤ f.f_Result.f_Policies.length → f.f_Result.f_Policies.length - i < k → go_certpathref35_EncodeFound_l2 n f k (i : Int) = some (if (f.f_Result.f_Policies.drop i).all (fun s => (tArcs s).isSome) = true then .nxt () else .ret ([], 11))
 | 0, _, _, h => by omega
 | k + 1, i, hi, hk => by
  have hb := hf.b
  have hp := hf.pols
  have hn := hf.n
  rw [go_certpathref35_EncodeFound_l2]
  by_cases hc : i < f.f_Result.f_Policies.length
  ·have hl := hf.pol _ (List.getElem_mem hc)
   rw [if_pos (by rw [decide_eq_true_eq]; omega), lidx_nat hc, Option.bind_some, ref_ValidOID (by omega) (by omega), Option.bind_some, List.drop_eq_getElem_cons hc, List.all_cons]
   cases h : (tArcs f.f_Result.f_Policies[i]).isSome with
   | false => rw [if_pos (by rfl), if_neg (by simp)]
   | true => rw [if_neg (by simp), w1 (by omega), encR_l2 f hf k (i + 1) (by omega) (by omega), Bool.true_and]
  ·rw [if_neg (by rw [decide_eq_true_eq]; omega), List.drop_eq_nil_of_le (by omega)]; simp
theorem oidR {n : Nat} {s : Bs} (hs : s.length ≤ 100000000) (hn : s.length + 40 ≤ n) (h : (tArcs s).isSome = true) : go_certpathref07_OID n s = some (tWrap (polE s).1 (polE s).2).1 := by
 obtain ⟨l, hl⟩ := Option.isSome_iff_exists.1 h
 unfold go_certpathref07_OID
 have hlen := encO_len (tArcs_ok hl)
 have := wrap7 (n := n) (t := 6) (c := encO l) (by omega) (by omega) (by omega) (by omega)
 rw [show ((6 : Nat) : Int) = 6 from rfl] at this
 rw [ref_EncodeOID hs hn hl, Option.bind_some, this]
 simp [polE, hl]
theorem oidsR_l1 {n B : Nat} (hB : B ≤ 100000000) (hn : B + 40 ≤ n) (a : List Bs) (ha : a.length ≤ 10000000) (hs : a.all (fun s => (tArcs s).isSome) = true) (hl : ∀ s ∈ a, s.length ≤ B) : ∀ (k i : Nat) (b : Bs), i ≤ a.length → a.length - i < k → b.length + 60 * (a.length - i) ≤ 1000000000 →
  go_certpathref35_oids_l1 n a k b (i : Int) = some (b ++ wraps ((a.drop i).map polE))
 | 0, _, _, _, h, _ => by omega
 | k + 1, i, b, hi, hk, hb => by
  rw [go_certpathref35_oids_l1]
  by_cases hc : i < a.length
  ·have hx := List.all_eq_true.1 hs a[i] (List.getElem_mem hc)
   have hxl := hl a[i] (List.getElem_mem hc)
   have hl0 := tWrap_len 6 (polE a[i]).2
   obtain ⟨l, he⟩ := Option.isSome_iff_exists.1 hx
   have hl1 : (polE a[i]).2.length ≤ 55 := by unfold polE; rw [he]; exact encO_len (tArcs_ok he)
   have hl2 : (tWrap (polE a[i]).1 (polE a[i]).2).1.length ≤ 60 := by show (tWrap 6 (polE a[i]).2).1.length ≤ 60; omega
   rw [if_pos (by rw [decide_eq_true_eq]; omega), lidx_nat hc, Option.bind_some, oidR (by omega) (by omega) hx, Option.bind_some, sadd_some (by omega), Option.bind_some, w1 (by omega)]
   rw [oidsR_l1 hB hn a ha hs hl k (i + 1) _ (by omega) (by omega) (by rw [List.length_append]; omega), List.drop_eq_getElem_cons hc, List.map_cons, wraps_cons, List.append_assoc]
  ·rw [if_neg (by rw [decide_eq_true_eq]; omega), List.drop_eq_nil_of_le (by omega)]; simp [wraps]
theorem encR {n B : Nat} {f : T_api_Found} (hf : Fit n B f) : go_certpathref35_EncodeFound n f = some (encF f) := by
 have hb := hf.b
 have hp := hf.pols
 have hpa := hf.path
 have hn := hf.n
 unfold go_certpathref35_EncodeFound
 have hg : (if decide (f.f_Anchor < 0) = true then some true else if decide (f.f_Anchor ≥ 64) = true then some true else if (decide (f.f_Result.f_Check < 0)) = true then some true else if (decide (f.f_Result.f_Check > 15)) = true then some true else if (decide (f.f_Result.f_Position < 0)) = true then some true else some (decide (f.f_Result.f_Position > 8))) = some (!(sm f.f_Anchor && (decide (0 ≤ f.f_Result.f_Check) && decide (f.f_Result.f_Check ≤ 15)) && (decide (0 ≤ f.f_Result.f_Position) && decide (f.f_Result.f_Position ≤ 8)))) := by
  unfold sm
  by_cases c5 : f.f_Anchor < 0
  ·rw [if_pos (by simpa using c5), decide_eq_false (show ¬ 0 ≤ f.f_Anchor by omega)]; rfl
  ·rw [if_neg (by simpa using c5), decide_eq_true (show 0 ≤ f.f_Anchor by omega)]
   by_cases c6 : f.f_Anchor < 64
   ·rw [if_neg (by rw [decide_eq_true_eq]; omega), decide_eq_true c6]
    by_cases c1 : f.f_Result.f_Check < 0
    ·rw [if_pos (by simpa using c1), decide_eq_false (show ¬ 0 ≤ f.f_Result.f_Check by omega)]; rfl
    ·rw [if_neg (by simpa using c1), decide_eq_true (show 0 ≤ f.f_Result.f_Check by omega)]
     by_cases c2 : f.f_Result.f_Check ≤ 15
     ·rw [if_neg (by rw [decide_eq_true_eq]; omega), decide_eq_true c2]
      by_cases c3 : f.f_Result.f_Position < 0
      ·rw [if_pos (by simpa using c3), decide_eq_false (show ¬ 0 ≤ f.f_Result.f_Position by omega)]; rfl
      ·rw [if_neg (by simpa using c3), decide_eq_true (show 0 ≤ f.f_Result.f_Position by omega)]
       by_cases c4 : f.f_Result.f_Position ≤ 8
       ·rw [decide_eq_true c4, decide_eq_false (by omega)]; rfl
       ·rw [decide_eq_false c4, decide_eq_true (by omega)]; rfl
     ·rw [if_pos (by rw [decide_eq_true_eq]; omega), decide_eq_false c2]; rfl
   ·rw [if_pos (by rw [decide_eq_true_eq]; omega), decide_eq_false c6]; rfl
 rw [hg, Option.bind_some]
 obtain ⟨c, h1, h1c⟩ := encR_l1 (n := n) (by omega) f hpa n 0 (!(sm f.f_Anchor && (decide (0 ≤ f.f_Result.f_Check) && decide (f.f_Result.f_Check ≤ 15)) && (decide (0 ≤ f.f_Result.f_Position) && decide (f.f_Result.f_Position ≤ 8)))) [] (by omega) (by omega) (by simp)
 rw [show ((0 : Nat) : Int) = 0 from rfl, List.drop_zero] at h1
 rw [List.drop_zero, List.nil_append] at h1c
 rw [h1, Option.bind_some]
 simp only []
 have hgd2 : ((!(sm f.f_Anchor && (decide (0 ≤ f.f_Result.f_Check) && decide (f.f_Result.f_Check ≤ 15)) && (decide (0 ≤ f.f_Result.f_Position) && decide (f.f_Result.f_Position ≤ 8)))) || !f.f_Path.all sm) = !goodF f := by
  unfold goodF
  cases sm f.f_Anchor <;> cases f.f_Path.all sm <;> simp
 rw [hgd2]
 unfold encF
 cases hgd : goodF f with
 | false => rfl
 | true =>
  rw [if_neg (show ¬((!true) = true) by simp), if_neg (show ¬(true = false) by simp)]
  by_cases h8 : 8 < f.f_Path.length
  ·rw [if_pos (by rw [decide_eq_true_eq]; omega), if_pos h8]
  ·rw [if_neg (by rw [decide_eq_true_eq]; omega), if_neg h8]
   have h2 := encR_l2 f hf n 0 (by omega) (by omega)
   rw [show ((0 : Nat) : Int) = 0 from rfl, List.drop_zero] at h2
   rw [h2]
   cases hall : f.f_Result.f_Policies.all (fun s => (tArcs s).isSome) with
   | false => rfl
   | true =>
    rw [if_pos rfl, if_neg (show ¬(true = false) by simp)]
    simp only [ctlB]
    unfold goodF at hgd
    simp only [Bool.and_eq_true, decide_eq_true_eq] at hgd
    obtain ⟨⟨⟨ga, gp⟩, gc⟩, gq⟩ := hgd
    rw [h1c gp]
    have l1 := tWrap_len 2 [o8 f.f_Anchor.toNat]
    have l2 := tWrap_len 10 [o8 f.f_Result.f_Check.toNat]
    have l3 := tWrap_len 2 [o8 f.f_Result.f_Position.toNat]
    simp only [List.length_singleton] at l1 l2 l3
    have l4 := paths_len f.f_Path
    have l5 := pols_len hall
    have l6 := tWrap_len 48 (wraps (f.f_Path.map (numE 2)))
    have l7 := tWrap_len 48 (wraps (f.f_Result.f_Policies.map polE))
    have ho : go_certpathref35_oids n f.f_Result.f_Policies = some (wraps (f.f_Result.f_Policies.map polE)) := by
     unfold go_certpathref35_oids
     have := oidsR_l1 (n := n) (B := B) (by omega) (by omega) f.f_Result.f_Policies (by omega) hall hf.pol n 0 [] (by omega) (by omega) (by simp; omega)
     rw [show ((0 : Nat) : Int) = 0 from rfl, List.drop_zero, List.nil_append] at this
     rw [this]; rfl
    have w1 := wrapR (n := n) (t := 48) (c := wraps (f.f_Result.f_Policies.map polE)) (by omega) (by omega) (by omega) (by omega)
    rw [show ((48 : Nat) : Int) = 48 from rfl] at w1
    rw [ho, Option.bind_some, w1, Option.bind_some]
    by_cases hbig : 131072 < (wraps (f.f_Result.f_Policies.map polE)).length
    ·rw [if_pos hbig, wrap_big hbig]; rfl
    ·rw [if_neg hbig, tWrap_small (c := wraps (f.f_Result.f_Policies.map polE)) (by omega)]
     simp only []
     rw [if_neg (by simp)]
     have w2 := wrap7 (n := n) (t := 48) (c := wraps (f.f_Path.map (numE 2))) (by omega) (by omega) (by omega) (by omega)
     rw [show ((48 : Nat) : Int) = 48 from rfl] at w2
     have hcv : ∃ v : Nat, f.f_Result.f_Check = (v : Int) ∧ v < 64 := ⟨f.f_Result.f_Check.toNat, by omega, by omega⟩
     obtain ⟨cv, hcv, hcv2⟩ := hcv
     have w3 := wrap7 (n := n) (t := 10) (c := [o8 cv]) (by omega) (by omega) (by simp) (by omega)
     rw [show ((10 : Nat) : Int) = 10 from rfl] at w3
     have hct : o8 f.f_Result.f_Check.toNat = o8 cv := by rw [hcv, Int.toNat_natCast]
     have hput : go_certpathref01_PutInteger n f.f_Result.f_Check = some [o8 cv] := by rw [hcv]; exact putR_small (by omega) hcv2
     rw [hct] at l2
     rw [intRw ga (by omega), Option.bind_some, w2, Option.bind_some, sadd_some (by omega), Option.bind_some, hput, Option.bind_some, w3, Option.bind_some, sadd_some (by rw [List.length_append]; omega), Option.bind_some,
      intRw (lo15 (by omega)) (by omega), Option.bind_some, sadd_some (by rw [List.length_append, List.length_append]; omega), Option.bind_some, sadd_some (by rw [List.length_append, List.length_append, List.length_append]; omega), Option.bind_some]
     have hC := contF_eq f
     rw [hct] at hC
     rw [← hC]
     have hCl : (wraps (contF f)).length ≤ 100000000000 := by rw [hC, List.length_append, List.length_append, List.length_append, List.length_append]; omega
     have w4 := wrapR (n := n) (t := 48) (c := wraps (contF f)) (by omega) (by omega) (by omega) (by omega)
     rw [show ((48 : Nat) : Int) = 48 from rfl] at w4
     unfold go_certpathref35_wrapped
     rw [w4, Option.bind_some]
     by_cases hb2 : 131072 < (wraps (contF f)).length
     ·rw [if_pos hb2, wrap_big hb2]; rfl
     ·rw [if_neg hb2, tWrap_small (c := wraps (contF f)) (by omega)]; rfl
end Go.Abs
end
