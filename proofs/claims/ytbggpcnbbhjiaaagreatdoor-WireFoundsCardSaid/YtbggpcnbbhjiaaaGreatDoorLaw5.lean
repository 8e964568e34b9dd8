/- The typed Lean form of WireFounds gives true for every list of at most 9223372036854775807 numbers and every value found. -/
import Derived.Test.YtbggpcnbbhjiaaaGreatDoorLaw4
set_option linter.unusedVariables false
set_option linter.unusedSimpArgs false
set_option linter.unnecessarySimpa false
section
set_option maxRecDepth 100000
namespace Go.Abs
open Go Go.Proofs
theorem tRead_tag {b : Bs} (h : (tRead b).2.2 = 0) : ∃ t : UInt8, (tRead b).1.f_Tag = (t.toNat : Int) ∧ t.toNat % 32 ≠ 31 := by
 match b with
 | [] => simp [tRead] at h
 | t :: r =>
  by_cases h31 : t.toNat % 32 = 31
  ·unfold tRead at h; simp [h31] at h
  ·refine ⟨t, ?_, h31⟩
   unfold tRead at h ⊢
   simp only [h31, if_false] at h ⊢
   match r with
   | [] => simp at h
   | c :: s =>
    simp only at h ⊢
    repeat' split
    all_goals first | rfl | (rename_i hh; simp_all)
def EOk (e : T_api_Element) : Prop := e.f_Content.length + 2 ≤ e.f_Raw.length ∧ ∃ t : UInt8, e.f_Tag = (t.toNat : Int) ∧ t.toNat % 32 ≠ 31
def raws (l : List T_api_Element) : Nat := (l.map fun e => e.f_Raw.length).sum
theorem tListF_facts : ∀ (k : Nat) (b : Bs) (acc : List T_api_Element), ∃ M, ((tListF k b acc).1 = acc ++ M ∨ (tListF k b acc).1 = []) ∧ raws M ≤ b.length ∧ ∀ e ∈ M, EOk e
 | 0, b, acc => ⟨[], .inl (by simp [tListF]), by simp [raws], by simp⟩
 | k + 1, b, acc => by
  rw [tListF]
  by_cases h0 : b = []
  ·rw [if_pos h0]; exact ⟨[], .inl (by simp), by simp [raws], by simp⟩
  ·rw [if_neg h0]
   by_cases h1 : (tRead b).2.2 ≠ 0
   ·rw [if_pos h1]; exact ⟨[], .inr rfl, by simp [raws], by simp⟩
   ·rw [if_neg h1]
    have h1 : (tRead b).2.2 = 0 := by simpa using h1
    obtain ⟨k1, k2, k3, _⟩ := tRead_ok h1
    obtain ⟨M, e1, e2, e3⟩ := tListF_facts k (tRead b).2.1 (acc ++ [(tRead b).1])
    have hl := congrArg List.length k1
    rw [List.length_append] at hl
    refine ⟨(tRead b).1 :: M, ?_, ?_, ?_⟩
    ·rcases e1 with e1 | e1
     ·exact .inl (by rw [e1]; simp)
     ·exact .inr e1
    ·unfold raws at e2 ⊢; rw [List.map_cons, List.sum_cons]; omega
    ·intro e he
     rcases List.mem_cons.1 he with rfl | he
     ·exact ⟨k3, tRead_tag h1⟩
     ·exact e3 e he
theorem raws_mem {l : List T_api_Element} : ∀ e ∈ l, e.f_Raw.length ≤ raws l := by
 intro e he
 induction l with
 | nil => simp at he
 | cons a r ih =>
  unfold raws at ih ⊢; rw [List.map_cons, List.sum_cons]
  rcases List.mem_cons.1 he with rfl | he
  ·omega
  ·have := ih he; omega
theorem raws_two {l : List T_api_Element} (h : ∀ e ∈ l, EOk e) : 2 * l.length ≤ raws l := by
 induction l with
 | nil => simp [raws]
 | cons a r ih =>
  have := ih (fun e he => h e (by simp [he]))
  have h1 := (h a (by simp)).1
  unfold raws at this ⊢; rw [List.map_cons, List.sum_cons, List.length_cons]; omega
theorem tList_facts (b : Bs) : raws (tList b).1 ≤ b.length ∧ ∀ e ∈ (tList b).1, EOk e := by
 unfold tList
 obtain ⟨M, e1, e2, e3⟩ := tListF_facts (b.length + 1) b []
 rcases e1 with e1 | e1
 ·rw [e1, List.nil_append]; exact ⟨e2, e3⟩
 ·rw [e1]; exact ⟨by simp [raws], by simp⟩
def Bd (M : Nat) (l : List T_api_Element) : Prop := l.length ≤ M ∧ ∀ e ∈ l, e.f_Content.length ≤ M
theorem tList_bd (b : Bs) {M : Nat} (h : b.length ≤ M) : Bd M (tList b).1 := by
 obtain ⟨h1, h2⟩ := tList_facts b
 have := raws_two h2
 exact ⟨by omega, fun e he => by have := raws_mem e he; have := (h2 e he).1; omega⟩
theorem Bd.tail {M : Nat} {e : T_api_Element} {l : List T_api_Element} (h : Bd M (e :: l)) : e.f_Content.length ≤ M ∧ Bd M l :=
 ⟨h.2 e (by simp), by have := h.1; simp at this; omega, fun x hx => h.2 x (by simp [hx])⟩
theorem ifb (a b : Bool) : (if a = true then some true else some b) = some (a || b) := by cases a <;> rfl
theorem nextP_nil {n : Nat} {f : Bool} : go_wire_reader_next n ⟨[], f⟩ = some (⟨0, [], []⟩, ⟨[], true⟩) := rfl
theorem nextP {n : Nat} {f : Bool} {e : T_api_Element} {l : List T_api_Element} : go_wire_reader_next n ⟨e :: l, f⟩ = some (e, ⟨l, f⟩) := by
 unfold go_wire_reader_next
 rw [if_neg (by rw [beq_iff_eq]; simp only [List.length_cons]; omega)]
 have k0 : lidx (e :: l) 0 = some e := by simp [lidx]
 simp only []
 rw [k0, Option.bind_some, lsl_tail]; rfl
theorem nextP_tot {n M : Nat} {f : Bool} {l : List T_api_Element} (h : Bd M l) : ∃ e r f', go_wire_reader_next n ⟨l, f⟩ = some (e, ⟨r, f'⟩) ∧ e.f_Content.length ≤ M ∧ Bd M r ∧ r.length ≤ l.length ∧ (0 < l.length → r.length < l.length) := by
 match l, h with
 | [], h => exact ⟨_, _, _, nextP_nil, by simp, h, by simp, by simp⟩
 | e :: l, h => exact ⟨_, _, _, nextP, h.tail.1, h.tail.2, by simp, by simp⟩
theorem numberP_tot {n M : Nat} {t : Int} {f : Bool} {l : List T_api_Element} (hn : 20 ≤ n) (h : Bd M l) : ∃ x r f', go_wire_reader_number n t ⟨l, f⟩ = some (x, ⟨r, f'⟩) ∧ Bd M r ∧ (0 < l.length → r.length < l.length) := by
 obtain ⟨e, r, f', h1, h2, h3, _, h4⟩ := nextP_tot (n := n) (f := f) h
 unfold go_wire_reader_number
 rw [h1, Option.bind_some]
 obtain ⟨x, hx⟩ := intP_total (n := n) e.f_Content hn
 simp only []
 rw [hx, Option.bind_some]
 unfold go_wire_reader_check
 simp only [ifb, Option.bind_some]
 exact ⟨_, _, _, rfl, h3, h4⟩
theorem numberP {n t : Nat} {x : Int} {l : List T_api_Element} (hn : 20 ≤ n) (hx : sm x = true) : go_wire_reader_number n (t : Int) ⟨elm (numE t x) :: l, false⟩ = some (x, ⟨l, false⟩) := by
 obtain ⟨v, rfl, hv⟩ := sm_nat hx
 unfold go_wire_reader_number
 rw [nextP, Option.bind_some]
 have hc : (elm (numE t (v : Int))).f_Content = [o8 v] := by simp [elm, numE]
 have ht : (elm (numE t (v : Int))).f_Tag = (t : Int) := rfl
 simp only []
 rw [hc, intP_small hn hv, Option.bind_some]
 show (go_wire_reader_check n 0 ⟨l, false⟩).bind _ = _
 rw [show go_wire_reader_check n 0 ⟨l, false⟩ = some ⟨l, false⟩ from rfl, Option.bind_some, ht]
 simp
theorem seqP {n : Nat} {e : T_api_Element} (hn : e.f_Content.length + 5 ≤ n) (hl : e.f_Content.length ≤ 1000000000000) : go_wire_sequence n e = some ⟨(tList e.f_Content).1, ((tList e.f_Content).2 != 0) || (e.f_Tag != 48)⟩ := by
 unfold go_wire_sequence go_wire_contents
 rw [tlv_List hl hn]
 simp only [Option.bind_some]
 cases (tList e.f_Content).2 != 0 <;> rfl
theorem pathP_tot {n M : Nat} (hn : 20 ≤ n) (hM : M ≤ 1000000) : ∀ (k : Nat) (acc : List Int) (l : List T_api_Element) (f : Bool), Bd M l → l.length < k → acc.length + l.length ≤ M → ∃ a f', go_wire_reader_found_l1 n k acc l f = some (a, [], f') ∧ a.length ≤ M
 | 0, _, _, _, _, h, _ => by omega
 | k + 1, acc, [], f, _, _, ha => ⟨acc, f, rfl, by simpa using ha⟩
 | k + 1, acc, e :: l, f, hb, hk, ha => by
  obtain ⟨x, r, f', h1, h2, h3⟩ := numberP_tot (n := n) (t := 2) (f := f) hn hb
  have h3 := h3 (by simp)
  simp only [List.length_cons] at h3 hk ha
  rw [go_wire_reader_found_l1, if_pos (by rw [decide_eq_true_eq, List.length_cons]; omega), h1, Option.bind_some, lapp_some (by rw [List.length_singleton]; omega), Option.bind_some]
  exact pathP_tot hn hM k _ r f' h2 (by omega) (by rw [List.length_append, List.length_singleton]; omega)
theorem pathP {n : Nat} (hn : 20 ≤ n) : ∀ (k : Nat) (p : List Int) (acc : List Int), p.all sm = true → p.length < k → acc.length + p.length ≤ 1000000 → go_wire_reader_found_l1 n k acc ((p.map (numE 2)).map elm) false = some (acc ++ p, [], false)
 | 0, _, _, _, h, _ => by omega
 | k + 1, [], acc, _, _, _ => by rw [List.append_nil]; rfl
 | k + 1, x :: p, acc, hs, hk, ha => by
  rw [List.all_cons, Bool.and_eq_true] at hs
  simp only [List.length_cons] at hk ha
  have h1 := numberP (n := n) (t := 2) (x := x) (l := (p.map (numE 2)).map elm) hn hs.1
  rw [show ((2 : Nat) : Int) = 2 from rfl] at h1
  rw [List.map_cons, List.map_cons, go_wire_reader_found_l1, if_pos (by rw [decide_eq_true_eq, List.length_cons]; omega), h1, Option.bind_some, lapp_some (by rw [List.length_singleton]; omega), Option.bind_some]
  simp only []
  rw [pathP hn k p _ hs.2 (by omega) (by rw [List.length_append, List.length_singleton]; omega), List.append_assoc]; rfl
theorem dots_len {l : List Nat} (h : l.length ≤ 12) (hl : ∀ x ∈ l, x ≤ 4294967294) : (dots l).length ≤ 252 := by
 unfold dots
 have := join_len (sep := [46]) (b := 20) (l := l.map fun a => Lib.decDigits a) (by
  intro x hx; obtain ⟨a, ha, rfl⟩ := List.mem_map.1 hx
  have := hl a ha; exact dec_len (by omega))
 rw [List.length_map, List.length_singleton] at this; omega
theorem oidD_tot {n : Nat} {b : Bs} (hb : b.length ≤ 500000000) (hn : b.length + 40 ≤ n) : ∃ s e, go_oid_Decode n b = some (s, e) ∧ s.length ≤ 252 := by
 obtain ⟨q, h, h1, h2⟩ := numbers_tot (n := n) b hb (by omega)
 rw [oid_Decode_eq (by omega) h h1 (by omega)]
 by_cases hq : okNums q = true
 ·rw [if_pos hq]
  refine ⟨_, _, rfl, ?_⟩
  simp only [okNums, Bool.and_eq_true, decide_eq_true_eq, List.all_eq_true] at hq
  refine dots_len ?_ (fun x hx => by have := hq.2 x hx; omega)
  match q, hq.1 with
  | v :: r, hq => have := hq.2; simp only [arcsOf, List.length_cons] at this ⊢; omega
 ·rw [if_neg hq]; exact ⟨_, _, rfl, by simp⟩
theorem tArcs_len {s : Bs} (h : (tArcs s).isSome = true) : s.length ≤ 252 := by
 obtain ⟨l, hl⟩ := Option.isSome_iff_exists.1 h
 have h2 := tArcs_ok hl
 rw [← tArcs_dots hl]
 exact dots_len h2.2.1 (fun x hx => by have := h2.2.2.2 x hx; omega)
theorem oidsP_tot {n M : Nat} (hn : M + 100 ≤ n) (hM : M ≤ 1000000) (l : List T_api_Element) : ∀ (k : Nat) (ps : List Bs) (f : Bool) (el : List T_api_Element) (ef : Bool), Bd M el → el.length < k → ps.length + el.length ≤ M → (∀ s ∈ ps, s.length ≤ 252) →
  ∃ ps' f' ef', go_wire_reader_oids_l1 n k ps l f el ef = some (ps', l, f', [], ef') ∧ ps'.length ≤ M ∧ ∀ s ∈ ps', s.length ≤ 252
 | 0, _, _, _, _, _, h, _, _ => by omega
 | k + 1, ps, f, [], ef, _, _, h1, h2 => ⟨ps, f, ef, rfl, by simpa using h1, h2⟩
 | k + 1, ps, f, e :: el, ef, hb, hk, h1, h2 => by
  simp only [List.length_cons] at hk h1
  have hc := hb.tail.1
  obtain ⟨s, x, hs, hsl⟩ := oidD_tot (n := n) (b := e.f_Content) (by omega) (by omega)
  rw [go_wire_reader_oids_l1, if_pos (by rw [decide_eq_true_eq, List.length_cons]; omega), nextP, Option.bind_some]
  simp only []
  rw [hs, Option.bind_some]
  unfold go_wire_reader_check
  simp only [ifb, Option.bind_some]
  rw [lapp_some (by rw [List.length_singleton]; omega), Option.bind_some]
  exact oidsP_tot hn hM l k _ _ el ef hb.tail.2 (by omega) (by rw [List.length_append, List.length_singleton]; omega) (by
   intro y hy; rcases List.mem_append.1 hy with hy | hy
   ·exact h2 y hy
   ·simp at hy; subst hy; exact hsl)
theorem oidsP_back {n : Nat} (hn : 1000 ≤ n) (l : List T_api_Element) : ∀ (k : Nat) (pols : List Bs) (ps : List Bs), pols.all (fun s => (tArcs s).isSome) = true → pols.length < k → ps.length + pols.length ≤ 1000000 →
  go_wire_reader_oids_l1 n k ps l false ((pols.map polE).map elm) false = some (ps ++ pols, l, false, [], false)
 | 0, _, _, _, h, _ => by omega
 | k + 1, [], ps, _, _, _ => by rw [List.append_nil]; rfl
 | k + 1, s :: pols, ps, hs, hk, h1 => by
  simp only [List.length_cons] at hk h1
  rw [List.all_cons, Bool.and_eq_true] at hs
  obtain ⟨a, ha⟩ := Option.isSome_iff_exists.1 hs.1
  have hcont : (elm (polE s)).f_Content = encO a := by simp [elm, polE, ha]
  rw [List.map_cons, List.map_cons, go_wire_reader_oids_l1, if_pos (by rw [decide_eq_true_eq, List.length_cons]; omega), nextP, Option.bind_some]
  simp only []
  rw [hcont, oid_Decode_back ha (by omega), Option.bind_some]
  unfold go_wire_reader_check
  simp only [ifb, Option.bind_some]
  rw [lapp_some (by rw [List.length_singleton]; omega), Option.bind_some]
  have ht : ((false || ((0 : Int) != 0)) || ((elm (polE s)).f_Tag != 6)) = false := rfl
  rw [ht, oidsP_back hn l k pols _ hs.2 (by omega) (by rw [List.length_append, List.length_singleton]; omega), List.append_assoc]; rfl
theorem readerOids_tot {n M : Nat} {c : Bs} {l : List T_api_Element} {f : Bool} (hn : M + 100 ≤ n) (hM : M ≤ 1000000) (hc : c.length ≤ M) : ∃ ps f', go_wire_reader_oids n c ⟨l, f⟩ = some (ps, ⟨l, f'⟩) ∧ ps.length ≤ M ∧ ∀ s ∈ ps, s.length ≤ 252 := by
 unfold go_wire_reader_oids go_wire_contents
 rw [tlv_List (by omega) (by omega)]
 simp only [Option.bind_some]
 have hb := tList_bd c hc
 obtain ⟨ps, f', ef', h1, h2, h3⟩ := oidsP_tot (n := n) hn hM l n [] f (tList c).1 ((tList c).2 != 0) hb (by have := hb.1; omega) (by simpa using hb.1) (by simp)
 rw [h1]
 simp only [Option.bind_some, ifb]
 exact ⟨ps, _, rfl, h2, h3⟩
theorem POk_pol {s : Bs} (h : (tArcs s).isSome = true) : POk (polE s) := by
 obtain ⟨l, hl⟩ := Option.isSome_iff_exists.1 h
 refine ⟨by show (6 : Nat) ≤ 255; omega, by show (6 : Nat) % 32 ≠ 31; omega, ?_⟩
 unfold polE; rw [hl]
 have := encO_len (tArcs_ok hl); simp only [Option.getD_some]; omega
theorem readerOids_back {n : Nat} {l : List T_api_Element} {pols : List Bs} (hn : 2000000 ≤ n) (hs : pols.all (fun s => (tArcs s).isSome) = true) (hl : (wraps (pols.map polE)).length ≤ 131072) : go_wire_reader_oids n (wraps (pols.map polE)) ⟨l, false⟩ = some (pols, ⟨l, false⟩) := by
 unfold go_wire_reader_oids go_wire_contents
 have hp : ∀ p ∈ pols.map polE, POk p := by
  intro p hp; obtain ⟨s, h1, rfl⟩ := List.mem_map.1 hp; exact POk_pol (List.all_eq_true.1 hs s h1)
 have hb := tList_bd (wraps (pols.map polE)) (M := 131072) hl
 rw [tList_wraps hp] at hb
 have hlen := hb.1
 rw [List.length_map, List.length_map] at hlen
 rw [tlv_List (by omega) (by omega), tList_wraps hp]
 simp only [Option.bind_some]
 rw [show ((0 : Int) != 0) = false from rfl, oidsP_back (by omega) l n pols [] hs (by omega) (by simp; omega)]
 rfl
def Rd (M B : Nat) (v : T_api_Found) : Prop := v.f_Path.length ≤ M ∧ v.f_Result.f_Policies.length ≤ M ∧ ∀ s ∈ v.f_Result.f_Policies, s.length ≤ B
theorem foundP_tot {n M : Nat} {l : List T_api_Element} {f : Bool} (hn : 2000000 ≤ n) (hM : M ≤ 1000000) (hb : Bd M l) : ∃ v r, go_wire_reader_found n ⟨l, f⟩ = some (v, r) ∧ Rd M 252 v := by
 obtain ⟨x1, l1, f1, h1, b1, _⟩ := numberP_tot (n := n) (t := 2) (f := f) (by omega) hb
 obtain ⟨e2, l2, f2, h2, c2, b2, _, _⟩ := nextP_tot (n := n) (f := f1) b1
 have bs := tList_bd e2.f_Content c2
 obtain ⟨a, fa, hp, ha⟩ := pathP_tot (n := n) (M := M) (by omega) hM n [] (tList e2.f_Content).1 (((tList e2.f_Content).2 != 0) || (e2.f_Tag != 48)) bs (by have := bs.1; omega) (by simpa using bs.1)
 obtain ⟨x3, l3, f3, h3, b3, _⟩ := numberP_tot (n := n) (t := 10) (f := f2) (by omega) b2
 obtain ⟨x4, l4, f4, h4, b4, _⟩ := numberP_tot (n := n) (t := 2) (f := f3) (by omega) b3
 obtain ⟨e5, l5, f5, h5, c5, b5, _, _⟩ := nextP_tot (n := n) (f := f4) b4
 obtain ⟨ps, f6, h6, k1, k2⟩ := readerOids_tot (n := n) (M := M) (c := e5.f_Content) (l := l5) (f := f5) (by omega) hM c5
 unfold go_wire_reader_found
 rw [h1, Option.bind_some, h2, Option.bind_some, seqP (e := e2) (by omega) (by omega), Option.bind_some]
 simp only []
 rw [hp, Option.bind_some, h3, Option.bind_some, h4, Option.bind_some, h5, Option.bind_some]
 simp only []
 rw [h6, Option.bind_some]
 simp only [ifb, Option.bind_some]
 exact ⟨_, _, rfl, ha, k1, k2⟩
theorem encF_inv {v : T_api_Found} {b : Bs} (h : encF v = (b, 0)) : goodF v = true ∧ v.f_Path.length ≤ 8 ∧ v.f_Result.f_Policies.all (fun s => (tArcs s).isSome) = true ∧ (wraps (v.f_Result.f_Policies.map polE)).length ≤ 131072 ∧ (wraps (contF v)).length ≤ 131072 ∧ b = (tWrap 48 (wraps (contF v))).1 := by
 unfold encF at h
 by_cases h1 : goodF v = false
 ·rw [if_pos h1] at h; injection h with h h'; cases h'
 ·rw [if_neg h1] at h
  by_cases h2 : 8 < v.f_Path.length
  ·rw [if_pos h2] at h; injection h with h h'; cases h'
  ·rw [if_neg h2] at h
   by_cases h3 : v.f_Result.f_Policies.all (fun s => (tArcs s).isSome) = false
   ·rw [if_pos h3] at h; injection h with h h'; cases h'
   ·rw [if_neg h3] at h
    by_cases h4 : 131072 < (wraps (v.f_Result.f_Policies.map polE)).length
    ·rw [if_pos h4] at h; injection h with h h'; cases h'
    ·rw [if_neg h4] at h
     by_cases h5 : 131072 < (wraps (contF v)).length
     ·rw [if_pos h5] at h; injection h with h h'; cases h'
     ·rw [if_neg h5] at h
      injection h with h h'
      exact ⟨by simpa using h1, by omega, by rw [Bool.not_eq_false] at h3; exact h3, by omega, by omega, h.symm⟩
theorem contF_ok {v : T_api_Found} (h1 : v.f_Path.length ≤ 8) (h4 : (wraps (v.f_Result.f_Policies.map polE)).length ≤ 131072) : ∀ p ∈ contF v, POk p := by
 have l4 := paths_len v.f_Path
 intro p hp
 simp only [contF, List.mem_cons, List.not_mem_nil, or_false] at hp
 rcases hp with rfl | rfl | rfl | rfl | rfl
 ·exact ⟨by show (2 : Nat) ≤ 255; omega, by show (2 : Nat) % 32 ≠ 31; omega, by show 1 ≤ 131072; omega⟩
 ·exact ⟨by show (48 : Nat) ≤ 255; omega, by show (48 : Nat) % 32 ≠ 31; omega, by show (wraps (v.f_Path.map (numE 2))).length ≤ 131072; omega⟩
 ·exact ⟨by show (10 : Nat) ≤ 255; omega, by show (10 : Nat) % 32 ≠ 31; omega, by show 1 ≤ 131072; omega⟩
 ·exact ⟨by show (2 : Nat) ≤ 255; omega, by show (2 : Nat) % 32 ≠ 31; omega, by show 1 ≤ 131072; omega⟩
 ·exact ⟨by show (48 : Nat) ≤ 255; omega, by show (48 : Nat) % 32 ≠ 31; omega, h4⟩
theorem num_ok (t : Nat) (ht : t ≤ 255 ∧ t % 32 ≠ 31) (x : Int) : POk (numE t x) := ⟨ht.1, ht.2, by show 1 ≤ 131072; omega⟩
theorem path_ok (p : List Int) : ∀ q ∈ p.map (numE 2), POk q := by
 intro q hq; obtain ⟨x, _, rfl⟩ := List.mem_map.1 hq; exact num_ok 2 (by omega) x
theorem goodF_iff {v : T_api_Found} (h : goodF v = true) : sm v.f_Anchor = true ∧ v.f_Path.all sm = true ∧ sm v.f_Result.f_Check = true ∧ sm v.f_Result.f_Position = true := by
 unfold goodF at h
 simp only [Bool.and_eq_true, decide_eq_true_eq] at h
 exact ⟨h.1.1.1, h.1.1.2, lo15 h.1.2, lo15 (by omega)⟩
theorem foundP_back {n : Nat} {v : T_api_Found} {b : Bs} (hn : 2000000 ≤ n) (h : encF v = (b, 0)) : go_wire_reader_found n ⟨(contF v).map elm, false⟩ = some (v, ⟨[], false⟩) := by
 obtain ⟨g1, g2, g3, g4, g5, g6⟩ := encF_inv h
 obtain ⟨s1, s2, s3, s4⟩ := goodF_iff g1
 have i1 := numberP (n := n) (t := 2) (x := v.f_Anchor) (l := [(48, wraps (v.f_Path.map (numE 2))), numE 10 v.f_Result.f_Check, numE 2 v.f_Result.f_Position, (48, wraps (v.f_Result.f_Policies.map polE))].map elm) (by omega) s1
 rw [show ((2 : Nat) : Int) = 2 from rfl] at i1
 have i3 := numberP (n := n) (t := 10) (x := v.f_Result.f_Check) (l := [numE 2 v.f_Result.f_Position, (48, wraps (v.f_Result.f_Policies.map polE))].map elm) (by omega) s3
 rw [show ((10 : Nat) : Int) = 10 from rfl] at i3
 have i4 := numberP (n := n) (t := 2) (x := v.f_Result.f_Position) (l := [(48, wraps (v.f_Result.f_Policies.map polE))].map elm) (by omega) s4
 rw [show ((2 : Nat) : Int) = 2 from rfl] at i4
 have l4 := paths_len v.f_Path
 unfold go_wire_reader_found
 show (go_wire_reader_number n 2 ⟨elm (numE 2 v.f_Anchor) :: _, false⟩).bind _ = _
 rw [i1, Option.bind_some]
 simp only [List.map_cons, List.map_nil] at i3 i4 ⊢
 rw [nextP, Option.bind_some]
 simp only []
 rw [seqP (e := elm (48, wraps (v.f_Path.map (numE 2)))) (by show (wraps (v.f_Path.map (numE 2))).length + 5 ≤ n; omega) (by show (wraps (v.f_Path.map (numE 2))).length ≤ _; omega), Option.bind_some]
 have ht : tList (elm (48, wraps (v.f_Path.map (numE 2)))).f_Content = ((v.f_Path.map (numE 2)).map elm, 0) := tList_wraps (path_ok v.f_Path)
 rw [ht]
 simp only []
 have hfl : (((0 : Int) != 0) || ((elm (48, wraps (v.f_Path.map (numE 2)))).f_Tag != 48)) = false := rfl
 rw [hfl, pathP (by omega) n v.f_Path [] s2 (by omega) (by simp; omega), Option.bind_some, i3, Option.bind_some, i4, Option.bind_some, nextP, Option.bind_some]
 simp only []
 have hc : (elm (48, wraps (v.f_Result.f_Policies.map polE))).f_Content = wraps (v.f_Result.f_Policies.map polE) := rfl
 rw [hc, readerOids_back hn g3 g4, Option.bind_some]
 rfl
theorem one_back {v : T_api_Found} {b : Bs} (h : encF v = (b, 0)) : tOne b = (⟨48, wraps (contF v), b⟩, 0) := by
 obtain ⟨g1, g2, g3, g4, g5, g6⟩ := encF_inv h
 have := tOne_wrap (t := 48) (c := wraps (contF v)) (by omega) (by omega) g5
 rw [g6, this]; rfl
def Z : T_api_Found := ⟨0, [], ⟨0, 0, []⟩⟩
theorem tOne_bd (b : Bs) : (tOne b).1.f_Content.length ≤ b.length := by
 unfold tOne
 split
 ·simp
 ·rename_i h
  split
  ·simp
  ·have h : (tRead b).2.2 = 0 := by simpa using h
   obtain ⟨k1, k2, k3, _⟩ := tRead_ok h
   have hl := congrArg List.length k1
   rw [List.length_append] at hl
   show (tRead b).1.f_Content.length ≤ b.length
   omega
theorem decP {n : Nat} {b : Bs} {x : Int} (hb : b.length ≤ 1000000) (hn : 200000000 ≤ n) (hx : go_tlv_Check n b = some x) :
  (x ≠ 0 → go_wire_DecodeFound n b = some (Z, x)) ∧ (x = 0 → (tOne b).2 = 0 → ∃ r, go_wire_DecodeFound n b = some r ∧ (∀ v, encF v = (b, 0) → r = (v, 0)) ∧ (r = (Z, 7) ∨ encF r.1 = (b, 0) ∧ r.2 = 0)) := by
 unfold go_wire_DecodeFound go_wire_decode_api_Found
 rw [hx, Option.bind_some]
 refine ⟨fun h => by rw [if_pos (by simpa using h)]; rfl, fun h h0 => ?_⟩
 subst h
 rw [if_neg (by simp), tlv_One (by omega) (by omega), Option.bind_some, if_neg (by rw [h0]; simp)]
 have hbd := tOne_bd b
 rw [seqP (by omega) (by omega), Option.bind_some]
 obtain ⟨v', r, h1, h2, h3, h4⟩ := foundP_tot (n := n) (M := b.length) (f := ((tList (tOne b).1.f_Content).2 != 0) || ((tOne b).1.f_Tag != 48)) (by omega) hb (tList_bd (tOne b).1.f_Content hbd)
 rw [h1, Option.bind_some]
 have hfit : Fit n 252 v' := ⟨by omega, by omega, by omega, h4, by omega⟩
 have hback : ∀ v, encF v = (b, 0) → v' = v ∧ r.f_failed = false := by
  intro v hv
  have ho := one_back hv
  have hr := foundP_back (n := n) (by omega) hv
  rw [ho] at h1
  obtain ⟨g1, g2, g3, g4, g5, g6⟩ := encF_inv hv
  rw [tList_wraps (contF_ok g2 g4)] at h1
  have hfl : (((0 : Int) != 0) || ((48 : Int) != 48)) = false := rfl
  simp only [hfl] at h1
  rw [hr] at h1
  injection h1 with h1; injection h1 with h1 h1'
  subst h1'
  exact ⟨h1.symm, rfl⟩
 simp only []
 by_cases hf : r.f_failed = true
 ·rw [if_pos hf]
  exact ⟨_, rfl, (fun v hv => by have := (hback v hv).2; rw [hf] at this; exact absurd this (by simp)), .inl rfl⟩
 ·rw [if_neg hf]
  have he := encP hfit
  rw [show go_wire_EncodeFound n ⟨v'.f_Anchor, v'.f_Path, ⟨v'.f_Result.f_Check, v'.f_Result.f_Position, v'.f_Result.f_Policies⟩⟩ = some (encF v') from he, Option.bind_some, ifb, Option.bind_some]
  by_cases hq : encF v' = (b, 0)
  ·rw [hq, if_neg (by simp)]
   exact ⟨_, rfl, (fun v hv => by rw [← (hback v hv).1]), .inr ⟨hq, rfl⟩⟩
  ·have : (((encF v').2 != 0) || !((encF v').1 == b)) = true := by
    rw [Bool.or_eq_true, bne_iff_ne, Bool.not_eq_true', beq_eq_false_iff_ne]
    by_cases h7 : (encF v').2 = 0
    ·exact .inr (fun h8 => hq (Prod.ext h8 h7))
    ·exact .inl h7
   rw [if_pos this]
   exact ⟨_, rfl, (fun v hv => by have := (hback v hv).1; subst this; exact absurd hv hq), .inl rfl⟩
theorem mayR_no {n : Nat} {t : Int} {l : List T_api_Element} {i : Nat} {bad : Bool} (h : bad = true ∨ l.length ≤ i ∨ ∃ e, l[i]? = some e ∧ e.f_Tag ≠ t) : go_certpathref35_reader_may n t ⟨l, i, bad⟩ = some (⟨0, [], []⟩, false, ⟨l, i, bad⟩) := by
 unfold go_certpathref35_reader_may
 have e : (if bad = true then some true else if decide ((i : Int) ≥ (l.length : Int)) = true then some true else (lidx l (i : Int)).bind fun x1 => some (x1.f_Tag != t)) = some true := by
  cases bad with
  | true => rfl
  | false =>
   rw [if_neg (by simp)]
   by_cases hc : l.length ≤ i
   ·rw [if_pos (by rw [decide_eq_true_eq]; omega)]
   ·rw [if_neg (by rw [decide_eq_true_eq]; omega), lidx_nat (by omega), Option.bind_some]
    rcases h with h | h | ⟨e, h1, h2⟩
    ·cases h
    ·omega
    ·rw [List.getElem?_eq_getElem (by omega)] at h1; injection h1 with h1; rw [h1]; simpa using h2
 simp only []
 rw [e, Option.bind_some, if_pos rfl]
theorem mayR {n : Nat} {t : Int} {l : List T_api_Element} {i : Nat} {e : T_api_Element} (hl : l.length ≤ 1000000000) (h : l[i]? = some e) (ht : e.f_Tag = t) : go_certpathref35_reader_may n t ⟨l, i, false⟩ = some (e, true, ⟨l, ((i + 1 : Nat) : Int), false⟩) := by
 unfold go_certpathref35_reader_may
 obtain ⟨hi, h⟩ := List.getElem?_eq_some_iff.1 h
 have hx : lidx l (i : Int) = some e := by rw [lidx_nat hi, h]
 have hq : (if false = true then some true else if decide ((i : Int) ≥ (l.length : Int)) = true then some true else (lidx l (i : Int)).bind fun x1 => some (x1.f_Tag != t)) = some false := by
  rw [if_neg (by simp), if_neg (by rw [decide_eq_true_eq]; omega), hx, Option.bind_some, ht]; simp
 simp only []
 rw [hq, Option.bind_some, if_neg (by simp), w1 (by omega), wr64 (by omega), show ((i + 1 : Nat) : Int) - 1 = (i : Int) by omega, hx]; rfl
theorem needR_tot {n M : Nat} {t : Int} {l : List T_api_Element} {i : Nat} {bad : Bool} (hM : M ≤ 1000000) (hb : Bd M l) (hi : i ≤ l.length) : ∃ e j bad', go_certpathref35_reader_need n t ⟨l, (i : Int), bad⟩ = some (e, ⟨l, ((j : Nat) : Int), bad'⟩) ∧ j ≤ l.length ∧ e.f_Content.length ≤ M := by
 have hl := hb.1
 unfold go_certpathref35_reader_need
 by_cases h : bad = true ∨ l.length ≤ i ∨ ∃ e, l[i]? = some e ∧ e.f_Tag ≠ t
 ·rw [mayR_no h, Option.bind_some]
  simp only [ifb, Option.bind_some]
  exact ⟨_, i, _, rfl, hi, by simp⟩
 ·have h1 : bad = false := by cases bad; rfl; exact absurd (.inl rfl) h
  subst h1
  have hi2 : i < l.length := by
   apply Decidable.byContradiction; intro hc; exact h (.inr (.inl (by omega)))
  have hx : l[i]? = some l[i] := List.getElem?_eq_getElem hi2
  have ht : l[i].f_Tag = t := by
   apply Decidable.byContradiction; intro hc; exact h (.inr (.inr ⟨_, hx, hc⟩))
  rw [mayR (by omega) hx ht, Option.bind_some]
  simp only [ifb, Option.bind_some]
  exact ⟨_, i + 1, _, rfl, by omega, hb.2 _ (List.getElem_mem hi2)⟩
theorem needR {n : Nat} {t : Int} {l : List T_api_Element} {i : Nat} {e : T_api_Element} (hl : l.length ≤ 1000000000) (h : l[i]? = some e) (ht : e.f_Tag = t) : go_certpathref35_reader_need n t ⟨l, (i : Int), false⟩ = some (e, ⟨l, ((i + 1 : Nat) : Int), false⟩) := by
 unfold go_certpathref35_reader_need
 rw [mayR hl h ht]; rfl
theorem rintR_tot {n M : Nat} {t : Int} {l : List T_api_Element} {i : Nat} {bad : Bool} (hn : 20 ≤ n) (hM : M ≤ 1000000) (hb : Bd M l) (hi : i ≤ l.length) : ∃ x j bad', go_certpathref35_reader_integer n t ⟨l, (i : Int), bad⟩ = some (x, ⟨l, ((j : Nat) : Int), bad'⟩) ∧ j ≤ l.length := by
 obtain ⟨e, j, bad', h1, h2, h3⟩ := needR_tot (n := n) (t := t) (bad := bad) hM hb hi
 unfold go_certpathref35_reader_integer
 obtain ⟨x, hx⟩ := intR_total (n := n) e.f_Content hn
 rw [h1, Option.bind_some]
 simp only []
 rw [hx, Option.bind_some, ifb, Option.bind_some]
 exact ⟨_, j, _, rfl, h2⟩
theorem rintR {n t : Nat} {x : Int} {l : List T_api_Element} {i : Nat} (hn : 20 ≤ n) (hl : l.length ≤ 1000000000) (hx : sm x = true) (h : l[i]? = some (elm (numE t x))) : go_certpathref35_reader_integer n (t : Int) ⟨l, (i : Int), false⟩ = some (x, ⟨l, ((i + 1 : Nat) : Int), false⟩) := by
 obtain ⟨v, rfl, hv⟩ := sm_nat hx
 unfold go_certpathref35_reader_integer
 rw [needR (t := (t : Int)) hl h rfl, Option.bind_some]
 have hc : (elm (numE t (v : Int))).f_Content = [o8 v] := by simp [elm, numE]
 simp only []
 rw [hc, intR_small hn hv, Option.bind_some, ifb, Option.bind_some]; rfl
theorem openR {n : Nat} {e : T_api_Element} {t : Int} (hn : e.f_Content.length + 5 ≤ n) (hl : e.f_Content.length ≤ 1000000000000) : go_certpathref35_open n e t = some ⟨(tList e.f_Content).1, 0, (e.f_Tag != t) || ((tList e.f_Content).2 != 0)⟩ := by
 unfold go_certpathref35_open
 rw [ref_List hl hn, Option.bind_some]
 simp only [ifb, Option.bind_some]
theorem pathR_tot {n M : Nat} (hn : 20 ≤ n) (hM : M ≤ 1000000) (l : List T_api_Element) (hb : Bd M l) : ∀ (k i : Nat) (acc : List Int) (j : Nat) (bad : Bool), i ≤ l.length → l.length - i < k → j ≤ l.length → acc.length + (l.length - i) ≤ M → ∃ a j' bad', go_certpathref35_DecodeFound_l1 n k (i : Int) acc l (j : Int) bad = some (a, l, j', bad') ∧ a.length ≤ M
 | 0, _, _, _, _, _, h, _, _ => by omega
 | k + 1, i, acc, j, bad, hi, hk, hj, ha => by
  have hl := hb.1
  rw [go_certpathref35_DecodeFound_l1]
  by_cases hc : i < l.length
  ·obtain ⟨x, j', bad', h1, h2⟩ := rintR_tot (n := n) (t := 2) (bad := bad) hn hM hb hj
   rw [if_pos (by rw [decide_eq_true_eq]; omega), h1, Option.bind_some, lapp_some (by rw [List.length_singleton]; omega), Option.bind_some, w1 (by omega)]
   exact pathR_tot hn hM l hb k (i + 1) _ j' bad' (by omega) (by omega) h2 (by rw [List.length_append, List.length_singleton]; omega)
  ·rw [if_neg (by rw [decide_eq_true_eq]; omega)]
   exact ⟨_, _, _, rfl, by omega⟩
theorem pathR {n : Nat} (hn : 20 ≤ n) (p : List Int) (hs : p.all sm = true) (hp : p.length ≤ 1000) : ∀ (k i : Nat) (acc : List Int), i ≤ p.length → p.length - i < k → acc.length ≤ i → go_certpathref35_DecodeFound_l1 n k (i : Int) acc ((p.map (numE 2)).map elm) (i : Int) false = some (acc ++ p.drop i, (p.map (numE 2)).map elm, ((p.length : Nat) : Int), false)
 | 0, _, _, _, h, _ => by omega
 | k + 1, i, acc, hi, hk, ha => by
  rw [go_certpathref35_DecodeFound_l1]
  have hlen : ((p.map (numE 2)).map elm).length = p.length := by rw [List.length_map, List.length_map]
  rw [hlen]
  by_cases hc : i < p.length
  ·have hx := List.all_eq_true.1 hs p[i] (List.getElem_mem hc)
   have h1 := rintR (n := n) (t := 2) (x := p[i]) (l := (p.map (numE 2)).map elm) (i := i) hn (by rw [hlen]; omega) hx (by simp [hc])
   rw [show ((2 : Nat) : Int) = 2 from rfl] at h1
   rw [if_pos (by rw [decide_eq_true_eq]; omega), h1, Option.bind_some, lapp_some (by rw [List.length_singleton]; omega), Option.bind_some, w1 (by omega)]
   simp only []
   rw [pathR hn p hs hp k (i + 1) _ (by omega) (by omega) (by rw [List.length_append, List.length_singleton]; omega), List.append_assoc]
   congr 2
   rw [List.drop_eq_getElem_cons hc]; rfl
  ·rw [if_neg (by rw [decide_eq_true_eq]; omega), List.drop_eq_nil_of_le (by omega), List.append_nil, show i = p.length by omega]
theorem rd_tot2 {n : Nat} (hn : 20 ≤ n) (b : Bs) (hb : b.length ≤ 100000000) : ∀ (k i v cnt : Nat) (out : Bs) (more : Bool), i ≤ b.length → b.length - i < k → v ≤ 2147483727 → cnt ≤ 12 → out.length ≤ 42 * i →
  ∃ c, go_certpathref01_DecodeOID_l1 n b k out (v : Int) more (cnt : Int) (i : Int) = some c ∧ (∀ o m, c = .nxt (o, m) → o.length ≤ 42 * b.length) ∧ ∀ r, c = .ret r → r.1 = []
 | 0, _, _, _, _, _, _, h, _, _, _ => by omega
 | k + 1, i, v, cnt, out, more, hi, hk, hv, hc, ho => by
  by_cases hlt : i < b.length
  ·have hb8 := b_lt b[i]
   rw [rd_step hn b hb k out v more cnt i hlt hv (by omega) hc]
   by_cases h1 : more = false ∧ b[i].toNat = 128
   ·rw [if_pos h1]; exact ⟨_, rfl, (fun o m h => by cases h), fun r h => by cases h; rfl⟩
   ·rw [if_neg h1]
    generalize 128 * v + b[i].toNat % 128 = V
    by_cases h2 : 2147483727 < V
    ·rw [if_pos h2]; exact ⟨_, rfl, (fun o m h => by cases h), fun r h => by cases h; rfl⟩
    ·rw [if_neg h2]
     by_cases h3 : 128 ≤ b[i].toNat
     ·rw [if_pos h3]; exact rd_tot2 hn b hb k (i + 1) V cnt out true (by omega) (by omega) (by omega) hc (by omega)
     ·rw [if_neg h3]
      have := rz_le V
      have l1 := dec_len (u := rz V) (by omega)
      have l2 := dec_len (u := V - 40 * rz V) (by omega)
      have l3 := dec_len (u := V) (by omega)
      by_cases h4 : cnt = 0
      ·rw [if_pos h4]
       exact rd_tot2 hn b hb k (i + 1) 0 2 _ false (by omega) (by omega) (by omega) (by omega) (by rw [List.length_append, List.length_append, List.length_singleton]; omega)
      ·rw [if_neg h4]
       by_cases h5 : 12 < cnt + 1
       ·rw [if_pos h5]; exact ⟨_, rfl, (fun o m h => by cases h), fun r h => by cases h; rfl⟩
       ·rw [if_neg h5]
        exact rd_tot2 hn b hb k (i + 1) 0 (cnt + 1) _ false (by omega) (by omega) (by omega) (by omega) (by rw [List.length_append, List.length_append, List.length_singleton]; omega)
  ·rw [go_certpathref01_DecodeOID_l1, if_neg (by rw [decide_eq_true_eq]; omega)]
   exact ⟨_, rfl, (fun o m h => by cases h; omega), fun r h => by cases h⟩
theorem oidRD_tot {n : Nat} {b : Bs} (hb : b.length ≤ 2000000) (hn : 42 * b.length + 40 ≤ n) : ∃ s e, go_certpathref01_DecodeOID n b = some (s, e) ∧ s.length ≤ 42 * b.length := by
 unfold go_certpathref01_DecodeOID
 obtain ⟨c, hc, ho, hr⟩ := rd_tot2 (n := n) (by omega) b (by omega) n 0 0 0 [] false (by omega) (by omega) (by omega) (by omega) (by simp)
 rw [show ((0 : Nat) : Int) = 0 from rfl] at hc
 rw [hc]
 cases c with
 | ret r => exact ⟨r.1, r.2, rfl, by rw [hr r rfl]; simp⟩
 | nxt x =>
  obtain ⟨o, m⟩ := x
  have hl := ho o m rfl
  simp only [ctlB]
  rw [ref_ValidOID (by omega) (by omega)]
  simp only [Option.bind_some, ifb]
  by_cases h : (((b.length : Int) == 0) || (m || !(tArcs o).isSome)) = true
  ·rw [if_pos h]; exact ⟨_, _, rfl, by simp⟩
  ·rw [if_neg h]; exact ⟨_, _, rfl, hl⟩
theorem polsR_tot {n M : Nat} (hn : 42 * M + 100 ≤ n) (hM : M ≤ 1000000) (el : List T_api_Element × Int) (hb : Bd M el.1) : ∀ (k i : Nat) (ps : List Bs) (bad : Bool), i ≤ el.1.length → el.1.length - i < k → ps.length + (el.1.length - i) ≤ M → (∀ s ∈ ps, s.length ≤ 42 * M) →
  ∃ ps' bad', go_certpathref35_reader_policies_l1 n el k ps (i : Int) bad = some (ps', bad') ∧ ps'.length ≤ M ∧ ∀ s ∈ ps', s.length ≤ 42 * M
 | 0, _, _, _, _, h, _, _ => by omega
 | k + 1, i, ps, bad, hi, hk, h1, h2 => by
  have hl := hb.1
  rw [go_certpathref35_reader_policies_l1]
  by_cases hc : i < el.1.length
  ·have hcl := hb.2 _ (List.getElem_mem hc)
   obtain ⟨s, x, hs, hsl⟩ := oidRD_tot (n := n) (b := el.1[i].f_Content) (by omega) (by omega)
   rw [if_pos (by rw [decide_eq_true_eq]; omega), lidx_nat hc, Option.bind_some, hs, Option.bind_some, ifb, Option.bind_some, lapp_some (by rw [List.length_singleton]; omega), Option.bind_some, w1 (by omega)]
   exact polsR_tot hn hM el hb k (i + 1) _ _ (by omega) (by omega) (by rw [List.length_append, List.length_singleton]; omega) (by
    intro y hy; rcases List.mem_append.1 hy with hy | hy
    ·exact h2 y hy
    ·simp at hy; subst hy; omega)
  ·rw [if_neg (by rw [decide_eq_true_eq]; omega)]
   exact ⟨_, _, rfl, by omega, h2⟩
theorem polsR_back {n : Nat} (hn : 1000 ≤ n) (pols : List Bs) (hs : pols.all (fun s => (tArcs s).isSome) = true) (hp : pols.length ≤ 1000000) : ∀ (k i : Nat) (ps : List Bs), i ≤ pols.length → pols.length - i < k → ps.length ≤ i →
  go_certpathref35_reader_policies_l1 n ((pols.map polE).map elm, 0) k ps (i : Int) false = some (ps ++ pols.drop i, false)
 | 0, _, _, _, h, _ => by omega
 | k + 1, i, ps, hi, hk, h1 => by
  rw [go_certpathref35_reader_policies_l1]
  have hlen : ((pols.map polE).map elm).length = pols.length := by rw [List.length_map, List.length_map]
  simp only []
  rw [hlen]
  by_cases hc : i < pols.length
  ·have hx := List.all_eq_true.1 hs pols[i] (List.getElem_mem hc)
   obtain ⟨a, ha⟩ := Option.isSome_iff_exists.1 hx
   have hl := tArcs_len hx
   have hi2 : lidx ((pols.map polE).map elm) (i : Int) = some (elm (polE pols[i])) := by rw [lidx_nat (by rw [hlen]; omega)]; simp
   have hcont : (elm (polE pols[i])).f_Content = encO a := by simp [elm, polE, ha]
   rw [if_pos (by rw [decide_eq_true_eq]; omega), hi2, Option.bind_some, hcont, ref_DecodeOID_back ha (by omega) (by omega), Option.bind_some, ifb, Option.bind_some, lapp_some (by rw [List.length_singleton]; omega), Option.bind_some, w1 (by omega)]
   have hb : (false || ((0 : Int) != 0)) = false := rfl
   simp only [hb]
   rw [polsR_back hn pols hs hp k (i + 1) _ (by omega) (by omega) (by rw [List.length_append, List.length_singleton]; omega), List.append_assoc]
   congr 2
   rw [List.drop_eq_getElem_cons hc]; rfl
  ·rw [if_neg (by rw [decide_eq_true_eq]; omega), List.drop_eq_nil_of_le (by omega), List.append_nil]
theorem readerPols_tot {n M : Nat} {e : T_api_Element} {m : T_certpathref35_reader} (hn : 42 * M + 100 ≤ n) (hM : M ≤ 1000000) (hc : e.f_Content.length ≤ M) : ∃ ps r, go_certpathref35_reader_policies n e m = some (ps, r) ∧ ps.length ≤ M ∧ ∀ s ∈ ps, s.length ≤ 42 * M := by
 unfold go_certpathref35_reader_policies
 rw [ref_List (by omega) (by omega), Option.bind_some, ifb, Option.bind_some]
 have hb := tList_bd e.f_Content hc
 have hl := hb.1
 obtain ⟨ps, bad', h1, h2, h3⟩ := polsR_tot (n := n) hn hM (tList e.f_Content) hb n 0 [] (m.f_bad || ((tList e.f_Content).2 != 0)) (by omega) (by omega) (by simp; omega) (by simp)
 rw [show ((0 : Nat) : Int) = 0 from rfl] at h1
 rw [h1]
 exact ⟨_, _, rfl, h2, h3⟩
theorem readerPols_back {n : Nat} {l : List T_api_Element} {i : Int} {e : T_api_Element} {pols : List Bs} (hn : 2000000 ≤ n) (hs : pols.all (fun s => (tArcs s).isSome) = true) (hl : (wraps (pols.map polE)).length ≤ 131072) (he : e.f_Content = wraps (pols.map polE)) : go_certpathref35_reader_policies n e ⟨l, i, false⟩ = some (pols, ⟨l, i, false⟩) := by
 unfold go_certpathref35_reader_policies
 have hp : ∀ p ∈ pols.map polE, POk p := by
  intro p hp; obtain ⟨s, h1, rfl⟩ := List.mem_map.1 hp; exact POk_pol (List.all_eq_true.1 hs s h1)
 have hb := tList_bd (wraps (pols.map polE)) (M := 131072) hl
 rw [tList_wraps hp] at hb
 have hlen := hb.1
 rw [List.length_map, List.length_map] at hlen
 rw [he, ref_List (by omega) (by omega), tList_wraps hp, Option.bind_some, ifb, Option.bind_some]
 have hb : (false || ((0 : Int) != 0)) = false := rfl
 simp only [hb]
 have := polsR_back (n := n) (by omega) pols hs (by omega) n 0 [] (by omega) (by omega) (by simp)
 rw [show ((0 : Nat) : Int) = 0 from rfl, List.drop_zero, List.nil_append] at this
 rw [this]; rfl
theorem decR {n : Nat} {b : Bs} {x : Int} (hb : b.length ≤ 1000000) (hn : 200000000 ≤ n) (hx : go_certpathref01_Check n b = some x) :
  (x ≠ 0 → go_certpathref35_DecodeFound n b = some (Z, x)) ∧ (x = 0 → (tOne b).2 = 0 → ∃ r, go_certpathref35_DecodeFound n b = some r ∧ (∀ v, encF v = (b, 0) → r = (v, 0)) ∧ (r = (Z, 7) ∨ encF r.1 = (b, 0) ∧ r.2 = 0)) := by
 unfold go_certpathref35_DecodeFound go_certpathref35_whole
 rw [hx, Option.bind_some]
 refine ⟨fun h => by rw [if_pos (by simpa using h), Option.bind_some, if_pos (by simpa using h)]; rfl, fun h h0 => ?_⟩
 subst h
 rw [if_neg (by simp), ref_One (by omega) (by omega), Option.bind_some, Option.bind_some, if_neg (by rw [h0]; simp)]
 have hbd := tOne_bd b
 have hM := hb
 generalize hMe : b.length = M at hbd hM
 simp only []
 rw [openR (by omega) (by omega), Option.bind_some]
 have b0 := tList_bd (tOne b).1.f_Content hbd
 have hl0 := b0.1
 generalize hfl : (((tOne b).1.f_Tag != 48) || ((tList (tOne b).1.f_Content).2 != 0)) = f0
 generalize hL : (tList (tOne b).1.f_Content).1 = L at b0 hl0
 obtain ⟨x1, j1, f1, h1, k1⟩ := rintR_tot (n := n) (t := 2) (i := 0) (bad := f0) (by omega) hM b0 (by omega)
 rw [show ((0 : Nat) : Int) = 0 from rfl] at h1
 obtain ⟨e2, j2, f2, h2, k2, c2⟩ := needR_tot (n := n) (t := 48) (i := j1) (bad := f1) hM b0 k1
 have bp := tList_bd e2.f_Content c2
 obtain ⟨a, j3, f3, h3, k3⟩ := pathR_tot (n := n) (by omega) hM (tList e2.f_Content).1 bp n 0 [] 0 ((e2.f_Tag != 48) || ((tList e2.f_Content).2 != 0)) (by omega) (by have := bp.1; omega) (by omega) (by have := bp.1; simp; omega)
 rw [show ((0 : Nat) : Int) = 0 from rfl] at h3
 obtain ⟨x4, j4, f4, h4, k4⟩ := rintR_tot (n := n) (t := 10) (i := j2) (bad := f2) (by omega) hM b0 k2
 obtain ⟨x5, j5, f5, h5, k5⟩ := rintR_tot (n := n) (t := 2) (i := j4) (bad := f4) (by omega) hM b0 k4
 obtain ⟨e6, j6, f6, h6, k6, c6⟩ := needR_tot (n := n) (t := 48) (i := j5) (bad := f5) hM b0 k5
 obtain ⟨ps, r, h7, k7, k8⟩ := readerPols_tot (n := n) (M := M) (e := e6) (m := ⟨L, j6, f6⟩) (by omega) hM c6
 rw [h1, Option.bind_some, h2, Option.bind_some, openR (e := e2) (by omega) (by omega), Option.bind_some]
 simp only []
 rw [h3, Option.bind_some, h4, Option.bind_some, h5, Option.bind_some, h6, Option.bind_some]
 simp only []
 rw [h7, Option.bind_some]
 have hfit : Fit n (42 * M) ⟨x1, a, ⟨x4, x5, ps⟩⟩ := ⟨by omega, by show a.length ≤ _; omega, by show ps.length ≤ _; omega, k8, by show a.length + ps.length + _ + _ ≤ _; omega⟩
 rw [encR hfit]
 simp only [Option.bind_some, ifb]
 have hback : ∀ v, encF v = (b, 0) → (⟨x1, a, ⟨x4, x5, ps⟩⟩ : T_api_Found) = v ∧ (r.f_bad || f3) = false := by
  intro v hv
  have ho := one_back hv
  obtain ⟨g1, g2, g3, g4, g5, g6⟩ := encF_inv hv
  obtain ⟨s1, s2, s3, s4⟩ := goodF_iff g1
  rw [ho] at hL hfl
  simp only [] at hL hfl
  rw [tList_wraps (contF_ok g2 g4)] at hL hfl
  have hf0 : f0 = false := by rw [← hfl]; rfl
  subst hf0
  have hL : (contF v).map elm = L := hL
  have q1 := rintR (n := n) (t := 2) (x := v.f_Anchor) (l := L) (i := 0) (by omega) (by omega) s1 (by rw [← hL]; rfl)
  rw [show ((2 : Nat) : Int) = 2 from rfl, show ((0 : Nat) : Int) = 0 from rfl, h1] at q1
  injection q1 with q1; injection q1 with q1 q1'; injection q1' with q11 q12 q13
  have q12 : j1 = 0 + 1 := by omega
  subst q1 q12 q13
  have q2 := needR (n := n) (t := 48) (l := L) (i := 1) (e := elm (48, wraps (v.f_Path.map (numE 2)))) (by omega) (by rw [← hL]; rfl) rfl
  rw [h2] at q2
  injection q2 with q2; injection q2 with q2 q2'; injection q2' with q21 q22 q23
  have q22 : j2 = 1 + 1 := by omega
  subst q2 q22 q23
  have ht : tList (elm (48, wraps (v.f_Path.map (numE 2)))).f_Content = ((v.f_Path.map (numE 2)).map elm, 0) := tList_wraps (path_ok v.f_Path)
  rw [ht] at h3
  have q3 := pathR (n := n) (by omega) v.f_Path s2 (by omega) n 0 [] (by omega) (by omega) (by simp)
  have hq : (((elm (48, wraps (v.f_Path.map (numE 2)))).f_Tag != 48) || ((0 : Int) != 0)) = false := rfl
  simp only [hq] at h3
  rw [show ((0 : Nat) : Int) = 0 from rfl, List.drop_zero, List.nil_append, h3] at q3
  injection q3 with q3; injection q3 with q3 q3'; injection q3' with q31 q32; injection q32 with q32 q33
  subst q3 q33
  have q4 := rintR (n := n) (t := 10) (x := v.f_Result.f_Check) (l := L) (i := 2) (by omega) (by omega) s3 (by rw [← hL]; rfl)
  rw [show ((10 : Nat) : Int) = 10 from rfl, h4] at q4
  injection q4 with q4; injection q4 with q4 q4'; injection q4' with q41 q42 q43
  have q42 : j4 = 2 + 1 := by omega
  subst q4 q42 q43
  have q5 := rintR (n := n) (t := 2) (x := v.f_Result.f_Position) (l := L) (i := 3) (by omega) (by omega) s4 (by rw [← hL]; rfl)
  rw [show ((2 : Nat) : Int) = 2 from rfl, h5] at q5
  injection q5 with q5; injection q5 with q5 q5'; injection q5' with q51 q52 q53
  have q52 : j5 = 3 + 1 := by omega
  subst q5 q52 q53
  have q6 := needR (n := n) (t := 48) (l := L) (i := 4) (e := elm (48, wraps (v.f_Result.f_Policies.map polE))) (by omega) (by rw [← hL]; rfl) rfl
  rw [h6] at q6
  injection q6 with q6; injection q6 with q6 q6'; injection q6' with q61 q62 q63
  subst q6 q63
  have q7 := readerPols_back (n := n) (l := L) (i := (j6 : Int)) (e := elm (48, wraps (v.f_Result.f_Policies.map polE))) (pols := v.f_Result.f_Policies) (by omega) g3 g4 rfl
  rw [h7] at q7
  injection q7 with q7; injection q7 with q7 q7'
  subst q7 q7'
  exact ⟨rfl, rfl⟩
 generalize (⟨x1, a, ⟨x4, x5, ps⟩⟩ : T_api_Found) = v' at hback hfit ⊢
 by_cases hf : (r.f_bad || f3) = true
 ·have : (r.f_bad || (f3 || ((encF v').2 != 0 || !((encF v').1 == b)))) = true := by
   rw [Bool.or_eq_true] at hf ⊢
   rcases hf with hf | hf
   ·exact .inl hf
   ·right; rw [hf]; rfl
  rw [if_pos this]
  exact ⟨_, rfl, (fun v hv => by have := (hback v hv).2; rw [hf] at this; exact absurd this (by simp)), .inl rfl⟩
 ·have hf' : r.f_bad = false ∧ f3 = false := by
   rw [Bool.not_eq_true, Bool.or_eq_false_iff] at hf; exact hf
  rw [hf'.1, hf'.2, Bool.false_or, Bool.false_or]
  by_cases hq : encF v' = (b, 0)
  ·rw [hq, if_neg (by simp)]
   exact ⟨_, rfl, (fun v hv => by rw [(hback v hv).1]), .inr ⟨hq, rfl⟩⟩
  ·have : (((encF v').2 != 0) || !((encF v').1 == b)) = true := by
    rw [Bool.or_eq_true, bne_iff_ne, Bool.not_eq_true', beq_eq_false_iff_ne]
    by_cases h7 : (encF v').2 = 0
    ·exact .inr (fun h8 => hq (Prod.ext h8 h7))
    ·exact .inl h7
   rw [if_pos this]
   exact ⟨_, rfl, (fun v hv => by have := (hback v hv).1; subst this; exact absurd hv hq), .inl rfl⟩
end Go.Abs
end
