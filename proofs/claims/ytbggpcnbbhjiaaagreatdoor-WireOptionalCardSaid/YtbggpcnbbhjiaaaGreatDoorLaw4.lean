/- The typed Lean form of WireOptional gives true for every list of at most 9223372036854775807 numbers. -/
import Derived.Test.YtbggpcnbbhjiaaaGreatDoorLaw3
set_option linter.unusedVariables false
set_option linter.unusedSimpArgs false
set_option linter.unnecessarySimpa false
section
set_option maxRecDepth 100000
namespace Go.Abs
open Go Go.Proofs
theorem row_facts {r : List T_api_Attribute} (h : r ∈ rows) : go_dname_checkRelative N0 r = some 0 ∧
  ∃ y o, go_dname_Encode_l2 N0 r N0 [] 0 = some (.nxt y) ∧ go_tlv_Order N0 y = some o ∧ o.length ≤ 300 := by
 have := List.all_eq_true.1 rows_chk r h
 unfold chkRow at this
 split at this
 ·rename_i h1
  split at this
  ·rename_i y h2
   split at this
   ·rename_i o h3
    exact ⟨h1, y, o, h2, h3, of_decide_eq_true this⟩
   ·cases this
  ·cases this
 ·cases this
theorem check_l1 {rs : List (List T_api_Attribute)} (hr : ∀ x ∈ rs, x ∈ rows) (hl : rs.length ≤ 1000) : ∀ (k i : Nat), i ≤ rs.length → rs.length - i < k →
  go_dname_Check_l1 N0 ⟨rs⟩ k (i : Int) = some (.nxt ())
 | 0, i, _, h => by omega
 | k + 1, i, hi, hk => by
  rw [go_dname_Check_l1]
  by_cases hc : i < rs.length
  ·rw [if_pos (by simpa using hc)]
   have hx : lidx rs (i : Int) = some rs[i] := by simp [lidx, hc]
   simp only [hx, Option.bind_some]
   rw [(row_facts (hr _ (List.getElem_mem hc))).1]
   simp only [Option.bind_some]
   rw [if_neg (by decide), show IntKind.wrap .i64 ((i : Int) + 1) = ((i + 1 : Nat) : Int) by rw [wr64 (by omega)]; omega]
   exact check_l1 hr hl k (i + 1) (by omega) (by omega)
  ·rw [if_neg (by simpa using hc)]
theorem dcheck {rs : List (List T_api_Attribute)} (hr : ∀ x ∈ rs, x ∈ rows) (hl : rs.length ≤ 3) : go_dname_Check N0 ⟨rs⟩ = some 0 := by
 unfold go_dname_Check
 rw [if_neg (by simp; omega), show (0 : Int) = ((0 : Nat) : Int) from rfl, check_l1 hr (by omega) N0 0 (by omega) (by simp [N0]; omega)]
 rfl
theorem enc_l1 {rs : List (List T_api_Attribute)} (hr : ∀ x ∈ rs, x ∈ rows) (hl : rs.length ≤ 3) : ∀ (k i : Nat) (acc : List (List UInt8)), i ≤ rs.length → rs.length - i < k → acc.length = i → tot acc ≤ 304 * i →
  ∃ ys, go_dname_Encode_l1 N0 ⟨rs⟩ k acc (i : Int) = some (.nxt ys) ∧ ys.length = rs.length ∧ tot ys ≤ 304 * rs.length
 | 0, i, _, _, h, _, _ => by omega
 | k + 1, i, acc, hi, hk, ha, ht => by
  rw [go_dname_Encode_l1]
  by_cases hc : i < rs.length
  ·rw [if_pos (by simpa using hc)]
   have hx : lidx rs (i : Int) = some rs[i] := by simp [lidx, hc]
   obtain ⟨_, y, o, h1, h2, h3⟩ := row_facts (hr _ (List.getElem_mem hc))
   obtain ⟨w, g1, g2, g3⟩ := wrap_law (n := N0) (t := 49) (cs := [o]) (by decide) (by decide) (by kernel_rfl) (by simp [tot]; omega) (by simp [N0]) (by simp)
   simp only [hx, Option.bind_some, h1, ctlB, h2, g1]
   rw [if_neg (by decide)]
   have hla : lapp 16 acc [w] = some (acc ++ [w]) := by
    unfold lapp; rw [if_pos (by simp; omega)]
   rw [hla]
   simp only [Option.bind_some]
   rw [show IntKind.wrap .i64 ((i : Int) + 1) = ((i + 1 : Nat) : Int) by rw [wr64 (by omega)]; omega]
   refine enc_l1 hr hl k (i + 1) _ (by omega) (by omega) (by simp; omega) ?_
   simp [tot] at *
   omega
  ·rw [if_neg (by simpa using hc)]
   have : i = rs.length := by omega
   subst this
   exact ⟨acc, rfl, ha, ht⟩
theorem dencode {rs : List (List T_api_Attribute)} (hr : ∀ x ∈ rs, x ∈ rows) (hl : rs.length ≤ 3) : ∃ w, go_dname_Encode N0 ⟨rs⟩ = some (w, 0) ∧ 2 ≤ w.length ∧ w.length ≤ 1500 := by
 unfold go_dname_Encode
 rw [dcheck hr hl]
 simp only [Option.bind_some]
 rw [if_neg (by decide)]
 obtain ⟨ys, h1, h2, h3⟩ := enc_l1 hr hl N0 0 [] (by omega) (by simp [N0]; omega) rfl (by simp [tot])
 rw [show ((0 : Nat) : Int) = 0 from rfl] at h1
 rw [h1]
 obtain ⟨w, g1, g2, g3⟩ := wrap_law (n := N0) (t := 48) (cs := ys) (by decide) (by decide) (by kernel_rfl) (by omega) (by simp [N0]; omega) (by omega)
 refine ⟨w, ?_, by omega, by omega⟩
 simp only [ctlB, g1, Option.bind_some]
theorem gen_facts {g : T_api_GeneralName} (h : g ∈ flat ∨ ∃ rs : List (List T_api_Attribute), g = ⟨4, [], ⟨rs⟩⟩ ∧ (∀ x ∈ rs, x ∈ rows) ∧ rs.length ≤ 3) :
  go_gname_Check N0 g false = some 0 ∧ ∃ e, go_gname_Encode N0 g false = some (e, 0) ∧ 1 ≤ e.length ∧ e.length ≤ 2000 := by
 rcases h with h | ⟨rs, rfl, hr, hl⟩
 ·have := List.all_eq_true.1 flat_chk g h
  unfold chkFlat at this
  split at this
  ·rename_i h1
   split at this
   ·rename_i e h2
    simp only [Bool.and_eq_true, decide_eq_true_eq] at this
    exact ⟨h1, e, h2, this.1, this.2⟩
   ·cases this
  ·cases this
 ·have hk : go_gname_Check N0 (⟨4, [], ⟨rs⟩⟩ : T_api_GeneralName) false = some 0 := by
   unfold go_gname_Check
   rw [show go_gname_of N0 (T_api_GeneralName.mk 4 [] ⟨rs⟩).f_Kind = some 2 from by kernel_rfl]
   simp only [Option.bind_some]
   rw [if_neg (by decide), if_pos (by decide), if_neg (by decide), dcheck hr hl]
   rfl
  refine ⟨hk, ?_⟩
  unfold go_gname_Encode
  obtain ⟨w, g1, g2, g3⟩ := dencode hr hl
  obtain ⟨v, e1, e2, e3⟩ := wrap_law (n := N0) (t := 164) (cs := [w]) (by decide) (by decide) (by kernel_rfl) (by simp [tot]; omega) (by simp [N0]) (by simp)
  refine ⟨v, ?_, by omega, by simp [tot] at *; omega⟩
  rw [show (T_api_GeneralName.mk (T_api_GeneralName.mk 4 [] ⟨rs⟩).f_Kind (T_api_GeneralName.mk 4 [] ⟨rs⟩).f_Text (T_api_Name.mk (T_api_GeneralName.mk 4 [] ⟨rs⟩).f_Name.f_RDNs)) = (⟨4, [], ⟨rs⟩⟩ : T_api_GeneralName) from rfl, hk]
  simp only [Option.bind_some]
  rw [if_neg (by decide), if_neg (by decide), g1]
  simp only [Option.bind_some]
  rw [if_neg (by decide), show IntKind.wrap .i64 ((160 : Int) + 4) = 164 from rfl, e1]
  rfl
theorem glist {g : T_api_GeneralName} {e : List UInt8} (h1 : go_gname_Encode N0 g false = some (e, 0)) (h2 : e.length ≤ 2000) : go_gname_EncodeList N0 [g] = some (e, 0) := by
 unfold go_gname_EncodeList
 rw [show go_gname_count N0 (([g] : List T_api_GeneralName).length : Int) = some 0 from by kernel_rfl]
 simp only [Option.bind_some]
 rw [if_neg (by exact ne_true_of_eq_false rfl)]
 unfold N0
 rw [go_gname_EncodeList_l1, if_pos (by rfl)]
 rw [show lidx [g] 0 = some g from rfl]
 simp only [Option.bind_some]
 unfold N0 at h1
 rw [show (T_api_GeneralName.mk g.f_Kind g.f_Text (T_api_Name.mk g.f_Name.f_RDNs)) = g from rfl, h1]
 simp only [Option.bind_some]
 rw [if_neg (by exact ne_true_of_eq_false rfl), show sadd [] e = some e by unfold sadd; rw [if_pos (by simp; omega)]; rfl]
 simp only [Option.bind_some]
 rw [go_gname_EncodeList_l1, if_neg (by exact ne_true_of_eq_false rfl)]
 rfl
theorem vquery {g : T_api_GeneralName} {t m : Int} (ht : t ∈ times) (hm : m ∈ lens) (hg : go_gname_Check N0 g false = some 0) :
  go_validate_Query N0 ⟨t, [], 0, [], false, false, false, [g], m, false, []⟩ = some 0 := by
 have ht1 : 0 ≤ t ∧ t ≤ 254033452799 := by
  simp only [times, List.mem_cons, List.not_mem_nil, or_false] at ht; omega
 have hm1 : 1 ≤ m ∧ m ≤ 8 := by
  simp only [lens, List.mem_cons, List.not_mem_nil, or_false] at hm; omega
 unfold go_validate_Query
 dsimp only
 rw [if_neg (by simp; omega)]
 simp only [Option.bind_some]
 rw [if_neg (by simp; omega), if_neg (by exact ne_true_of_eq_false rfl)]
 simp only [Option.bind_some]
 rw [if_neg (by exact ne_true_of_eq_false rfl), if_neg (by exact ne_true_of_eq_false rfl), if_neg (by exact ne_true_of_eq_false rfl), if_neg (by simp; omega)]
 simp only [Option.bind_some]
 rw [if_neg (by simp; omega), if_neg (by exact ne_true_of_eq_false rfl), if_neg (by exact ne_true_of_eq_false rfl)]
 simp only [Option.bind_some]
 rw [if_neg (by exact ne_true_of_eq_false rfl)]
 unfold N0
 rw [go_validate_Query_l1, if_neg (by exact ne_true_of_eq_false rfl)]
 simp only [ctlB]
 rw [if_neg (by exact ne_true_of_eq_false rfl), go_validate_Query_l2, if_pos (by rfl)]
 rw [show lidx [g] 0 = some g from rfl]
 simp only [Option.bind_some]
 unfold N0 at hg
 rw [show (T_api_GeneralName.mk g.f_Kind g.f_Text (T_api_Name.mk g.f_Name.f_RDNs)) = g from rfl, hg]
 simp only [Option.bind_some]
 rw [if_neg (by exact ne_true_of_eq_false rfl), go_validate_Query_l2, if_neg (by exact ne_true_of_eq_false rfl)]
 simp only []
 rw [go_validate_Query_l3, if_neg (by exact ne_true_of_eq_false rfl)]
theorem add_law {n : Nat} {b s : List UInt8} {e : Int} (h : b.length + s.length ≤ 100000) : go_wire_buffer_add n s e ⟨b, 0⟩ = some ⟨b ++ s, e⟩ := by
 unfold go_wire_buffer_add
 rw [if_pos (by rfl), show sadd (T_wire_buffer.mk b 0).f_b s = some (b ++ s) by unfold sadd; rw [if_pos (by simp; omega)]]
 rfl
theorem elem_law {n : Nat} {b s : List UInt8} {t : Int} (h0 : 0 ≤ t) (h1 : t ≤ 255) (h2 : (iand .i64 t 31 == 31) = false) (hn : 1 < n) (h : b.length + s.length ≤ 50000) :
  ∃ c, go_wire_buffer_element n t s ⟨b, 0⟩ = some ⟨c, 0⟩ ∧ b.length + s.length + 2 ≤ c.length ∧ c.length ≤ b.length + s.length + 4 := by
 obtain ⟨w, g1, g2, g3⟩ := wrap_law (n := n) (t := t) (cs := [s]) h0 h1 h2 (by simp [tot]; omega) (by simpa using hn) (by simp)
 simp [tot] at g2 g3
 refine ⟨b ++ w, ?_, by simp; omega, by simp; omega⟩
 unfold go_wire_buffer_element
 rw [g1]
 simp only [Option.bind_some]
 rw [add_law (by omega)]
 rfl
theorem names_law {g : T_api_GeneralName} {t m : Int} {s p e : List UInt8} (ht : t ∈ times) (hm : m ∈ lens) (hg : go_gname_Check N0 g false = some 0)
  (he : go_gname_Encode N0 g false = some (e, 0)) (hl1 : 1 ≤ e.length) (hl2 : e.length ≤ 2000) (hs : go_date_Encode N0 t = some (s, 0)) (hp : go_prim_PutInteger N0 m = some p) (hs2 : s.length ≤ 50) (hp2 : p.length ≤ 50) :
  ∃ c, go_wire_EncodeQuery N0 ⟨t, [], 0, [], false, false, false, [g], m, false, []⟩ = some (c, 0) ∧ s.length + p.length + 4 < c.length := by
 unfold go_wire_EncodeQuery
 rw [vquery ht hm hg]
 simp only [Option.bind_some]
 rw [if_neg (by exact ne_true_of_eq_false rfl)]
 rw [hs]
 simp only [Option.bind_some]
 rw [add_law (by simp; omega)]
 simp only [Option.bind_some, List.nil_append]
 rw [if_neg (by exact ne_true_of_eq_false rfl)]
 simp only [Option.bind_some]
 rw [if_neg (by exact ne_true_of_eq_false rfl)]
 simp only [Option.bind_some]
 rw [if_neg (by exact ne_true_of_eq_false rfl)]
 simp only [Option.bind_some]
 have hb : ∀ (k : Int) (x : T_wire_buffer), go_wire_buffer_boolean N0 k false x = some x := fun k x => rfl
 rw [hb]
 simp only [Option.bind_some]
 rw [hb]
 simp only [Option.bind_some]
 rw [hb]
 simp only [Option.bind_some]
 rw [if_pos (by simp), glist he hl2]
 simp only [Option.bind_some]
 rw [add_law (by simp; omega)]
 simp only [Option.bind_some, List.append_nil]
 obtain ⟨c1, h1, h2, h3⟩ := elem_law (n := N0) (b := s) (s := e) (t := 166) (by decide) (by decide) (by kernel_rfl) (by decide) (by omega)
 rw [h1]
 simp only [Option.bind_some]
 obtain ⟨c2, k1, k2, k3⟩ := elem_law (n := N0) (b := c1) (s := p) (t := 2) (by decide) (by decide) (by kernel_rfl) (by decide) (by omega)
 rw [show go_wire_buffer_number N0 m ⟨c1, 0⟩ = some ⟨c2, 0⟩ by unfold go_wire_buffer_number go_wire_buffer_integer; rw [hp]; simp only [Option.bind_some]; rw [k1]; rfl]
 simp only [Option.bind_some]
 rw [hb]
 simp only [Option.bind_some]
 rw [if_neg (by exact ne_true_of_eq_false rfl)]
 obtain ⟨w, g1, g2, g3⟩ := wrap_law (n := N0) (t := 48) (cs := [c2]) (by decide) (by decide) (by kernel_rfl) (by simp [tot]; omega) (by simp [N0]) (by simp)
 simp [tot] at g2 g3
 refine ⟨w, ?_, by omega⟩
 unfold go_wire_buffer_whole
 rw [show (T_wire_buffer.mk c2 0).f_b = c2 from rfl, g1]
 rfl
theorem longer_elim {o : Option (List UInt8 × Int)} {k : Nat} {x : Bool} (h : longer o k x = true) : ∃ c, o = some (c, 0) ∧ k < c.length ∧ (x = true → c.length = k + 3) := by
 unfold longer at h
 split at h
 ·rename_i c
  refine ⟨c, rfl, ?_, ?_⟩ <;> simp at h
  ·exact h.1
  ·rintro rfl; simpa using h.2
 ·cases h
theorem q_facts {t m : Int} (ht : t ∈ times) (hm : m ∈ lens) : chkQ t m = true := List.all_eq_true.1 (List.all_eq_true.1 q_chk t ht) m hm
theorem q_elim {t m : Int} (h : chkQ t m = true) : ∃ b, base t m = some (b, 0) ∧
  longer (go_wire_EncodeQuery N0 ⟨t, [49, 46, 51, 46, 54, 46, 49, 46, 53, 46, 53, 46, 55, 46, 51, 46, 49], 0, [], false, false, false, [], m, false, []⟩) b.length false ∧
  longer (go_wire_EncodeQuery N0 ⟨t, [], 1, [], false, false, false, [], m, false, []⟩) b.length false ∧
  longer (go_wire_EncodeQuery N0 ⟨t, [], 0, [[49, 46, 50, 46, 51]], false, false, false, [], m, false, []⟩) b.length false ∧
  longer (go_wire_EncodeQuery N0 ⟨t, [], 0, [], true, false, false, [], m, false, []⟩) b.length true ∧
  longer (go_wire_EncodeQuery N0 ⟨t, [], 0, [], false, true, false, [], m, false, []⟩) b.length true ∧
  longer (go_wire_EncodeQuery N0 ⟨t, [], 0, [], false, false, true, [], m, false, []⟩) b.length true ∧
  longer (go_wire_EncodeQuery N0 ⟨t, [], 0, [], false, false, false, [], m, true, []⟩) b.length false ∧
  ∃ s p, go_date_Encode N0 t = some (s, 0) ∧ go_prim_PutInteger N0 m = some p ∧ s.length ≤ 50 ∧ p.length ≤ 50 ∧ b.length = s.length + p.length + 4 := by
 unfold chkQ at h
 split at h
 ·rename_i b hb
  simp only [Bool.and_eq_true] at h
  obtain ⟨⟨⟨⟨⟨⟨⟨h1, h2⟩, h3⟩, h4⟩, h5⟩, h6⟩, h7⟩, h8⟩ := h
  split at h8
  ·rename_i s hs
   split at h8
   ·rename_i p hp
    simp only [Bool.and_eq_true, decide_eq_true_eq, beq_iff_eq] at h8
    exact ⟨b, hb, h1, h2, h3, h4, h5, h6, h7, s, p, hs, hp, h8.1.1, h8.1.2, h8.2⟩
   ·cases h8
  ·cases h8
 ·cases h
theorem more {a b : Nat} (h : b < a) : (decide ((a : Int) ≤ (b : Int))) = false := by simp; omega
theorem three {a b : Nat} (h : a = b + 3) (hb : b ≤ 1000000) : ((a : Int) != IntKind.wrap .i64 ((b : Int) + 3)) = false := by
 rw [wr64 (by omega)]; simp; omega
theorem optional_law (l : List Int) (hl : l.length ≤ 9223372036854775807) : go_certpathlaw37_WireOptional N0 l = some true := by
 have hd : DeckOk ⟨l, 0⟩ := ⟨by simp, by simp, hl⟩
 obtain ⟨t, d2, h1, ht, hd2⟩ := time_law (n := N0) hd
 obtain ⟨r, d3, h2, h3, h4, hd3⟩ := next_law (n := N0) (k := 8) (by decide) (by decide) hd2
 obtain ⟨g, d4, h5, hg, hd4⟩ := general_law (n := N0) (by decide) hd3
 obtain ⟨hg1, e, he, he1, he2⟩ := gen_facts hg
 have hm : IntKind.wrap .i64 ((1 : Int) + r) = 1 + r := wr64 (by omega)
 have hmm : (1 + r) ∈ lens := by
  have : r = 0 ∨ r = 1 ∨ r = 2 ∨ r = 3 ∨ r = 4 ∨ r = 5 ∨ r = 6 ∨ r = 7 := by omega
  rcases this with h | h | h | h | h | h | h | h <;> subst h <;> decide
 obtain ⟨b, hb, c1, c2, c3, c4, c5, c6, c7, s, p, hs, hp, hs2, hp2, hbl⟩ := q_elim (q_facts ht hmm)
 obtain ⟨x8, n1, n2⟩ := names_law ht hmm hg1 he he1 he2 hs hp hs2 hp2
 obtain ⟨x1, a1, b1, _⟩ := longer_elim c1
 obtain ⟨x2, a2, b2, _⟩ := longer_elim c2
 obtain ⟨x3, a3, b3, _⟩ := longer_elim c3
 obtain ⟨x4, a4, b4, t4⟩ := longer_elim c4
 obtain ⟨x5, a5, b5, t5⟩ := longer_elim c5
 obtain ⟨x6, a6, b6, t6⟩ := longer_elim c6
 obtain ⟨x7, a7, b7, _⟩ := longer_elim c7
 unfold base at hb
 unfold go_certpathlaw37_WireOptional
 rw [show go_certpathmade_New N0 l = some ⟨l, 0⟩ from rfl]
 simp only [Option.bind_some, h1, h2, hm, hb, h5, a1, a2, a3, a4, a5, a6, a7, n1,
  show (T_api_GeneralName.mk g.f_Kind g.f_Text (T_api_Name.mk g.f_Name.f_RDNs)) = g from rfl,
  show ((0 : Int) != 0) = false from rfl, Bool.false_eq_true, if_false, more b1, more b2, more b3, more b4, more b5, more b6, more b7, more (hbl ▸ n2),
  three (t4 rfl) (by omega), three (t5 rfl) (by omega), three (t6 rfl) (by omega), awake_chk]
end Go.Abs
end
