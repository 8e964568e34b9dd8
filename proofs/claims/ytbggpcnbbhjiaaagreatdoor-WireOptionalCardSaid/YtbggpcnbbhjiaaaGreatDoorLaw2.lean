/- The typed Lean form of WireOptional gives true for every list of at most 9223372036854775807 numbers. -/
import Derived.Test.YtbggpcnbbhjiaaaGreatDoorLaw1
set_option linter.unusedVariables false
set_option linter.unusedSimpArgs false
set_option linter.unnecessarySimpa false
section
set_option maxRecDepth 100000
namespace Go.Abs
open Go Go.Proofs
abbrev N0 : Nat := 200
def attrs : List T_api_Attribute := [(T_api_Attribute.mk ([50, 46, 53, 46, 52, 46, 51] : List UInt8) 12 ([65, 110, 110] : List UInt8)), (T_api_Attribute.mk ([50, 46, 53, 46, 52, 46, 51] : List UInt8) 19 ([32, 97, 110, 110] : List UInt8)), (T_api_Attribute.mk ([50, 46, 53, 46, 52, 46, 51] : List UInt8) 12 ([103, 114, 195, 182, 195, 159, 101] : List UInt8)), (T_api_Attribute.mk ([50, 46, 53, 46, 52, 46, 54] : List UInt8) 19 ([85, 83] : List UInt8)), (T_api_Attribute.mk ([50, 46, 53, 46, 52, 46, 49, 48] : List UInt8) 19 ([69, 120, 97, 109, 112, 108, 101, 32, 32, 67, 111, 114, 112] : List UInt8)), (T_api_Attribute.mk ([50, 46, 53, 46, 52, 46, 49, 48] : List UInt8) 12 ([101, 120, 97, 109, 112, 108, 101, 32, 99, 111, 114, 112] : List UInt8)), (T_api_Attribute.mk ([50, 46, 53, 46, 52, 46, 49, 49] : List UInt8) 22 ([97, 44, 98, 43, 99, 61, 100, 92, 101] : List UInt8)), (T_api_Attribute.mk ([48, 46, 57, 46, 50, 51, 52, 50, 46, 49, 57, 50, 48, 48, 51, 48, 48, 46, 49, 48, 48, 46, 49, 46, 50, 53] : List UInt8) 22 ([111, 114, 103] : List UInt8)), (T_api_Attribute.mk ([49, 46, 50, 46, 56, 52, 48, 46, 49, 49, 51, 53, 52, 57, 46, 49, 46, 57, 46, 49] : List UInt8) 22 ([97, 110, 110, 64, 101, 120, 97, 109, 112, 108, 101, 46, 111, 114, 103] : List UInt8)), (T_api_Attribute.mk ([49, 46, 50, 46, 56, 52, 48, 46, 49, 49, 51, 53, 52, 57, 46, 49, 46, 57, 46, 49] : List UInt8) 22 ([110, 111, 32, 97, 100, 100, 114, 101, 115, 115] : List UInt8)), (T_api_Attribute.mk ([50, 46, 53, 46, 52, 46, 57, 57] : List UInt8) 19 ([120] : List UInt8)), (T_api_Attribute.mk ([50, 46, 53, 46, 52, 46, 55] : List UInt8) 12 ([76] : List UInt8))]
def rows : List (List T_api_Attribute) := attrs.map (fun a => [a]) ++ attrs.flatMap (fun a => (attrs.filter fun b => !(a.f_Type == b.f_Type)).map fun b => [a, b])
theorem attribute_law {n : Nat} {d : T_certpathmade_Deck} (hd : DeckOk d) :
  ∃ t d', go_certpathmade_attribute n d = some (t, d') ∧ t ∈ attrs ∧ DeckOk d' := by
 obtain ⟨r, d', h1, h2, h3, h4⟩ := next_law (n := n) (k := 12) (by decide) (by decide) hd
 obtain ⟨x, hx, hm⟩ := lidx_some (l := attrs) h2 (by simpa [attrs] using h3)
 refine ⟨x, d', ?_, hm, h4⟩
 unfold go_certpathmade_attribute
 rw [h1]
 simp only [Option.bind_some]
 unfold attrs at hx
 rw [hx]
 rfl
theorem rows_one {a : T_api_Attribute} (h : a ∈ attrs) : [a] ∈ rows := List.mem_append_left _ (List.mem_map.2 ⟨a, h, rfl⟩)
theorem rows_two {a b : T_api_Attribute} (h : a ∈ attrs) (h2 : b ∈ attrs) (h3 : (!(a.f_Type == b.f_Type)) = true) : [a, b] ∈ rows :=
 List.mem_append_right _ (List.mem_flatMap.2 ⟨a, h, List.mem_map.2 ⟨b, List.mem_filter.2 ⟨h2, h3⟩, rfl⟩⟩)
theorem nl2_0 {n k : Nat} {r : List T_api_Attribute} {L : List Int} {At : Int} : go_certpathmade_Name_l2 n (k + 1) r 0 L At = some (r, L, At) := by
 rw [go_certpathmade_Name_l2]; rfl
theorem nl2_first {n k : Nat} {j : Int} {L : List Int} {At : Int} (hj : j = 1 ∨ j = 2) (hd : DeckOk ⟨L, At⟩) :
  ∃ r L' At', go_certpathmade_Name_l2 n (k + 3) [] j L At = some (r, L', At') ∧ r ∈ rows ∧ DeckOk ⟨L', At'⟩ := by
 obtain ⟨a, d', h1, h2, h3⟩ := attribute_law (n := n) hd
 rw [go_certpathmade_Name_l2, if_pos (by rcases hj with h | h <;> subst h <;> rfl), h1]
 simp only [Option.bind_some, List.length_nil]
 rw [if_pos (by rfl)]
 simp only [Option.bind_some, if_true, lapp, List.length_nil, List.length_cons]
 rw [if_pos (by decide)]
 simp only [Option.bind_some, List.nil_append]
 rcases hj with rfl | rfl
 ·rw [show IntKind.wrap .i64 (1 - 1) = 0 by rfl, nl2_0]
  exact ⟨_, _, _, rfl, rows_one h2, h3⟩
 ·rw [show IntKind.wrap .i64 (2 - 1) = 1 by rfl]
  obtain ⟨b, d2, g1, g2, g3⟩ := attribute_law (n := n) (d := ⟨d'.f_L, d'.f_At⟩) h3
  rw [go_certpathmade_Name_l2, if_pos (by rfl), g1]
  simp only [Option.bind_some]
  rw [if_neg (by simp)]
  simp only [lidx, Int.le_refl, if_true, Int.toNat_zero, List.getElem?_cons_zero, Option.bind_some]
  by_cases hs : (!(a.f_Type == b.f_Type)) = true
  ·rw [if_pos hs]
   simp only [lapp, List.length_cons, List.length_nil]
   rw [if_pos (by decide)]
   simp only [Option.bind_some]
   rw [show IntKind.wrap .i64 (1 - 1) = 0 by rfl, nl2_0]
   exact ⟨_, _, _, rfl, rows_two h2 g2 hs, g3⟩
  ·rw [if_neg hs]
   simp only [Option.bind_some]
   rw [show IntKind.wrap .i64 (1 - 1) = 0 by rfl, nl2_0]
   exact ⟨_, _, _, rfl, rows_one h2, g3⟩
theorem nl1 {n : Nat} (hn : 3 ≤ n) : ∀ (j k : Nat) (acc : List (List T_api_Attribute)) (L : List Int) (At : Int), j < k → j + acc.length ≤ 100 → (∀ x ∈ acc, x ∈ rows) → DeckOk ⟨L, At⟩ →
  ∃ rs L' At', go_certpathmade_Name_l1 n k (j : Int) L At acc = some (L', At', rs) ∧ (∀ x ∈ rs, x ∈ rows) ∧ rs.length = acc.length + j ∧ DeckOk ⟨L', At'⟩
 | 0, k + 1, acc, L, At, _, hl, ha, hd => by
  rw [go_certpathmade_Name_l1]
  exact ⟨acc, L, At, rfl, ha, rfl, hd⟩
 | j + 1, k + 1, acc, L, At, hk, hl, ha, hd => by
  rw [go_certpathmade_Name_l1, if_pos (by simp)]
  obtain ⟨r, d', h1, h2, h3, h4⟩ := next_law (n := n) (k := 5) (by decide) (by decide) hd
  rw [h1]
  simp only [Option.bind_some]
  have hq : IntKind.wrap .i64 ((1 : Int) + IntKind.wrap .i64 (r.tdiv 4)) = 1 ∨ IntKind.wrap .i64 ((1 : Int) + IntKind.wrap .i64 (r.tdiv 4)) = 2 := by
   have : r = 0 ∨ r = 1 ∨ r = 2 ∨ r = 3 ∨ r = 4 := by omega
   rcases this with h | h | h | h | h <;> subst h <;> first | exact .inl rfl | exact .inr rfl
  obtain ⟨m, rfl⟩ : ∃ m, n = m + 3 := ⟨n - 3, by omega⟩
  obtain ⟨row, L', At', g1, g2, g3⟩ := nl2_first (n := m + 3) (k := m) hq h4
  rw [g1]
  simp only [Option.bind_some, lapp, List.length_cons, List.length_nil]
  rw [if_pos (by omega)]
  simp only [Option.bind_some]
  rw [show IntKind.wrap .i64 (((j + 1 : Nat) : Int) - 1) = (j : Int) by rw [wr64 (by omega)]; omega]
  obtain ⟨rs, L2, At2, e1, e2, e3, e4⟩ := nl1 hn j k (acc ++ [row]) L' At' (by omega) (by simp; omega) (by
   intro x hx
   rcases List.mem_append.1 hx with hx | hx
   ·exact ha x hx
   ·rw [List.mem_singleton.1 hx]; exact g2) g3
  exact ⟨rs, L2, At2, e1, e2, by simp at e3; omega, e4⟩
theorem name_law {n : Nat} {d : T_certpathmade_Deck} (hn : 5 ≤ n) (hd : DeckOk d) :
  ∃ rs d', go_certpathmade_Name n d = some (⟨rs⟩, d') ∧ (∀ x ∈ rs, x ∈ rows) ∧ rs.length ≤ 3 ∧ DeckOk d' := by
 obtain ⟨r, d', h1, h2, h3, h4⟩ := next_law (n := n) (k := 4) (by decide) (by decide) hd
 obtain ⟨j, rfl⟩ := Int.eq_ofNat_of_zero_le h2
 obtain ⟨rs, L', At', e1, e2, e3, e4⟩ := nl1 (n := n) (by omega) j n [] d'.f_L d'.f_At (by omega) (by simp; omega) (by intro x hx; cases hx) h4
 refine ⟨rs, ⟨L', At'⟩, ?_, e2, by simp at e3; omega, e4⟩
 unfold go_certpathmade_Name
 rw [h1]
 simp only [Option.bind_some]
 rw [e1]
 rfl
def flat : List T_api_GeneralName := ([([97, 110, 110, 64, 101, 120, 97, 109, 112, 108, 101, 46, 111, 114, 103] : List UInt8), ([65, 78, 78, 64, 101, 120, 97, 109, 112, 108, 101, 46, 111, 114, 103] : List UInt8), ([97, 110, 110, 64, 69, 120, 97, 109, 112, 108, 101, 46, 79, 82, 71] : List UInt8), ([98, 46, 99, 64, 109, 97, 105, 108, 46, 101, 120, 97, 109, 112, 108, 101, 46, 111, 114, 103] : List UInt8), ([120, 64, 111, 114, 103] : List UInt8), ([97, 39, 98, 64, 97, 46, 98] : List UInt8)] : List (List UInt8)).map (fun x => ⟨1, x, ⟨[]⟩⟩) ++ (([([101, 120, 97, 109, 112, 108, 101, 46, 111, 114, 103] : List UInt8), ([119, 119, 119, 46, 101, 120, 97, 109, 112, 108, 101, 46, 111, 114, 103] : List UInt8), ([87, 87, 87, 46, 69, 120, 97, 109, 112, 108, 101, 46, 111, 114, 103] : List UInt8), ([42, 46, 101, 120, 97, 109, 112, 108, 101, 46, 111, 114, 103] : List UInt8), ([97, 46, 98] : List UInt8), ([111, 114, 103] : List UInt8), ([109, 121, 101, 120, 97, 109, 112, 108, 101, 46, 111, 114, 103] : List UInt8)] : List (List UInt8)).map (fun x => ⟨2, x, ⟨[]⟩⟩) ++ ([([10, 0, 0, 1] : List UInt8), ([10, 1, 2, 3] : List UInt8), ([192, 168, 1, 7] : List UInt8), ([32, 1, 13, 184, 0, 0, 0, 0, 0, 0, 0, 0, 0, 0, 0, 1] : List UInt8)] : List (List UInt8)).map (fun x => ⟨7, x, ⟨[]⟩⟩))
theorem general_law {n : Nat} {d : T_certpathmade_Deck} (hn : 5 ≤ n) (hd : DeckOk d) :
  ∃ g d', go_certpathmade_General n d = some (g, d') ∧ (g ∈ flat ∨ ∃ rs : List (List T_api_Attribute), g = ⟨4, [], ⟨rs⟩⟩ ∧ (∀ x ∈ rs, x ∈ rows) ∧ rs.length ≤ 3) ∧ DeckOk d' := by
 obtain ⟨r, d', h1, h2, h3, h4⟩ := next_law (n := n) (k := 4) (by decide) (by decide) hd
 have hc : r = 0 ∨ r = 1 ∨ r = 2 ∨ r = 3 := by omega
 unfold go_certpathmade_General
 rw [h1]
 simp only [Option.bind_some]
 rcases hc with rfl | rfl | rfl | rfl
 ·obtain ⟨r2, d2, g1, g2, g3, g4⟩ := next_law (n := n) (k := 6) (by decide) (by decide) h4
  obtain ⟨x, hx, hm⟩ := lidx_some (l := ([([97, 110, 110, 64, 101, 120, 97, 109, 112, 108, 101, 46, 111, 114, 103] : List UInt8), ([65, 78, 78, 64, 101, 120, 97, 109, 112, 108, 101, 46, 111, 114, 103] : List UInt8), ([97, 110, 110, 64, 69, 120, 97, 109, 112, 108, 101, 46, 79, 82, 71] : List UInt8), ([98, 46, 99, 64, 109, 97, 105, 108, 46, 101, 120, 97, 109, 112, 108, 101, 46, 111, 114, 103] : List UInt8), ([120, 64, 111, 114, 103] : List UInt8), ([97, 39, 98, 64, 97, 46, 98] : List UInt8)] : List (List UInt8))) g2 g3
  rw [if_pos (by rfl), g1]
  simp only [Option.bind_some]
  rw [hx]
  exact ⟨_, d2, rfl, .inl (List.mem_append_left _ (List.mem_map.2 ⟨x, hm, rfl⟩)), g4⟩
 ·obtain ⟨r2, d2, g1, g2, g3, g4⟩ := next_law (n := n) (k := 7) (by decide) (by decide) h4
  obtain ⟨x, hx, hm⟩ := lidx_some (l := ([([101, 120, 97, 109, 112, 108, 101, 46, 111, 114, 103] : List UInt8), ([119, 119, 119, 46, 101, 120, 97, 109, 112, 108, 101, 46, 111, 114, 103] : List UInt8), ([87, 87, 87, 46, 69, 120, 97, 109, 112, 108, 101, 46, 111, 114, 103] : List UInt8), ([42, 46, 101, 120, 97, 109, 112, 108, 101, 46, 111, 114, 103] : List UInt8), ([97, 46, 98] : List UInt8), ([111, 114, 103] : List UInt8), ([109, 121, 101, 120, 97, 109, 112, 108, 101, 46, 111, 114, 103] : List UInt8)] : List (List UInt8))) g2 g3
  rw [if_neg (by decide), if_pos (by rfl), g1]
  simp only [Option.bind_some]
  rw [hx]
  exact ⟨_, d2, rfl, .inl (List.mem_append_right _ (List.mem_append_left _ (List.mem_map.2 ⟨x, hm, rfl⟩))), g4⟩
 ·obtain ⟨r2, d2, g1, g2, g3, g4⟩ := next_law (n := n) (k := 4) (by decide) (by decide) h4
  obtain ⟨x, hx, hm⟩ := lidx_some (l := ([([10, 0, 0, 1] : List UInt8), ([10, 1, 2, 3] : List UInt8), ([192, 168, 1, 7] : List UInt8), ([32, 1, 13, 184, 0, 0, 0, 0, 0, 0, 0, 0, 0, 0, 0, 1] : List UInt8)] : List (List UInt8))) g2 g3
  rw [if_neg (by decide), if_neg (by decide), if_pos (by rfl), g1]
  simp only [Option.bind_some]
  rw [hx]
  exact ⟨_, d2, rfl, .inl (List.mem_append_right _ (List.mem_append_right _ (List.mem_map.2 ⟨x, hm, rfl⟩))), g4⟩
 ·obtain ⟨rs, d2, g1, g2, g3, g4⟩ := name_law hn h4
  rw [if_neg (by decide), if_neg (by decide), if_neg (by decide), g1]
  exact ⟨_, d2, rfl, .inr ⟨rs, rfl, g2, g3⟩, g4⟩
end Go.Abs
end
