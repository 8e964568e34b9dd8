/- The typed Lean form of WireFounds gives true for every list of at most 9223372036854775807 numbers and every value found. -/
import Derived.Test.YtbggpcnbbhjiaaaGreatDoorLaw5
set_option linter.unusedVariables false
set_option linter.unusedSimpArgs false
set_option linter.unnecessarySimpa false
section
set_option maxRecDepth 100000
namespace Go.Abs
open Go Go.Proofs
theorem pols_many {a : List Bs} (h : (wraps (a.map polE)).length ≤ 131072) (hs : a.all (fun s => (tArcs s).isSome) = true) : a.length ≤ 131072 := by
 have hp : ∀ p ∈ a.map polE, POk p := by
  intro p hp; obtain ⟨s, h1, rfl⟩ := List.mem_map.1 hp; exact POk_pol (List.all_eq_true.1 hs s h1)
 have hb := tList_bd (wraps (a.map polE)) (M := 131072) h
 rw [tList_wraps hp] at hb
 have hlen := hb.1
 rw [List.length_map, List.length_map] at hlen
 exact hlen
theorem dec_eq {n : Nat} {b : Bs} (hb : b.length ≤ 1000000) (hn : 200000000 ≤ n) : ∃ r, go_wire_DecodeFound n b = some r ∧ go_certpathref35_DecodeFound n b = some r ∧ r.1.f_Path.length ≤ 131072 ∧ r.1.f_Result.f_Policies.length ≤ 131072 := by
 obtain ⟨x, h1, h2, h3⟩ := check_eq (n := n) (b := b) (by omega) (by omega)
 obtain ⟨p1, p2⟩ := decP hb hn h1
 obtain ⟨r1, r2⟩ := decR hb hn h2
 by_cases hx : x = 0
 ·obtain ⟨p, e1, e2, e3⟩ := p2 hx (h3 hx)
  obtain ⟨r, q1, q2, q3⟩ := r2 hx (h3 hx)
  rcases e3 with e3 | ⟨e3, e4⟩
  ·rcases q3 with q3 | ⟨q3, q4⟩
   ·refine ⟨p, e1, by rw [q1, q3, e3], ?_, ?_⟩ <;> rw [e3] <;> exact Nat.zero_le _
   ·have := e2 _ q3; rw [e3] at this; cases (Prod.mk.inj this).2
  ·have := q2 _ e3
   have hp : p = (p.1, 0) := Prod.ext rfl e4
   obtain ⟨g1, g2, g3, g4, g5, g6⟩ := encF_inv e3
   exact ⟨p, e1, by rw [q1, this, ← hp], by omega, pols_many g4 g3⟩
 ·exact ⟨_, p1 hx, r1 hx, Nat.zero_le _, Nat.zero_le _⟩
theorem same_l1 {n : Nat} (a : List Bs) (ha : a.length ≤ 1000000) : ∀ (k i : Nat), i ≤ a.length → a.length - i < k → go_certpathref30_Same_l1 n a a k (i : Int) = some (.nxt ())
 | 0, _, _, h => by omega
 | k + 1, i, hi, hk => by
  rw [go_certpathref30_Same_l1]
  by_cases hc : i < a.length
  ·rw [if_pos (by rw [decide_eq_true_eq]; omega), lidx_nat hc]
   simp only [Option.bind_some]
   rw [if_neg (by simp), w1 (by omega)]
   exact same_l1 a ha k (i + 1) (by omega) (by omega)
  ·rw [if_neg (by rw [decide_eq_true_eq]; omega)]
theorem sameF_l1 {n : Nat} (f : T_api_Found) (ha : f.f_Path.length ≤ 1000000) : ∀ (k i : Nat), i ≤ f.f_Path.length → f.f_Path.length - i < k → go_certpathref30_SameFound_l1 n f f k (i : Int) = some (.nxt ())
 | 0, _, _, h => by omega
 | k + 1, i, hi, hk => by
  rw [go_certpathref30_SameFound_l1]
  by_cases hc : i < f.f_Path.length
  ·rw [if_pos (by rw [decide_eq_true_eq]; omega), lidx_nat hc]
   simp only [Option.bind_some]
   rw [if_neg (by simp), w1 (by omega)]
   exact sameF_l1 f ha k (i + 1) (by omega) (by omega)
  ·rw [if_neg (by rw [decide_eq_true_eq]; omega)]
theorem same_self {n : Nat} {f : T_api_Found} (h1 : f.f_Path.length ≤ 131072) (h2 : f.f_Result.f_Policies.length ≤ 131072) (hn : 1000000 ≤ n) : go_certpathref30_SameFound n f f = some true := by
 have e1 := same_l1 (n := n) f.f_Result.f_Policies (by omega) n 0 (by omega) (by omega)
 have e2 := sameF_l1 (n := n) f (by omega) n 0 (by omega) (by omega)
 rw [show ((0 : Nat) : Int) = 0 from rfl] at e1 e2
 have hS : go_certpathref30_Same n f.f_Result.f_Policies f.f_Result.f_Policies = some true := by
  unfold go_certpathref30_Same
  rw [if_neg (by simp), e1]; rfl
 have hR : go_certpathref30_SameResult n ⟨f.f_Result.f_Check, f.f_Result.f_Position, f.f_Result.f_Policies⟩ ⟨f.f_Result.f_Check, f.f_Result.f_Position, f.f_Result.f_Policies⟩ = some true := by
  unfold go_certpathref30_SameResult
  simp only []
  rw [if_pos (by simp), if_pos (by simp), hS]; rfl
 unfold go_certpathref30_SameFound
 rw [if_neg (by simp), if_neg (by simp), hR]
 simp only [Option.bind_some]
 rw [if_neg (by simp), e2]; rfl
def DeckOk (d : T_certpathmade_Deck) : Prop := 0 ≤ d.f_At ∧ d.f_At ≤ (d.f_L.length : Int) ∧ d.f_L.length ≤ 9223372036854775807
theorem lidx_some {α : Type} {l : List α} {i : Int} (h0 : 0 ≤ i) (h1 : i < (l.length : Int)) : ∃ x, lidx l i = some x ∧ x ∈ l := by
 have h : i.toNat < l.length := by omega
 exact ⟨l[i.toNat], by simp [lidx, h0, h], by simp⟩
theorem next_law {n : Nat} {k : Int} {d : T_certpathmade_Deck} (hk : 0 < k) (hk2 : k ≤ 4611686018427387904) (hd : DeckOk d) :
  ∃ r d', go_certpathmade_Deck_Next n k d = some (r, d') ∧ 0 ≤ r ∧ r < k ∧ DeckOk d' := by
 obtain ⟨h0, h1, h2⟩ := hd
 unfold go_certpathmade_Deck_Next
 by_cases hc : d.f_At ≥ (d.f_L.length : Int)
 ·exact ⟨0, d, by simp [hc], by omega, by omega, h0, h1, h2⟩
 ·have ha : IntKind.wrap .i64 (d.f_At + 1) = d.f_At + 1 := wr64 (by omega)
  have hb : IntKind.wrap .i64 (IntKind.wrap .i64 (d.f_At + 1) - 1) = d.f_At := by rw [ha, wr64 (by omega)]; omega
  obtain ⟨x, hx, _⟩ := lidx_some h0 (Int.not_le.1 hc)
  have hm1 : -k < x.tmod k := by
   have := Int.lt_tmod_of_pos x hk; omega
  have hm2 : x.tmod k < k := Int.tmod_lt_of_pos x hk
  have hw : IntKind.wrap .i64 (x.tmod k + k) = x.tmod k + k := wr64 (by omega)
  refine ⟨(x.tmod k + k).tmod k, ⟨d.f_L, d.f_At + 1⟩, ?_, ?_, ?_, ?_⟩
  ·rw [hb, hx, ha]
   have hk' : k ≠ 0 := by omega
   simp [hc, irem, hk', hw]
  ·exact Int.tmod_nonneg k (by omega)
  ·exact Int.tmod_lt_of_pos _ hk
  ·exact ⟨by simp; omega, by simp; omega, h2⟩
theorem next_ex {n : Nat} {k : Int} {d : T_certpathmade_Deck} (hk : 0 < k) (hk2 : k ≤ 4611686018427387904) (hd : DeckOk d) : ∃ r d', go_certpathmade_Deck_Next n k d = some (r, d') ∧ 0 ≤ r ∧ r < k ∧ DeckOk d' := next_law hk hk2 hd
theorem policy_ex {n : Nat} {x : Int} (h : 0 ≤ x ∧ x ≤ 8) : ∃ s, go_certpathmade_Policy n x = some s ∧ s.length ≤ 100 := by
 have : x = 0 ∨ x = 1 ∨ x = 2 ∨ x = 3 ∨ x = 4 ∨ x = 5 ∨ x = 6 ∨ x = 7 ∨ x = 8 := by omega
 rcases this with h | h | h | h | h | h | h | h | h <;> subst h <;> exact ⟨_, rfl, by decide⟩
theorem pol_l1 {n : Nat} : ∀ (j k : Nat) (acc : List Bs) (L : List Int) (At : Int), j < k → acc.length + j ≤ 100 → (∀ s ∈ acc, s.length ≤ 100) → DeckOk ⟨L, At⟩ →
  ∃ ps L' At', go_certpathmade2_Policies_l1 n k acc (j : Int) L At = some (ps, L', At') ∧ ps.length ≤ acc.length + j ∧ (∀ s ∈ ps, s.length ≤ 100) ∧ DeckOk ⟨L', At'⟩
 | _, 0, _, _, _, h, _, _, _ => by omega
 | 0, k + 1, acc, L, At, _, _, h, hd => ⟨acc, L, At, rfl, by omega, h, hd⟩
 | j + 1, k + 1, acc, L, At, hk, ha, h, hd => by
  obtain ⟨r, d', h1, h2, h3, h4⟩ := next_ex (n := n) (k := 5) (by decide) (by decide) hd
  have hx : ∃ x, lidx ([0, 1, 2, 3, 8] : List Int) r = some x ∧ 0 ≤ x ∧ x ≤ 8 := by
   have : r = 0 ∨ r = 1 ∨ r = 2 ∨ r = 3 ∨ r = 4 := by omega
   rcases this with h | h | h | h | h <;> subst h <;> exact ⟨_, rfl, by decide⟩
  obtain ⟨x, hx, hx1⟩ := hx
  obtain ⟨s, hs, hsl⟩ := policy_ex (n := n) hx1
  rw [go_certpathmade2_Policies_l1, if_pos (by rw [decide_eq_true_eq]; omega), h1, Option.bind_some, hx, Option.bind_some, hs, Option.bind_some, lapp_some (by rw [List.length_singleton]; omega), Option.bind_some, wr64 (by omega), show ((j + 1 : Nat) : Int) - 1 = (j : Int) by omega]
  obtain ⟨ps, L', At', e1, e2, e3, e4⟩ := pol_l1 j k (acc ++ [s]) d'.f_L d'.f_At (by omega) (by rw [List.length_append, List.length_singleton]; omega) (by
   intro y hy; rcases List.mem_append.1 hy with hy | hy
   ·exact h y hy
   ·simp at hy; subst hy; exact hsl) h4
  exact ⟨ps, L', At', e1, by rw [List.length_append, List.length_singleton] at e2; omega, e3, e4⟩
theorem pols_ex {n : Nat} {d : T_certpathmade_Deck} (hn : 10 ≤ n) (hd : DeckOk d) : ∃ ps d', go_certpathmade2_Policies n 4 d = some (ps, d') ∧ ps.length ≤ 5 ∧ (∀ s ∈ ps, s.length ≤ 100) ∧ DeckOk d' := by
 unfold go_certpathmade2_Policies
 obtain ⟨r, d', h1, h2, h3, h4⟩ := next_ex (n := n) (k := 5) (by decide) (by decide) hd
 rw [show IntKind.wrap .i64 ((4 : Int) + 1) = 5 from rfl, h1, Option.bind_some]
 obtain ⟨ps, L', At', e1, e2, e3, e4⟩ := pol_l1 (n := n) r.toNat n [] d'.f_L d'.f_At (by omega) (by simp; omega) (by simp) h4
 rw [show ((r.toNat : Nat) : Int) = r by omega] at e1
 simp only []
 rw [e1]
 exact ⟨ps, _, rfl, by simp at e2; omega, e3, e4⟩
theorem found_l1 {n : Nat} : ∀ (j k : Nat) (acc : List Int) (L : List Int) (At : Int), j < k → acc.length + j ≤ 100 → DeckOk ⟨L, At⟩ →
  ∃ L' At' p, go_certpathlaw37_found_l1 n k (j : Int) L At acc = some (L', At', p) ∧ p.length ≤ acc.length + j ∧ DeckOk ⟨L', At'⟩
 | _, 0, _, _, _, h, _, _ => by omega
 | 0, k + 1, acc, L, At, _, _, hd => ⟨L, At, acc, rfl, by omega, hd⟩
 | j + 1, k + 1, acc, L, At, hk, ha, hd => by
  obtain ⟨r, d', h1, h2, h3, h4⟩ := next_ex (n := n) (k := 64) (by decide) (by decide) hd
  rw [go_certpathlaw37_found_l1, if_pos (by rw [decide_eq_true_eq]; omega), h1, Option.bind_some, lapp_some (by rw [List.length_singleton]; omega), Option.bind_some, wr64 (by omega), show ((j + 1 : Nat) : Int) - 1 = (j : Int) by omega]
  obtain ⟨L', At', p, e1, e2, e3⟩ := found_l1 j k (acc ++ [r]) d'.f_L d'.f_At (by omega) (by rw [List.length_append, List.length_singleton]; omega) h4
  exact ⟨L', At', p, e1, by rw [List.length_append, List.length_singleton] at e2; omega, e3⟩
theorem found_ex {n : Nat} {d : T_certpathmade_Deck} (hn : 20 ≤ n) (hd : DeckOk d) : ∃ f d', go_certpathlaw37_found n d = some (f, d') ∧ f.f_Path.length ≤ 10 ∧ f.f_Result.f_Policies.length ≤ 6 ∧ (∀ s ∈ f.f_Result.f_Policies, s.length ≤ 100) ∧ DeckOk d' := by
 obtain ⟨r1, d1, h1, _, _, k1⟩ := next_ex (n := n) (k := 64) (by decide) (by decide) hd
 obtain ⟨r2, d2, h2, _, _, k2⟩ := next_ex (n := n) (k := 16) (by decide) (by decide) k1
 obtain ⟨r3, d3, h3, _, _, k3⟩ := next_ex (n := n) (k := 9) (by decide) (by decide) k2
 obtain ⟨ps, d4, h4, p1, p2, k4⟩ := pols_ex (n := n) (by omega) k3
 obtain ⟨r5, d5, h5, a5, b5, k5⟩ := next_ex (n := n) (k := 9) (by decide) (by decide) k4
 obtain ⟨L6, At6, p, h6, q1, k6⟩ := found_l1 (n := n) r5.toNat n [] d5.f_L d5.f_At (by omega) (by simp; omega) k5
 rw [show ((r5.toNat : Nat) : Int) = r5 by omega] at h6
 have q1 : p.length ≤ 8 := by simp at q1; omega
 obtain ⟨r7, d7, h7, a7, b7, k7⟩ := next_ex (n := n) (k := 16) (by decide) (by decide) k6
 unfold go_certpathlaw37_found
 rw [h1, Option.bind_some, h2, Option.bind_some, h3, Option.bind_some, h4, Option.bind_some, h5, Option.bind_some]
 simp only []
 rw [h6, Option.bind_some]
 simp only []
 rw [h7, Option.bind_some]
 by_cases c1 : (r7 == 1) = true
 ·obtain ⟨r8, d8, h8, a8, b8, k8⟩ := next_ex (n := n) (k := 2) (by decide) (by decide) k7
  have hx : ∃ x, lidx ([(-1), 64] : List Int) r8 = some x := lidx_ex a8 (by simpa using b8)
  obtain ⟨x, hx⟩ := hx
  rw [if_pos c1]; simp only []; rw [h8, Option.bind_some]; simp only []; rw [hx]
  exact ⟨_, _, rfl, by show p.length ≤ 10; omega, by show ps.length ≤ 6; omega, p2, k8⟩
 ·rw [if_neg c1]
  by_cases c2 : (r7 == 2) = true
  ·obtain ⟨r8, d8, h8, a8, b8, k8⟩ := next_ex (n := n) (k := 3) (by decide) (by decide) k7
   obtain ⟨x, hx⟩ : ∃ x, lidx ([(-1), 64, 0] : List Int) r8 = some x := lidx_ex a8 (by simpa using b8)
   rw [if_pos c2]; simp only []; rw [h8, Option.bind_some]; simp only []; rw [hx, Option.bind_some, lapp_some (by rw [List.length_singleton]; omega)]
   exact ⟨_, _, rfl, by show (p ++ [x]).length ≤ 10; rw [List.length_append, List.length_singleton]; omega, by show ps.length ≤ 6; omega, p2, k8⟩
  ·rw [if_neg c2]
   by_cases c3 : (r7 == 3) = true
   ·obtain ⟨r8, d8, h8, a8, b8, k8⟩ := next_ex (n := n) (k := 2) (by decide) (by decide) k7
    obtain ⟨x, hx⟩ : ∃ x, lidx ([(-1), 16] : List Int) r8 = some x := lidx_ex a8 (by simpa using b8)
    rw [if_pos c3]; simp only []; rw [h8, Option.bind_some]; simp only []; rw [hx]
    exact ⟨_, _, rfl, by show p.length ≤ 10; omega, by show ps.length ≤ 6; omega, p2, k8⟩
   ·rw [if_neg c3]
    by_cases c4 : (r7 == 4) = true
    ·obtain ⟨r8, d8, h8, a8, b8, k8⟩ := next_ex (n := n) (k := 2) (by decide) (by decide) k7
     obtain ⟨x, hx⟩ : ∃ x, lidx ([(-1), 9] : List Int) r8 = some x := lidx_ex a8 (by simpa using b8)
     rw [if_pos c4]; simp only []; rw [h8, Option.bind_some]; simp only []; rw [hx]
     exact ⟨_, _, rfl, by show p.length ≤ 10; omega, by show ps.length ≤ 6; omega, p2, k8⟩
    ·rw [if_neg c4]
     by_cases c5 : (r7 == 5) = true
     ·rw [if_pos c5]; simp only []; rw [lapp_some (by rw [List.length_singleton]; omega)]
      refine ⟨_, _, rfl, by show p.length ≤ 10; omega, by show (ps ++ [_]).length ≤ 6; rw [List.length_append, List.length_singleton]; omega, ?_, k7⟩
      intro s hs
      rcases List.mem_append.1 (show s ∈ ps ++ _ from hs) with hs | hs
      ·exact p2 s hs
      ·simp at hs; subst hs; simp
     ·rw [if_neg c5]
      exact ⟨_, _, rfl, by show p.length ≤ 10; omega, by show ps.length ≤ 6; omega, p2, k7⟩
theorem ssl_len {s : Bs} {i j : Int} (h0 : 0 ≤ i) (h1 : i ≤ j) (h2 : j ≤ s.length) : ∃ x, ssl s i j = some x ∧ (x.length : Int) = j - i := by
 have := ssl_nat (s := s) (i := i.toNat) (j := j.toNat) (by omega) (by omega)
 rw [show ((i.toNat : Nat) : Int) = i by omega, show ((j.toNat : Nat) : Int) = j by omega] at this
 refine ⟨_, this, ?_⟩
 rw [List.length_drop, List.length_take]; omega
theorem damage_ex {n : Nat} {a : Bs} {d : T_certpathmade_Deck} (ha : a.length ≤ 1000000000) (hd : DeckOk d) : ∃ s d', go_certpathmade_Damage n a d = some (s, d') ∧ s.length ≤ a.length + 1 ∧ DeckOk d' := by
 unfold go_certpathmade_Damage
 by_cases h0 : (a == ([] : Bs)) = true
 ·rw [if_pos h0]; exact ⟨a, d, rfl, by omega, hd⟩
 ·rw [if_neg h0]
  have hne : 0 < a.length := List.length_pos_iff.2 (by simpa using h0)
  obtain ⟨r1, d1, h1, a1, b1, k1⟩ := next_ex (n := n) (k := (a.length : Int)) (by omega) (by omega) hd
  obtain ⟨r2, d2, h2, a2, b2, k2⟩ := next_ex (n := n) (k := 256) (by decide) (by decide) k1
  obtain ⟨r3, d3, h3, a3, b3, k3⟩ := next_ex (n := n) (k := 5) (by decide) (by decide) k2
  obtain ⟨p, hp, pl⟩ := ssl_len (s := a) (i := 0) (j := r1) (by omega) a1 (by omega)
  obtain ⟨q, hq, ql⟩ := ssl_len (s := a) (i := r1 + 1) (j := a.length) (by omega) (by omega) (by omega)
  obtain ⟨u, hu, ul⟩ := ssl_len (s := a) (i := r1) (j := a.length) (by omega) (by omega) (by omega)
  have hw : IntKind.wrap .i64 (r1 + 1) = r1 + 1 := wr64 (by omega)
  have hb : (b2s ([IntKind.wrap .u8 r2] : List Int)).length = 1 := rfl
  rw [h1, Option.bind_some]; simp only []; rw [h2, Option.bind_some]; simp only []; rw [h3, Option.bind_some]; simp only []
  rw [hw, hp, hq, hu]
  by_cases c0 : (r3 == 0) = true
  ·rw [if_pos c0, Option.bind_some, sadd_some (by omega), Option.bind_some, Option.bind_some, sadd_some (by rw [List.length_append]; omega)]
   exact ⟨_, _, rfl, by rw [List.length_append, List.length_append]; omega, k3⟩
  ·rw [if_neg c0]
   by_cases c1 : (r3 == 1) = true
   ·rw [if_pos c1, Option.bind_some, sadd_some (by omega), Option.bind_some, Option.bind_some, sadd_some (by rw [List.length_append]; omega)]
    exact ⟨_, _, rfl, by rw [List.length_append, List.length_append]; omega, k3⟩
   ·rw [if_neg c1]
    by_cases c2 : (r3 == 2) = true
    ·rw [if_pos c2, Option.bind_some, Option.bind_some, sadd_some (by omega)]
     exact ⟨_, _, rfl, by rw [List.length_append]; omega, k3⟩
    ·rw [if_neg c2]
     by_cases c3 : (r3 == 3) = true
     ·rw [if_pos c3]; exact ⟨_, _, rfl, by omega, k3⟩
     ·rw [if_neg c3]; exact ⟨_, _, rfl, by omega, k3⟩
theorem wrapTag {n : Nat} {t : Int} {c : Bs} (h : ∃ v : Nat, t = (v : Int) ∧ v ≤ 255 ∧ v % 32 ≠ 31) (hc : c.length ≤ 1000000000000) (hn : 20 ≤ n) : ∃ s, go_certpathref07_Wrap n t [c] = some s ∧ s.length ≤ c.length + 5 := by
 obtain ⟨v, rfl, h1, h2⟩ := h
 exact ⟨_, wrap7 h1 h2 hc hn, tWrap_len v c⟩
theorem tag224 : ∀ t : Fin 256, ∃ v : Nat, iand .i64 (t.val : Int) 224 = (v : Int) ∧ v ≤ 255 ∧ v % 32 ≠ 31 := by
 intro t
 have h : (List.range 256).all (fun t => decide (0 ≤ iand .i64 (t : Int) 224) && decide (iand .i64 (t : Int) 224 ≤ 255) && decide ((iand .i64 (t : Int) 224).toNat % 32 ≠ 31)) = true := by decide +kernel
 have := List.all_eq_true.1 h t.val (by simp)
 simp only [Bool.and_eq_true, decide_eq_true_eq] at this
 exact ⟨(iand .i64 (t.val : Int) 224).toNat, by omega, by omega, this.2⟩
theorem tagN31 : ∀ t : Fin 256, ∃ v : Nat, iandn .i64 (t.val : Int) 31 = (v : Int) ∧ v ≤ 255 ∧ v % 32 ≠ 31 := by
 intro t
 have h : (List.range 256).all (fun t => decide (0 ≤ iandn .i64 (t : Int) 31) && decide (iandn .i64 (t : Int) 31 ≤ 255) && decide ((iandn .i64 (t : Int) 31).toNat % 32 ≠ 31)) = true := by decide +kernel
 have := List.all_eq_true.1 h t.val (by simp)
 simp only [Bool.and_eq_true, decide_eq_true_eq] at this
 exact ⟨(iandn .i64 (t.val : Int) 31).toNat, by omega, by omega, this.2⟩
theorem replaced_ex {n : Nat} {a : Bs} {d : T_certpathmade_Deck} (ha : a.length ≤ 1000000000) (hn : 20 ≤ n) (hd : DeckOk d) : ∃ s d', go_certpathmade_replaced n a d = some (s, d') ∧ s.length ≤ a.length + 5 ∧ DeckOk d' := by
 unfold go_certpathmade_replaced
 by_cases h2 : a.length < 2
 ·rw [if_pos (by rw [decide_eq_true_eq]; omega)]; exact ⟨a, d, rfl, by omega, hd⟩
 ·rw [if_neg (by rw [decide_eq_true_eq]; omega)]
  obtain ⟨q, hq, ql⟩ := ssl_len (s := a) (i := 2) (j := a.length) (by omega) (by omega) (by omega)
  obtain ⟨r2, d2, h2', a2, b2, k2⟩ := next_ex (n := n) (k := 6) (by decide) (by decide) hd
  have hb0 : bidx a 0 = some ((a[0]'(by omega)).toNat : Int) := bidx_nat (i := 0) (by omega)
  have hlt := b_lt (a[0]'(by omega))
  have hw : IntKind.wrap .i64 ((a[0]'(by omega)).toNat : Int) = ((a[0]'(by omega)).toNat : Int) := wr64 (by omega)
  rw [hq, Option.bind_some, h2', Option.bind_some]; simp only []
  by_cases c0 : (r2 == 0) = true
  ·obtain ⟨r3, d3, h3, a3, b3, k3⟩ := next_ex (n := n) (k := 31) (by decide) (by decide) k2
   obtain ⟨s, hs, sl⟩ := wrapTag (n := n) (t := r3) (c := q) ⟨r3.toNat, by omega, by omega, by omega⟩ (by omega) hn
   rw [if_pos c0, h3, Option.bind_some]; simp only []; rw [hs]
   exact ⟨_, _, rfl, by omega, k3⟩
  ·rw [if_neg c0]
   by_cases c1 : (r2 == 1) = true
   ·obtain ⟨s, hs, sl⟩ := wrapTag (n := n) (t := iandn .i64 ((a[0]'(by omega)).toNat : Int) 31) (c := q) (tagN31 ⟨_, hlt⟩) (by omega) hn
    rw [if_pos c1, hb0, Option.bind_some, hw, hs]
    exact ⟨_, _, rfl, by omega, k2⟩
   ·rw [if_neg c1]
    by_cases c2 : (r2 == 2) = true
    ·obtain ⟨s, hs, sl⟩ := wrapTag (n := n) (t := iand .i64 ((a[0]'(by omega)).toNat : Int) 224) (c := []) (tag224 ⟨_, hlt⟩) (by simp) hn
     rw [if_pos c2, hb0, Option.bind_some, hw, hs]
     exact ⟨_, _, rfl, by simp at sl; omega, k2⟩
    ·rw [if_neg c2]
     by_cases c3 : (r2 == 3) = true
     ·obtain ⟨r3, d3, h3, a3, b3, k3⟩ := next_ex (n := n) (k := 256) (by decide) (by decide) k2
      rw [if_pos c3, h3, Option.bind_some]; simp only []; rw [sadd_some (by simp [b2s])]
      exact ⟨_, _, rfl, by show 3 ≤ a.length + 5; omega, k3⟩
     ·rw [if_neg c3]
      by_cases c4 : (r2 == 4) = true
      ·rw [if_pos c4]; exact ⟨_, _, rfl, by simp, k2⟩
      ·rw [if_neg c4]
       obtain ⟨s, d', hs, sl, k⟩ := damage_ex (n := n) (a := a) ha k2
       rw [hs]; exact ⟨_, _, rfl, by show s.length ≤ _; omega, k⟩
theorem raws_drop {l : List T_api_Element} {i : Nat} (hi : i < l.length) : raws (l.drop i) = l[i].f_Raw.length + raws (l.drop (i + 1)) := by
 rw [List.drop_eq_getElem_cons hi]; unfold raws; rw [List.map_cons, List.sum_cons]
theorem rew_l1 {n : Nat} (hn : 1000000 ≤ n) {rc : Bs → T_certpathmade_Deck → Option (Bs × T_certpathmade_Deck)} {S : Nat} (el : List T_api_Element × Int) (r9 r10 : Int × T_certpathmade_Deck) (hS : S ≤ 300000000) (he : raws el.1 ≤ S)
  (hrc : ∀ (i : Nat) (h : i < el.1.length) d, DeckOk d → ∃ s d', rc el.1[i].f_Raw d = some (s, d') ∧ s.length ≤ 3 * el.1[i].f_Raw.length + 8 ∧ DeckOk d') (hl : el.1.length ≤ 100000000) :
  ∀ (k i : Nat) (b : Bs) (L : List Int) (At : Int), i ≤ el.1.length → el.1.length - i < k → b.length + 3 * raws (el.1.drop i) + 8 * (el.1.length - i) ≤ 2000000000 → DeckOk ⟨L, At⟩ →
  ∃ s L' At', go_certpathmade_Rewrap_l1 n rc el r9 r10 k b (i : Int) L At = some (s, L', At') ∧ s.length ≤ b.length + raws (el.1.drop i) + (if (i : Int) ≤ r9.1 then 2 * S + 8 else 0) ∧ DeckOk ⟨L', At'⟩
 | 0, _, _, _, _, _, h, _, _ => by omega
 | k + 1, i, b, L, At, hi, hk, hb, hd => by
  rw [go_certpathmade_Rewrap_l1]
  by_cases hc : i < el.1.length
  ·have hr := raws_drop hc
   have hmem := raws_mem el.1[i] (List.getElem_mem hc)
   rw [if_pos (by rw [decide_eq_true_eq]; omega), lidx_nat hc, Option.bind_some]
   by_cases c0 : ((i : Int) != r9.1) = true
   ·rw [if_pos c0, sadd_some (by omega), Option.bind_some, Option.bind_some, w1 (by omega)]
    obtain ⟨s, L', At', h1, h2, h3⟩ := rew_l1 hn el r9 r10 hS he hrc hl k (i + 1) (b ++ el.1[i].f_Raw) L At (by omega) (by omega) (by rw [List.length_append]; omega) hd
    refine ⟨s, L', At', h1, ?_, h3⟩
    rw [List.length_append] at h2
    have hne : (i : Int) ≠ r9.1 := by simpa using c0
    by_cases c : (i : Int) ≤ r9.1
    ·rw [if_pos c]; rw [if_pos (by omega)] at h2; omega
    ·rw [if_neg c]; rw [if_neg (by omega)] at h2; omega
   ·have hie : (i : Int) = r9.1 := by simpa using c0
    rw [if_neg c0]
    have key : ∃ s L' At', (if (r10.1 == 0) = true then ((sadd el.1[i].f_Raw el.1[i].f_Raw).bind fun x342 =>
      (sadd b x342).bind fun x343 => some (x343, L, At)) else (if (r10.1 == 1) = true then (some (b, L, At)) else (if (r10.1 == 2) = true then ((go_certpathmade_replaced n el.1[i].f_Raw (T_certpathmade_Deck.mk L At)).bind fun r344 =>
      (sadd b r344.1).bind fun x345 => some (x345, r344.2.f_L, r344.2.f_At)) else ((rc el.1[i].f_Raw (T_certpathmade_Deck.mk L At)).bind fun r346 =>
      (sadd b r346.1).bind fun x347 => some (x347, r346.2.f_L, r346.2.f_At))))) = some (s, L', At') ∧ s.length ≤ b.length + 3 * el.1[i].f_Raw.length + 8 ∧ DeckOk ⟨L', At'⟩ := by
     by_cases c1 : (r10.1 == 0) = true
     ·rw [if_pos c1, sadd_some (by omega), Option.bind_some, sadd_some (by rw [List.length_append]; omega)]
      exact ⟨_, _, _, rfl, by rw [List.length_append, List.length_append]; omega, hd⟩
     ·rw [if_neg c1]
      by_cases c2 : (r10.1 == 1) = true
      ·rw [if_pos c2]; exact ⟨_, _, _, rfl, by omega, hd⟩
      ·rw [if_neg c2]
       by_cases c3 : (r10.1 == 2) = true
       ·obtain ⟨s, d', h1, h2, h3⟩ := replaced_ex (n := n) (a := el.1[i].f_Raw) (by omega) (by omega) hd
        rw [if_pos c3, h1, Option.bind_some, sadd_some (by show b.length + s.length ≤ _; omega)]
        exact ⟨_, _, _, rfl, by show (b ++ s).length ≤ _; rw [List.length_append]; omega, h3⟩
       ·obtain ⟨s, d', h1, h2, h3⟩ := hrc i hc _ hd
        rw [if_neg c3, h1, Option.bind_some, sadd_some (by show b.length + s.length ≤ _; omega)]
        exact ⟨_, _, _, rfl, by show (b ++ s).length ≤ _; rw [List.length_append]; omega, h3⟩
    obtain ⟨s, L', At', e1, e2, e3⟩ := key
    rw [e1, Option.bind_some, w1 (by omega)]
    simp only []
    obtain ⟨s2, L2, At2, h1, h2, h3⟩ := rew_l1 hn el r9 r10 hS he hrc hl k (i + 1) s L' At' (by omega) (by omega) (by omega) e3
    refine ⟨s2, L2, At2, h1, ?_, h3⟩
    rw [if_neg (by omega)] at h2
    rw [if_pos (by omega)]; omega
  ·rw [if_neg (by rw [decide_eq_true_eq]; omega)]
   exact ⟨_, _, _, rfl, by omega, hd⟩
theorem rewrap_ex {n : Nat} (hn : 200000000 ≤ n) : ∀ (kk : Nat) (a : Bs) (d : T_certpathmade_Deck), a.length < kk → a.length ≤ 100000000 → DeckOk d → ∃ s d', go_certpathmade_Rewrap n kk a d = some (s, d') ∧ s.length ≤ 3 * a.length + 8 ∧ DeckOk d'
 | 0, _, _, h, _, _ => by omega
 | kk + 1, a, d, hk, ha, hd => by
  have hrep : ∀ d, DeckOk d → ∃ s d', (go_certpathmade_replaced n a d).bind (fun r4 => some (r4.1, r4.2)) = some (s, d') ∧ s.length ≤ 3 * a.length + 8 ∧ DeckOk d' := by
   intro d hd
   obtain ⟨s, d', h1, h2, h3⟩ := replaced_ex (n := n) (a := a) (by omega) (by omega) hd
   rw [h1]; exact ⟨s, d', rfl, by omega, h3⟩
  rw [go_certpathmade_Rewrap, ref_One (by omega) (by omega), Option.bind_some, ifb, Option.bind_some]
  by_cases c0 : (((tOne a).2 != 0) || ((Int.tmod (IntKind.wrap .i64 (Int.tdiv (tOne a).1.f_Tag 32)) 2) == 0)) = true
  ·rw [if_pos c0]; exact hrep d hd
  ·rw [if_neg c0]
   have h0 : (tOne a).2 = 0 := by
    rw [Bool.not_eq_true, Bool.or_eq_false_iff] at c0; simpa using c0.1
   have hr : (tRead a).2.2 = 0 := by
    unfold tOne at h0
    by_cases h' : (tRead a).2.2 = 0
    ·exact h'
    ·rw [if_pos h'] at h0; exact absurd h0 h'
   have h1 : (tOne a).1 = (tRead a).1 := by
    unfold tOne at h0 ⊢
    rw [if_neg (by simp [hr])] at h0 ⊢
    by_cases h' : (tRead a).2.1 = []
    ·rw [if_neg (by simp [h'])]
    ·rw [if_pos h'] at h0; cases h0
   obtain ⟨k1, k2, k3, _⟩ := tRead_ok hr
   obtain ⟨t, ht1, ht2⟩ := tRead_tag hr
   have hlen := congrArg List.length k1
   rw [List.length_append] at hlen
   rw [← h1] at k2 k3 ht1 hlen
   have hS : (tOne a).1.f_Content.length + 2 ≤ a.length := by omega
   rw [ref_List (by omega) (by omega), Option.bind_some, ifb, Option.bind_some]
   by_cases c1 : (((tList (tOne a).1.f_Content).2 != 0) || (((tList (tOne a).1.f_Content).1.length : Int) == 0)) = true
   ·rw [if_pos c1]; exact hrep d hd
   ·rw [if_neg c1]
    have hne : 0 < (tList (tOne a).1.f_Content).1.length := by
     rw [Bool.not_eq_true, Bool.or_eq_false_iff] at c1
     have := c1.2
     rw [beq_eq_false_iff_ne] at this; omega
    obtain ⟨f1, f2⟩ := tList_facts (tOne a).1.f_Content
    have f3 := raws_two f2
    obtain ⟨r9, d9, h9, a9, b9, k9⟩ := next_ex (n := n) (k := ((tList (tOne a).1.f_Content).1.length : Int)) (by omega) (by omega) hd
    obtain ⟨r10, d10, h10, a10, b10, k10⟩ := next_ex (n := n) (k := 8) (by decide) (by decide) k9
    rw [h9, Option.bind_some]; simp only []
    rw [h10, Option.bind_some]; simp only []
    obtain ⟨s, L', At', e1, e2, e3⟩ := rew_l1 (n := n) (by omega) (rc := go_certpathmade_Rewrap n kk) (S := (tOne a).1.f_Content.length) (tList (tOne a).1.f_Content) (r9, d9) (r10, d10) (by omega) f1
     (fun i hi d hd => by
      have := raws_mem _ (List.getElem_mem hi)
      exact rewrap_ex hn kk _ d (by omega) (by omega) hd) (by omega) n 0 [] d10.f_L d10.f_At (by omega) (by omega) (by simp only [List.length_nil, List.drop_zero]; omega) k10
    rw [show ((0 : Nat) : Int) = 0 from rfl] at e1
    rw [e1, Option.bind_some]
    simp only []
    rw [List.drop_zero, List.length_nil, if_pos (by show ((0 : Nat) : Int) ≤ r9; omega)] at e2
    obtain ⟨w, hw, wl⟩ := wrapTag (n := n) (t := (tOne a).1.f_Tag) (c := s) ⟨t.toNat, ht1, by have := b_lt t; omega, ht2⟩ (by omega) (by omega)
    rw [hw]
    exact ⟨_, _, rfl, by omega, e3⟩
theorem few_l1 {n : Nat} (a : List Bs) (ha : a.length ≤ 12) : ∀ (k i : Nat), i ≤ a.length → a.length - i < k → go_certpathmade_Few_l1 n a 200 k (i : Int) = some (.ret false) ∨ (go_certpathmade_Few_l1 n a 200 k (i : Int) = some (.nxt ()) ∧ ∀ s ∈ a.drop i, s.length ≤ 200)
 | 0, _, _, h => by omega
 | k + 1, i, hi, hk => by
  rw [go_certpathmade_Few_l1]
  by_cases hc : i < a.length
  ·rw [if_pos (by rw [decide_eq_true_eq]; omega), lidx_nat hc, Option.bind_some]
   by_cases h : a[i].length ≤ 200
   ·rw [if_neg (by rw [decide_eq_true_eq]; omega), w1 (by omega)]
    rcases few_l1 a ha k (i + 1) (by omega) (by omega) with h' | ⟨h', h''⟩
    ·exact .inl h'
    ·refine .inr ⟨h', ?_⟩
     rw [List.drop_eq_getElem_cons hc]
     intro s hs
     rcases List.mem_cons.1 hs with rfl | hs
     ·exact h
     ·exact h'' s hs
   ·rw [if_pos (by rw [decide_eq_true_eq]; omega)]; exact .inl rfl
  ·rw [if_neg (by rw [decide_eq_true_eq]; omega), List.drop_eq_nil_of_le (by omega)]
   exact .inr ⟨rfl, by simp⟩
theorem few_ex {n : Nat} (a : List Bs) (hn : 100 ≤ n) : ∃ b, go_certpathmade_Few n a 12 200 = some b ∧ (b = true → a.length ≤ 12 ∧ ∀ s ∈ a, s.length ≤ 200) := by
 unfold go_certpathmade_Few
 by_cases h : a.length ≤ 12
 ·rw [if_neg (by rw [decide_eq_true_eq]; omega)]
  have := few_l1 (n := n) a h n 0 (by omega) (by omega)
  rw [show ((0 : Nat) : Int) = 0 from rfl, List.drop_zero] at this
  rcases this with h' | ⟨h', h''⟩
  ·rw [h']; exact ⟨false, rfl, fun h => by cases h⟩
  ·rw [h']; exact ⟨true, rfl, fun _ => ⟨h, h''⟩⟩
 ·rw [if_pos (by rw [decide_eq_true_eq]; omega)]; exact ⟨false, rfl, fun h => by cases h⟩
theorem encF_len (f : T_api_Found) : (encF f).1.length ≤ 131077 := by
 unfold encF
 repeat' split
 all_goals first | exact Nat.zero_le _ | skip
 rename_i h
 have := tWrap_len 48 (wraps (contF f))
 show (tWrap 48 (wraps (contF f))).1.length ≤ _
 omega
theorem founds_step {n : Nat} (hn : 200000000 ≤ n) (r8 : Bs × Int) (r13 r14 : Bs × T_certpathmade_Deck) (k i : Nat) (b : Bs) (hi : i < 3) (hl : lidx ([r8.1, r13.1, r14.1] : List Bs) (i : Int) = some b) (hb : b.length ≤ 1000000) :
  go_certpathlaw37_WireFounds_l1 n r8 r13 r14 (k + 1) (i : Int) = go_certpathlaw37_WireFounds_l1 n r8 r13 r14 k ((i + 1 : Nat) : Int) := by
 obtain ⟨r, e1, e2, e3, e4⟩ := dec_eq hb hn
 have hs := same_self (n := n) (f := r.1) e3 e4 (by omega)
 rw [go_certpathlaw37_WireFounds_l1, if_pos (by rw [decide_eq_true_eq]; show (i : Int) < 3; omega), hl]
 simp only [Option.bind_some]
 rw [e1, Option.bind_some, e2, Option.bind_some, if_neg (by simp)]
 rw [show go_certpathref30_SameFound n ⟨r.1.f_Anchor, r.1.f_Path, ⟨r.1.f_Result.f_Check, r.1.f_Result.f_Position, r.1.f_Result.f_Policies⟩⟩ ⟨r.1.f_Anchor, r.1.f_Path, ⟨r.1.f_Result.f_Check, r.1.f_Result.f_Position, r.1.f_Result.f_Policies⟩⟩ = some true from hs]
 simp only [Option.bind_some]
 rw [if_neg (by simp), w1 (by omega)]
def N1 : Nat := 200000000
theorem awake1 : go_certpathlaw37_awake N1 = some true := by kernel_rfl
theorem founds_law (l : List Int) (f : T_api_Found) (hl : l.length ≤ 9223372036854775807) : go_certpathlaw37_WireFounds N1 l f = some true := by
 have hn : 200000000 ≤ N1 := Nat.le_refl _
 have aw := awake1
 generalize N1 = n at hn aw ⊢
 unfold go_certpathlaw37_WireFounds
 obtain ⟨b, hb1, hb2⟩ := few_ex (n := n) f.f_Result.f_Policies (by omega)
 rw [hb1, Option.bind_some, ifb, Option.bind_some]
 by_cases c0 : (decide ((f.f_Path.length : Int) > 20) || !b) = true
 ·rw [if_pos c0, aw]; rfl
 ·rw [if_neg c0]
  rw [Bool.not_eq_true, Bool.or_eq_false_iff] at c0
  have hp : f.f_Path.length ≤ 20 := by have := c0.1; rw [decide_eq_false_iff_not] at this; omega
  have hbt : b = true := by have := c0.2; cases b; cases this; rfl
  obtain ⟨q1, q2⟩ := hb2 hbt
  have hd : DeckOk ⟨l, 0⟩ := ⟨by simp, by simp, hl⟩
  rw [show go_certpathmade_New n l = some ⟨l, 0⟩ from rfl, Option.bind_some]
  obtain ⟨g, d1, h1, g1, g2, g3, k1⟩ := found_ex (n := n) (by omega) hd
  have hfg : Fit n 200 g := ⟨by omega, by omega, by omega, fun s hs => by have := g3 s hs; omega, by omega⟩
  have hff : Fit n 200 f := ⟨by omega, by omega, by omega, q2, by omega⟩
  have e1 := encP hfg
  have e2 := encR hfg
  have e3 := encP hff
  have e4 := encR hff
  rw [h1, Option.bind_some]
  rw [show go_wire_EncodeFound n ⟨(g, d1).1.f_Anchor, (g, d1).1.f_Path, ⟨(g, d1).1.f_Result.f_Check, (g, d1).1.f_Result.f_Position, (g, d1).1.f_Result.f_Policies⟩⟩ = some (encF g) from e1, Option.bind_some,
   show go_certpathref35_EncodeFound n ⟨(g, d1).1.f_Anchor, (g, d1).1.f_Path, ⟨(g, d1).1.f_Result.f_Check, (g, d1).1.f_Result.f_Position, (g, d1).1.f_Result.f_Policies⟩⟩ = some (encF g) from e2, Option.bind_some,
   show go_wire_EncodeFound n ⟨f.f_Anchor, f.f_Path, ⟨f.f_Result.f_Check, f.f_Result.f_Position, f.f_Result.f_Policies⟩⟩ = some (encF f) from e3, Option.bind_some,
   show go_certpathref35_EncodeFound n ⟨f.f_Anchor, f.f_Path, ⟨f.f_Result.f_Check, f.f_Result.f_Position, f.f_Result.f_Policies⟩⟩ = some (encF f) from e4, Option.bind_some]
  rw [if_neg (by simp), if_neg (by simp), if_neg (by simp), Option.bind_some, if_neg (by simp)]
  have el := encF_len g
  obtain ⟨s13, d13, h13, l13, k13⟩ := damage_ex (n := n) (a := (encF g).1) (by omega) k1
  obtain ⟨s14, d14, h14, l14, k14⟩ := rewrap_ex (n := n) hn n (encF g).1 d13 (by omega) (by omega) k13
  simp only []
  rw [h13, Option.bind_some]; simp only []
  rw [h14, Option.bind_some]
  have hl1 : go_certpathlaw37_WireFounds_l1 n (encF g) (s13, d13) (s14, d14) n 0 = some (.nxt ()) := by
   obtain ⟨m, rfl⟩ : ∃ m, n = m + 4 := ⟨n - 4, by omega⟩
   have t0 := founds_step hn (encF g) (s13, d13) (s14, d14) (m + 3) 0 (encF g).1 (by omega) rfl (by omega)
   have t1 := founds_step hn (encF g) (s13, d13) (s14, d14) (m + 2) 1 s13 (by omega) rfl (by omega)
   have t2 := founds_step hn (encF g) (s13, d13) (s14, d14) (m + 1) 2 s14 (by omega) rfl (by omega)
   rw [show ((0 : Nat) : Int) = 0 from rfl] at t0
   rw [show m + 3 + 1 = m + 4 from rfl] at t0
   rw [show m + 2 + 1 = m + 3 from rfl, show ((1 : Nat) : Int) = ((0 + 1 : Nat) : Int) from rfl] at t1
   rw [show m + 1 + 1 = m + 2 from rfl, show ((2 : Nat) : Int) = ((1 + 1 : Nat) : Int) from rfl] at t2
   rw [t0, t1, t2, go_certpathlaw37_WireFounds_l1, if_neg]
   rw [decide_eq_true_eq]; show ¬ (((2 + 1 : Nat) : Int) < 3); omega
  rw [hl1]
  simp only [ctlB]
  rw [aw]; rfl
end Go.Abs
end
