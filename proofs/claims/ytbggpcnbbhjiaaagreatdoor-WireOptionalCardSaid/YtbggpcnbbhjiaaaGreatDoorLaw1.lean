/- The typed Lean form of WireOptional gives true for every list of at most 9223372036854775807 numbers. -/
import Derived.Test.YtbggpcnbbhjiaaaGreatDoorW4
set_option linter.unusedVariables false
set_option linter.unusedSimpArgs false
set_option linter.unnecessarySimpa false
section
set_option maxRecDepth 100000
namespace Go.Abs
open Go Go.Proofs
theorem wr64 {x : Int} (h : -9223372036854775808 ≤ x ∧ x ≤ 9223372036854775807) : IntKind.wrap .i64 x = x := IntWalk.i64_in x h
def DeckOk (d : T_certpathmade_Deck) : Prop := 0 ≤ d.f_At ∧ d.f_At ≤ (d.f_L.length : Int) ∧ d.f_L.length ≤ 9223372036854775807
theorem lidx_some {α : Type} {l : List α} {i : Int} (h0 : 0 ≤ i) (h1 : i < (l.length : Int)) : ∃ x, lidx l i = some x ∧ x ∈ l := by
 have h : i.toNat < l.length := by omega
 exact ⟨l[i.toNat], by simp [lidx, h0, h], by simp⟩
theorem next_law {n : Nat} {k : Int} {d : T_certpathmade_Deck} (hk : 0 < k) (hk2 : k ≤ 4611686018427387904) (hd : DeckOk d) :
  ∃ r d', go_certpathmade_Deck_Next n k d = some (r, d') ∧ 0 ≤ r ∧ r < k ∧ DeckOk d' := by
 obtain ⟨h0, h1, h2⟩ := hd
 unfold go_certpathmade_Deck_Next
 by_cases hc : d.f_At ≥ (d.f_L.length : Int)
 ·exact ⟨0, d, by simp [hc], by omega, by omega, h0, h1, h2⟩
 ·have ha : IntKind.wrap .i64 (d.f_At + 1) = d.f_At + 1 := wr64 (by omega)
  have hb : IntKind.wrap .i64 (IntKind.wrap .i64 (d.f_At + 1) - 1) = d.f_At := by rw [ha, wr64 (by omega)]; omega
  obtain ⟨x, hx, _⟩ := lidx_some h0 (Int.not_le.1 hc)
  have hm1 : -k < x.tmod k := by
   have := Int.lt_tmod_of_pos x hk; omega
  have hm2 : x.tmod k < k := Int.tmod_lt_of_pos x hk
  have hw : IntKind.wrap .i64 (x.tmod k + k) = x.tmod k + k := wr64 (by omega)
  refine ⟨(x.tmod k + k).tmod k, ⟨d.f_L, d.f_At + 1⟩, ?_, ?_, ?_, ?_⟩
  ·rw [hb, hx, ha]
   have hk' : k ≠ 0 := by omega
   simp [hc, irem, hk', hw]
  ·exact Int.tmod_nonneg k (by omega)
  ·exact Int.tmod_lt_of_pos _ hk
  ·exact ⟨by simp; omega, by simp; omega, h2⟩
theorem time_law {n : Nat} {d : T_certpathmade_Deck} (hd : DeckOk d) :
  ∃ t d', go_certpathmade_Time n d = some (t, d') ∧ t ∈ ([0, 1000, 2000000000, 3155759999, 3155760000, 254033452799, 2400000000] : List Int) ∧ DeckOk d' := by
 obtain ⟨r, d', h1, h2, h3, h4⟩ := next_law (n := n) (k := 7) (by decide) (by decide) hd
 obtain ⟨x, hx, hm⟩ := lidx_some (l := ([0, 1000, 2000000000, 3155759999, 3155760000, 254033452799, 2400000000] : List Int)) h2 (by simpa using h3)
 exact ⟨x, d', by simp only [go_certpathmade_Time, h1, Option.bind_some, hx], hm, h4⟩
def tot (cs : List (List UInt8)) : Nat := (cs.map List.length).sum
theorem wl (n : Nat) (cs : List (List UInt8)) (ht : tot cs ≤ 60000) : ∀ (k : Nat) (pre suf : List (List UInt8)), cs = pre ++ suf → suf.length < k → cs.length ≤ 10000 →
  go_tlv_Wrap_l1 n cs k (tot pre) pre.length = some (.nxt (tot cs : Int))
 | 0, _, _, _, h, _ => by omega
 | k + 1, pre, [], hp, hk, hl => by
  simp at hp; subst hp
  simp [go_tlv_Wrap_l1]
 | k + 1, pre, c :: suf, hp, hk, hl => by
  have hlen : cs.length = pre.length + (suf.length + 1) := by rw [hp]; simp
  have htot : tot cs = tot pre + (c.length + tot suf) := by rw [hp]; simp [tot]
  have hx : lidx cs (pre.length : Int) = some c := by
   rw [hp]; simp [lidx]
  have ih := wl n cs ht k (pre ++ [c]) suf (by rw [hp]; simp) (by simp at hk; omega) hl
  have e1 : IntKind.wrap .i64 ((131072 : Int) - (tot pre : Int)) = 131072 - (tot pre : Int) := wr64 (by omega)
  have e2 : IntKind.wrap .i64 ((tot pre : Int) + (c.length : Int)) = ((tot (pre ++ [c]) : Nat) : Int) := by
   rw [wr64 (by omega)]; simp [tot]
  have e3 : IntKind.wrap .i64 ((pre.length : Int) + 1) = (((pre ++ [c]).length : Nat) : Int) := by
   rw [wr64 (by omega)]; simp
  rw [go_tlv_Wrap_l1]
  rw [if_pos (by simp; omega), hx]
  simp only [Option.bind_some]
  rw [e1, if_neg (by simp; omega), e2, e3, ih]
theorem join_tot (cs : List (List UInt8)) : (Lib.join cs []).length = tot cs := by
 induction cs with
 | nil => rfl
 | cons c r ih =>
  cases r with
  | nil => simp [Lib.join, tot]
  | cons d r => simp [Lib.join, tot] at *; omega
theorem wrap_law {n : Nat} {t : Int} {cs : List (List UInt8)} (h0 : 0 ≤ t) (h1 : t ≤ 255) (h2 : (iand .i64 t 31 == 31) = false) (ht : tot cs ≤ 60000) (hn : cs.length < n) (hl : cs.length ≤ 10000) :
  ∃ w, go_tlv_Wrap n t cs = some (w, 0) ∧ tot cs + 2 ≤ w.length ∧ w.length ≤ tot cs + 4 := by
 have hw := wl n cs ht n [] cs rfl hn hl
 have hj := join_tot cs
 unfold go_tlv_Wrap
 rw [if_neg (by simp; omega), if_neg (by simp; omega)]
 simp only [Option.bind_some, h2]
 have e0 : ((tot [] : Nat) : Int) = 0 := rfl
 have e1 : (([] : List (List UInt8)).length : Int) = 0 := rfl
 rw [e0, e1] at hw
 rw [hw]
 have hct : ct_Join n cs [] = some (Lib.join cs []) := by
  unfold ct_Join; rw [if_pos (by omega)]
 simp only [ctlB, hct, Option.bind_some, Bool.false_eq_true, if_false]
 by_cases a1 : (tot cs : Int) < 128
 ·simp only [a1, decide_true, if_true, lappx, List.length_cons, List.length_nil, Option.bind_some]
  simp [sadd, b2s, hj]
  have : tot cs + 2 ≤ 9223372036854775807 := by omega
  simp [show 2 + tot cs ≤ 9223372036854775807 by omega, hj]
 ·by_cases a2 : (tot cs : Int) < 256
  ·simp only [a1, a2, decide_true, decide_false, Bool.false_eq_true, if_false, if_true, lappx, List.length_cons, List.length_nil, Option.bind_some]
   simp [sadd, b2s, hj]
   simp [show 3 + tot cs ≤ 9223372036854775807 by omega, hj]
  ·have a3 : (tot cs : Int) < 65536 := by omega
   simp only [a1, a2, a3, decide_true, decide_false, Bool.false_eq_true, if_false, if_true, lappx, List.length_cons, List.length_nil, Option.bind_some]
   simp [sadd, b2s, hj]
   simp [show 4 + tot cs ≤ 9223372036854775807 by omega, hj]
end Go.Abs
end
