/- The typed Lean form of WireFounds gives true for every list of at most 9223372036854775807 numbers and every value found. -/
import Derived.Test.YtbggpcnbbhjiaaaGreatDoorLaw1
set_option linter.unusedVariables false
set_option linter.unusedSimpArgs false
set_option linter.unnecessarySimpa false
section
set_option maxRecDepth 100000
namespace Go.Abs
open Go Go.Proofs
def splitB (c : UInt8) : Bs → List Bs
 | [] => [[]]
 | x :: r => if x = c then [] :: splitB c r else match splitB c r with
  | p :: ps => (x :: p) :: ps
  | [] => [[x]]
theorem splitB_ne (c : UInt8) (s : Bs) : splitB c s ≠ [] := by
 cases s with
 | nil => simp [splitB]
 | cons x r =>
  simp only [splitB]; split
  ·simp
  ·split <;> simp
theorem splitB_len (c : UInt8) (s : Bs) : (splitB c s).length = s.count c + 1 := by
 induction s with
 | nil => rfl
 | cons x r ih =>
  simp only [splitB]
  by_cases h : x = c
  ·subst h; rw [if_pos rfl]; simp [ih]
  ·rw [if_neg h, List.count_cons_of_ne h]
   split
   ·rename_i p ps hp; rw [hp] at ih; simpa using ih
   ·rename_i hp; exact absurd hp (splitB_ne c r)
theorem splitB_app {c : UInt8} {p : Bs} (hp : c ∉ p) : splitB c p = [p] ∧ ∀ r, splitB c (p ++ c :: r) = p :: splitB c r := by
 induction p with
 | nil => exact ⟨rfl, fun r => by simp [splitB]⟩
 | cons x q ih =>
  simp only [List.mem_cons, not_or] at hp
  obtain ⟨h1, h2⟩ := ih hp.2
  refine ⟨?_, fun r => ?_⟩
  ·simp only [splitB]; rw [if_neg (Ne.symm hp.1), h1]
  ·simp only [List.cons_append, splitB]; rw [if_neg (Ne.symm hp.1), h2 r]
theorem splitB_more {c x : UInt8} {p r : Bs} (hp : c ∉ p) (hx : x ≠ c) : ∃ q ps, splitB c (p ++ x :: r) = (p ++ x :: q) :: ps := by
 induction p with
 | nil =>
  simp only [List.nil_append, splitB]; rw [if_neg hx]
  split
  ·exact ⟨_, _, rfl⟩
  ·exact ⟨[], [], rfl⟩
 | cons y q ih =>
  simp only [List.mem_cons, not_or] at hp
  obtain ⟨q', ps, h⟩ := ih hp.2
  simp only [List.cons_append, splitB]; rw [if_neg (Ne.symm hp.1), h]
  exact ⟨q', ps, rfl⟩
theorem idx_split (c : UInt8) : ∀ s : Bs, (Lib.index s [c] = -1 ∧ c ∉ s) ∨ ∃ p r, s = p ++ c :: r ∧ Lib.index s [c] = (p.length : Int) ∧ c ∉ p
 | [] => .inl ⟨rfl, by simp⟩
 | x :: l => by
  unfold Lib.index
  by_cases h : x = c
  ·subst h; exact .inr ⟨[], l, rfl, by simp [List.isPrefixOf], by simp⟩
  ·have hpre : List.isPrefixOf [c] (x :: l) = false := by simp [List.isPrefixOf]; exact fun h' => absurd h'.symm h
   rw [hpre]
   rcases idx_split c l with ⟨h1, h2⟩ | ⟨p, r, h1, h2, h3⟩
   ·refine .inl ⟨by simp [h1], ?_⟩
    simp only [List.mem_cons, not_or]; exact ⟨Ne.symm h, h2⟩
   ·refine .inr ⟨x :: p, r, by rw [h1]; rfl, ?_, ?_⟩
    ·rw [h2]
     have : ((p.length : Int) == -1) = false := by simp
     simp [this]
    ·simp only [List.mem_cons, not_or]; exact ⟨Ne.symm h, h3⟩
theorem lset_at {α : Type} {l : List α} {x y : α} {r : List α} {i : Nat} (h : i = l.length) : lset (l ++ y :: r) (i * 1) x = some (l ++ x :: r) := by
 subst h
 unfold lset
 rw [Nat.mul_one, if_pos (by simp)]
 simp
theorem genSplit_l1 {n : Nat} {c : UInt8} {s : Bs} (hs : s.length ≤ 1000000000) (m : Nat) (hm : m = s.count c + 1) : ∀ (k i : Nat) (v : Bs) (done : List Bs), done.length = i → i + v.count c + 1 = m → v.length ≤ s.length → v.count c < k →
  ∃ w done2, go_strings_genSplit_l1 n s (m : Int) [c] 0 m k v (i : Int) (done ++ List.replicate (m - i) []) = some (w, ((m - 1 : Nat) : Int), done2 ++ List.replicate 1 []) ∧ done2.length = m - 1 ∧ done ++ splitB c v = done2 ++ [w]
 | 0, _, _, _, _, _, _, h => by omega
 | k + 1, i, v, done, hd, hi, hv, hk => by
  have hcs : s.count c ≤ s.length := List.count_le_length
  rw [go_strings_genSplit_l1]
  have e1 : IntKind.wrap .i64 ((s.length : Int) + 1) = ((s.length + 1 : Nat) : Int) := by rw [wr64 (by omega)]; omega
  rw [e1]
  have e2 : (if (((s.length + 1 : Nat) : Int)) < (m : Int) then ((s.length + 1 : Nat) : Int) else (m : Int)) = (m : Int) := by
   rw [if_neg (by omega)]
  rw [e2, wr64 (x := (m : Int) - 1) (by omega)]
  by_cases hc : i < m - 1
  ·rw [if_pos (by simp; omega)]
   have hidx : ct_Index n v [c] = some (Lib.index v [c]) := by unfold ct_Index; rw [if_pos (by omega)]
   rw [hidx]
   simp only [Option.bind_some]
   rcases idx_split c v with ⟨h1, h2⟩ | ⟨p, r, h1, h2, h3⟩
   ·have : v.count c = 0 := List.count_eq_zero.2 h2
    omega
   ·have hvc : v.count c = r.count c + 1 := by rw [h1, List.count_append, List.count_eq_zero.2 h3]; simp
    have hvl : v.length = p.length + 1 + r.length := by rw [h1]; simp; omega
    rw [h2, if_neg (by simp), wr64 (x := (p.length : Int) + 0) (by omega), Int.add_zero]
    have s1 : ssl v 0 (p.length : Int) = some p := by
     rw [show (0 : Int) = ((0 : Nat) : Int) from rfl, ssl_nat (by omega) (by omega), h1]; simp
    have s2 : ssl v (IntKind.wrap .i64 ((p.length : Int) + (([c] : Bs).length : Int))) (v.length : Int) = some r := by
     rw [show (([c] : Bs).length : Int) = 1 from rfl, w1 (by omega), ssl_nat (by omega) (by omega), List.take_length, h1, show p.length + 1 = (p ++ [c]).length by simp, show p ++ c :: r = (p ++ [c]) ++ r by simp, List.drop_left]
    have s3 : oidx m (i : Int) = some i := by unfold oidx; rw [if_pos (by omega)]; simp
    have hrep : List.replicate (m - i) ([] : Bs) = [] :: List.replicate (m - (i + 1)) [] := by
     rw [show m - i = (m - (i + 1)) + 1 by omega, List.replicate_succ]
    rw [s1, s3, s2, hrep]
    simp only [Option.bind_some]
    rw [lset_at hd.symm, w1 (by omega)]
    simp only [Option.bind_some]
    have ih := genSplit_l1 (n := n) hs m hm k (i + 1) r (done ++ [p]) (by simp [hd]) (by omega) (by omega) (by omega)
    obtain ⟨w, d2, g1, g2, g3⟩ := ih
    refine ⟨w, d2, ?_, g2, ?_⟩
    ·rw [← g1]; simp
    ·rw [← g3, h1, (splitB_app h3).2 r]; simp
  ·rw [if_neg (by simp; omega)]
   have hi' : i = m - 1 := by omega
   have h0 : v.count c = 0 := by omega
   have hn : c ∉ v := List.count_eq_zero.1 h0
   refine ⟨v, done, ?_, by omega, by rw [(splitB_app hn).1]⟩
   rw [hi', show m - (m - 1) = 1 by omega]
theorem strings_Split {n : Nat} {c : UInt8} {s : Bs} (hs : s.length ≤ 1000000000) (hn : s.length + 2 ≤ n) : go_strings_Split n s [c] = some (splitB c s) := by
 unfold go_strings_Split go_strings_genSplit
 have hcs : s.count c ≤ s.length := List.count_le_length
 rw [if_neg (by decide), if_neg (by simp), if_pos (by decide)]
 have hct : ct_Count n s [c] = some ((s.count c : Nat) : Int) := rfl
 rw [hct]
 simp only [Option.bind_some]
 have e0 : IntKind.wrap .i64 (((s.count c : Nat) : Int) + 1) = ((s.count c + 1 : Nat) : Int) := by rw [wr64 (by omega)]; omega
 have e1 : IntKind.wrap .i64 ((s.length : Int) + 1) = ((s.length + 1 : Nat) : Int) := by rw [wr64 (by omega)]; omega
 rw [e0, e1]
 generalize hm : s.count c + 1 = m at *
 have e2 : (if (((s.length + 1 : Nat) : Int)) < (m : Int) then ((s.length + 1 : Nat) : Int) else (m : Int)) = (m : Int) := by
  rw [if_neg (by omega)]
 rw [e2]
 have hmk : omake 16 (m : Int) (m : Int) = some m := by unfold omake; rw [if_pos (by omega)]; simp
 rw [hmk]
 simp only [Option.bind_some]
 obtain ⟨w, d2, g1, g2, g3⟩ := genSplit_l1 (n := n) (c := c) hs m hm.symm n 0 s [] rfl (by omega) (Nat.le_refl _) (by omega)
 rw [show ((0 : Nat) : Int) = 0 from rfl, List.nil_append, Nat.sub_zero] at g1
 rw [List.nil_append] at g3
 rw [g1]
 simp only [Option.bind_some]
 have s3 : oidx m (((m - 1 : Nat) : Int)) = some (m - 1) := by unfold oidx; rw [if_pos (by omega)]; simp
 rw [s3]
 simp only [Option.bind_some]
 rw [show List.replicate 1 ([] : Bs) = [[]] from rfl, lset_at g2.symm]
 simp only [Option.bind_some]
 have e3 : IntKind.wrap .i64 (((m - 1 : Nat) : Int) + 1) = (m : Int) := by rw [wr64 (by omega)]; omega
 rw [e3]
 have e4 : osl m (m : Int) = some m := by unfold osl; rw [if_pos (by omega)]; simp
 rw [e4]
 simp only [Option.bind_some]
 have e5 : ofrz m (d2 ++ [w]) = some (d2 ++ [w]) := by
  unfold ofrz; rw [if_pos (by simp; omega), List.take_of_length_le (by simp; omega)]
 rw [e5, g3]; rfl
def digC (c : UInt8) : Bool := decide (48 ≤ c.toNat) && decide (c.toNat ≤ 57)
def dval (p : Bs) : Nat := p.foldl (fun n c => 10 * n + (c.toNat - 48)) 0
def arcOk (p : Bs) : Bool := decide (p ≠ []) && decide (p.length ≤ 10) && !(decide (1 < p.length) && decide (p.head? = some 48)) && p.all digC && decide (dval p ≤ 2147483647)
def rootOk (l : List Nat) : Bool := match l with
 | a :: b :: _ => (decide (a ≤ 1) && decide (b ≤ 39)) || decide (a = 2)
 | _ => false
def tArcs (s : Bs) : Option (List Nat) :=
 if 2 ≤ (splitB 46 s).length ∧ (splitB 46 s).length ≤ 12 ∧ (splitB 46 s).all arcOk = true ∧ rootOk ((splitB 46 s).map dval) = true then some ((splitB 46 s).map dval) else none
def ints (l : List Nat) : List Int := l.map fun n : Nat => (n : Int)
theorem arcOk_iff (p : Bs) : arcOk p = true ↔ p ≠ [] ∧ p.length ≤ 10 ∧ ¬(1 < p.length ∧ p.head? = some 48) ∧ p.all digC = true ∧ dval p ≤ 2147483647 := by
 unfold arcOk
 simp only [Bool.and_eq_true, decide_eq_true_eq, Bool.not_eq_true', Bool.and_eq_false_imp, decide_eq_false_iff_not, and_assoc, not_and]
theorem arcOk_false {p : Bs} (h : ¬(p ≠ [] ∧ p.length ≤ 10 ∧ ¬(1 < p.length ∧ p.head? = some 48) ∧ p.all digC = true ∧ dval p ≤ 2147483647)) : arcOk p = false := by
 rw [Bool.eq_false_iff]; exact fun h' => h ((arcOk_iff p).1 h')
theorem digit_step {c : UInt8} (hc : digC c = true) {v : Nat} (hv : v < 100000000000) : IntKind.wrap .i64 (IntKind.wrap .i64 ((10 : Int) * (v : Int)) + IntKind.wrap .i64 (IntKind.wrap .u8 ((c.toNat : Int) - 48))) = ((10 * v + (c.toNat - 48) : Nat) : Int) := by
 simp only [digC, Bool.and_eq_true, decide_eq_true_eq] at hc
 rw [wr8 (by omega) (by omega), wr64 (x := (10 : Int) * (v : Int)) (by omega), wr64 (x := (c.toNat : Int) - 48) (by omega), wr64 (by omega)]
 omega
theorem oid_arc_l1 {n : Nat} (p : Bs) (hl : p.length ≤ 10) : ∀ (k i v : Nat), i ≤ p.length → p.length - i < k → v < 10 ^ i → (p.take i).all digC = true →
  go_oid_arc_l1 n p k (v : Int) (i : Int) = some (if (p.drop i).all digC = true then .nxt (((p.drop i).foldl (fun n c => 10 * n + (c.toNat - 48)) v : Nat) : Int) else .ret (-1))
 | 0, i, v, _, h, _, _ => by omega
 | k + 1, i, v, hi, hk, hv, hd => by
  rw [go_oid_arc_l1]
  by_cases hc : i < p.length
  ·rw [if_pos (by simp; omega), bidx_nat hc]
   simp only [Option.bind_some]
   have hdr : p.drop i = p[i] :: p.drop (i + 1) := List.drop_eq_getElem_cons hc
   have hv10 : v < 10000000000 := Nat.lt_of_lt_of_le hv (Nat.le_trans (Nat.pow_le_pow_right (by omega) (show i ≤ 10 by omega)) (by decide))
   rw [hdr, List.all_cons, List.foldl_cons]
   by_cases hdg : digC p[i] = true
   ·have h2 := hdg
    simp only [digC, Bool.and_eq_true, decide_eq_true_eq] at h2
    rw [if_neg (by simp; omega)]
    simp only [Option.bind_some]
    rw [if_neg (by simp; omega), digit_step hdg (by omega), w1 (by omega), hdg, Bool.true_and]
    refine oid_arc_l1 p hl k (i + 1) _ (by omega) (by omega) ?_ ?_
    ·rw [Nat.pow_succ]; omega
    ·rw [List.take_succ_eq_append_getElem hc, List.all_append, hd]; simp [hdg]
   ·have h2 : p[i].toNat < 48 ∨ 57 < p[i].toNat := by
     simp only [digC, Bool.and_eq_true, decide_eq_true_eq] at hdg; omega
    have : (if (decide (((p[i]).toNat : Int) < 48)) = true then some true else some (decide (((p[i]).toNat : Int) > 57))) = some true := by
     by_cases h : p[i].toNat < 48
     ·rw [if_pos (by simp; omega)]
     ·rw [if_neg (by simp; omega)]; simp; omega
    rw [this]
    simp only [Bool.not_eq_true] at hdg
    simp [hdg]
  ·have : i = p.length := by omega
   subst this
   rw [if_neg (by simp)]
   simp
theorem oid_arc {n : Nat} {p : Bs} (hn : 20 ≤ n) (hp : p.length ≤ 1000000000) : go_oid_arc n p = some (if arcOk p = true then ((dval p : Nat) : Int) else -1) := by
 unfold go_oid_arc
 match p, hp with
 | [], _ => simp [arcOk]
 | c :: r, hp =>
  rw [if_neg (by simp)]
  by_cases h10 : (c :: r).length ≤ 10
  ·rw [if_neg (by simp; simp at h10; omega)]
   have h0 : bidx (c :: r) 0 = some (c.toNat : Int) := by simp [bidx]
   rw [h0]
   simp only [Option.bind_some]
   by_cases hz : c = 48 ∧ 1 < (c :: r).length
   ·have : arcOk (c :: r) = false := arcOk_false fun h => h.2.2.1 ⟨hz.2, by rw [hz.1]; rfl⟩
    rw [if_pos (by rw [hz.1]; rfl), this]
    have := hz.2
    simp at this
    have h3 : decide (((c :: r).length : Int) > 1) = true := by simp; omega
    rw [h3]; rfl
   ·have hb : (if ((c.toNat : Int) == 48) = true then some (decide (((c :: r).length : Int) > 1)) else some false) = some false := by
     by_cases h : c = 48
     ·rw [if_pos (by rw [h]; rfl)]
      have : ¬ 1 < (c :: r).length := fun h' => hz ⟨h, h'⟩
      have h3 : decide (((c :: r).length : Int) > 1) = false := by rw [decide_eq_false_iff_not]; omega
      rw [h3]
     ·rw [if_neg]
      simp
      intro h'
      have : (48 : UInt8).toNat = 48 := rfl
      exact h (UInt8.toNat_inj.1 (by omega))
    rw [hb]
    simp only [Option.bind_some, Bool.false_eq_true, if_false]
    have := oid_arc_l1 (n := n) (c :: r) h10 n 0 0 (by omega) (by omega) (by simp) (by simp)
    rw [show ((0 : Nat) : Int) = 0 from rfl, List.drop_zero] at this
    rw [this]
    by_cases ha : (c :: r).all digC = true
    ·rw [if_pos ha]
     simp only [ctlB]
     by_cases hm : dval (c :: r) ≤ 2147483647
     ·have hok : arcOk (c :: r) = true := (arcOk_iff _).2 ⟨by simp, h10, fun h => hz ⟨by simpa using h.2, h.1⟩, ha, hm⟩
      rw [hok, if_pos rfl]
      rw [if_neg]
      ·rfl
      ·show ¬ decide (((dval (c :: r) : Nat) : Int) > 2147483647) = true
       simp; omega
     ·have hok : arcOk (c :: r) = false := arcOk_false fun h => hm h.2.2.2.2
      rw [hok, if_pos]
      ·rfl
      ·show decide (((dval (c :: r) : Nat) : Int) > 2147483647) = true
       simp; omega
    ·have hok : arcOk (c :: r) = false := arcOk_false fun h => ha h.2.2.2.1
     rw [if_neg ha, hok]; rfl
  ·have hok : arcOk (c :: r) = false := arcOk_false fun h => h10 h.2.1
   rw [if_pos (by simp; simp at h10; omega), hok]; rfl
theorem ints_len (l : List Nat) : (ints l).length = l.length := by simp [ints]
theorem oid_arcs_l1 {n : Nat} (hn : 20 ≤ n) (ps : List Bs) (hp : ∀ p ∈ ps, p.length ≤ 1000000000) (hl : ps.length ≤ 1000000000) : ∀ (k : Nat) (pre suf : List Bs), ps = pre ++ suf → suf.length < k → pre.all arcOk = true →
  go_oid_arcs_l1 n ps k (ints (pre.map dval)) (pre.length : Int) = some (if suf.all arcOk = true then .nxt (ints (ps.map dval)) else .ret none)
 | 0, _, _, _, h, _ => by omega
 | k + 1, pre, [], hps, hk, ha => by
  simp at hps; subst hps
  rw [go_oid_arcs_l1, if_neg (by simp)]; simp
 | k + 1, pre, p :: suf, hps, hk, ha => by
  have hlen : ps.length = pre.length + (suf.length + 1) := by rw [hps]; simp
  have hx : lidx ps (pre.length : Int) = some p := by
   rw [lidx_nat (by omega)]; congr 1; simp [hps]
  rw [go_oid_arcs_l1, if_pos (by simp; omega), hx]
  simp only [Option.bind_some]
  rw [oid_arc hn (hp p (by rw [hps]; simp))]
  simp only [Option.bind_some]
  by_cases ho : arcOk p = true
  ·rw [if_pos ho, if_neg (by simp), lapp_some (by simp [ints_len]; omega)]
   simp only [Option.bind_some]
   have e : (p :: suf).all arcOk = suf.all arcOk := by simp [ho]
   rw [w1 (by omega), e]
   have ih := oid_arcs_l1 hn ps hp hl k (pre ++ [p]) suf (by rw [hps]; simp) (by simp at hk; omega) (by simp [ha, ho])
   rw [← ih]
   simp [ints]
  ·have e : (p :: suf).all arcOk = false := by simp [ho]
   rw [if_neg ho, e]
   simp
theorem mem_splitB {c : UInt8} {s p : Bs} (h : p ∈ splitB c s) : p.length ≤ s.length := by
 induction s generalizing p with
 | nil => simp [splitB] at h; subst h; simp
 | cons x r ih =>
  simp only [splitB] at h
  split at h
  ·rcases List.mem_cons.1 h with h | h
   ·subst h; simp
   ·have := ih h; simp; omega
  ·split at h
   ·rename_i q ps hq
    rcases List.mem_cons.1 h with h | h
    ·subst h
     have := ih (p := q) (by rw [hq]; simp)
     simp; omega
    ·have := ih (p := p) (by rw [hq]; simp [h])
     simp; omega
   ·simp at h; subst h; simp
theorem oid_arcs {n : Nat} {s : Bs} (hs : s.length ≤ 100000000) (hn : s.length + 20 ≤ n) : go_oid_arcs n s = some ((tArcs s).map ints) := by
 unfold go_oid_arcs tArcs
 rw [strings_Split (by omega) (by omega)]
 simp only [Option.bind_some]
 have hlen : (splitB 46 s).length ≤ s.length + 1 := by
  rw [splitB_len]; have := @List.count_le_length _ _ (46 : UInt8) s; omega
 by_cases h2 : 2 ≤ (splitB 46 s).length ∧ (splitB 46 s).length ≤ 12
 ·have : (if (decide (((splitB 46 s).length : Int) < 2)) = true then some true else some (decide (((splitB 46 s).length : Int) > 12))) = some false := by
   rw [if_neg (by simp; omega), decide_eq_false_iff_not.2 (by omega)]
  rw [this]
  simp only [Option.bind_some, Bool.false_eq_true, if_false]
  have hl := oid_arcs_l1 (n := n) (by omega) (splitB 46 s) (fun p hp => by have := mem_splitB hp; omega) (by omega) n [] (splitB 46 s) rfl (by omega) rfl
  rw [show (ints (List.map dval ([] : List Bs))) = [] from rfl, show ((([] : List Bs).length : Nat) : Int) = 0 from rfl] at hl
  rw [hl]
  by_cases ha : (splitB 46 s).all arcOk = true
  ·rw [if_pos ha]
   simp only [ctlB]
   match hd : (splitB 46 s).map dval with
   | [] => have := congrArg List.length hd; rw [List.length_map, List.length_nil] at this; omega
   | [x] => have := congrArg List.length hd; rw [List.length_map, List.length_singleton] at this; omega
   | a :: b :: l =>
    have h0 : lidx (ints (a :: b :: l)) 0 = some (a : Int) := by simp [lidx, ints]
    have h1 : lidx (ints (a :: b :: l)) 1 = some (b : Int) := by simp [lidx, ints]
    rw [h0, h1]
    simp only [Option.bind_some]
    have hr : go_oid_root n (a : Int) (b : Int) = some (rootOk (a :: b :: l)) := by
     unfold go_oid_root rootOk
     have e2 : ((a : Int) == 2) = decide (a = 2) := by
      by_cases h : a = 2
      ·simp [h]
      ·simp [h]; omega
     rw [e2]
     by_cases c1 : a ≤ 1
     ·by_cases c2 : b ≤ 39
      ·rw [if_pos (by simp; omega), if_pos (by simp; omega)]; simp [c1, c2]
      ·rw [if_pos (by simp; omega), if_neg (by simp; omega)]; simp [c2]
     ·rw [if_neg (by simp; omega)]; simp [c1]
    rw [hr]
    simp only [Option.bind_some]
    cases hro : rootOk (a :: b :: l) with
    | true => simp [h2, ha, lne, ints]
    | false => simp
  ·rw [if_neg ha, if_neg (fun h => ha h.2.2.1)]; rfl
 ·have : (if (decide (((splitB 46 s).length : Int) < 2)) = true then some true else some (decide (((splitB 46 s).length : Int) > 12))) = some true := by
   by_cases h : (splitB 46 s).length < 2
   ·rw [if_pos (by simp; omega)]
   ·rw [if_neg (by simp; omega), decide_eq_true (by omega)]
  rw [this, if_neg (fun h => h2 ⟨h.1, h.2.1⟩)]; rfl
theorem oid_Valid {n : Nat} {s : Bs} (hs : s.length ≤ 100000000) (hn : s.length + 20 ≤ n) : go_oid_Valid n s = some (tArcs s).isSome := by
 unfold go_oid_Valid
 rw [oid_arcs hs hn]
 cases h : tArcs s with
 | none => rfl
 | some l =>
  have : l ≠ [] := by
   unfold tArcs at h
   split at h
   ·rename_i hc; injection h with h; subst h
    intro h'
    have := congrArg List.length h'
    rw [List.length_map, List.length_nil] at this
    omega
   ·cases h
  cases l with
  | nil => exact absurd rfl this
  | cons a r => rfl
theorem rarcs_l2 {n : Nat} (p : Bs) (hl : p.length ≤ 10) (hd : p.all digC = true) : ∀ (k i v : Nat), i ≤ p.length → p.length - i < k → v < 10 ^ i →
  go_certpathref01_arcs_l2 n p k (v : Int) (i : Int) = some (((p.drop i).foldl (fun n c => 10 * n + (c.toNat - 48)) v : Nat) : Int)
 | 0, i, v, _, h, _ => by omega
 | k + 1, i, v, hi, hk, hv => by
  rw [go_certpathref01_arcs_l2]
  by_cases hc : i < p.length
  ·rw [if_pos (by simp; omega), bidx_nat hc]
   simp only [Option.bind_some]
   have hdr : p.drop i = p[i] :: p.drop (i + 1) := List.drop_eq_getElem_cons hc
   have hv10 : v < 10000000000 := Nat.lt_of_lt_of_le hv (Nat.le_trans (Nat.pow_le_pow_right (by omega) (show i ≤ 10 by omega)) (by decide))
   have hdg : digC p[i] = true := List.all_eq_true.1 hd _ (List.getElem_mem hc)
   have h2 := hdg
   simp only [digC, Bool.and_eq_true, decide_eq_true_eq] at h2
   rw [hdr, List.foldl_cons, digit_step hdg (by omega), w1 (by omega)]
   refine rarcs_l2 p hl hd k (i + 1) _ (by omega) (by omega) ?_
   rw [Nat.pow_succ]; omega
  ·have : i = p.length := by omega
   subst this
   rw [if_neg (by simp)]
   simp
def rAcc (out : List Nat) : List Bs → Ctl (List Int × Bool) (List Int)
 | [] => .nxt (ints out)
 | p :: ps => if arcOk p = true ∧ out.length ≠ 12 then rAcc (out ++ [dval p]) ps else .ret ([], false)
theorem beq_nat (a b : Nat) : ((a : Int) == (b : Int)) = decide (a = b) := by
 by_cases h : a = b
 ·subst h; simp
 ·simp [h]; omega
theorem u8_eq {c d : UInt8} : ((c.toNat : Int) == (d.toNat : Int)) = decide (c = d) := by
 rw [beq_nat]
 by_cases h : c = d
 ·subst h; simp
 ·rw [decide_eq_false h, decide_eq_false]
  exact fun h' => h (UInt8.toNat_inj.1 h')
theorem rarcs_bad (p : Bs) (m : Nat) : (if ((List.length p : Int) == 0) = true then (some true) else (if (decide ((List.length p : Int) > 10)) = true then (some true) else (if (decide ((List.length p : Int) > 1)) = true then ((bidx p 0).bind fun x578 =>
  if (x578 == 48) = true then (some true) else (some ((m : Int) == 12))) else (some ((m : Int) == 12))))) = some (decide (p.length = 0 ∨ 10 < p.length ∨ (1 < p.length ∧ p.head? = some 48) ∨ m = 12)) := by
 rw [show (12 : Int) = ((12 : Nat) : Int) from rfl, beq_nat]
 match p with
 | [] => simp
 | [c] => simp
 | c :: d :: r =>
  rw [if_neg (by simp; omega)]
  by_cases h10 : 10 < (c :: d :: r).length
  ·rw [if_pos (by rw [decide_eq_true_eq]; omega), decide_eq_true (.inr (.inl h10))]
  ·have h0 : bidx (c :: d :: r) 0 = some (c.toNat : Int) := by simp [bidx]
   rw [if_neg (by rw [decide_eq_true_eq]; omega), if_pos (by simp; omega), h0]
   simp only [Option.bind_some]
   rw [show ((c.toNat : Int) == 48) = decide (c = 48) from u8_eq (d := 48)]
   by_cases hc : c = 48
   ·rw [if_pos (by simp [hc]), decide_eq_true (.inr (.inr (.inl ⟨by simp, by simp [hc]⟩)))]
   ·rw [if_neg (by simp [hc])]
    congr 1
    by_cases hm : m = 12
    ·rw [decide_eq_true hm, decide_eq_true (.inr (.inr (.inr hm)))]
    ·rw [decide_eq_false hm, decide_eq_false]
     rintro (h | h | h | h)
     ·simp at h
     ·exact h10 h
     ·exact hc (by simpa using h.2)
     ·exact hm h
theorem rarcs_close {n : Nat} (hn : 20 ≤ n) (p : Bs) (out : List Nat) (rest : List Bs) (j : Int) (go : List Int → Int → Option (Ctl (List Int × Bool) (List Int))) (hd : p.all digC = true) (ho : out.length ≤ 100000000)
  (hnext : arcOk p = true → go (ints (out ++ [dval p])) j = some (rAcc (out ++ [dval p]) rest)) :
  ctlB ((if ((List.length p : Int) == 0) = true then (some true) else (if (decide ((List.length p : Int) > 10)) = true then (some true) else (if (decide ((List.length p : Int) > 1)) = true then ((bidx p 0).bind fun x578 =>
      if (x578 == 48) = true then (some true) else (some ((List.length (ints out) : Int) == 12))) else (some ((List.length (ints out) : Int) == 12))))).bind fun y580 =>
     if y580 = true then (some (.ret (([] : (List Int)), false))) else ((go_certpathref01_arcs_l2 n p n 0 0).bind fun y590 =>
     if (decide (y590 > 2147483647)) = true then (some (.ret (([] : (List Int)), false))) else ((lapp 8 (ints out) ([y590] : List Int)).bind fun x600 =>
     some (.nxt (x600, j))))) (fun r => some (.ret r)) (fun y567 => go y567.1 y567.2) = some (rAcc out (p :: rest)) := by
 rw [ints_len, rarcs_bad, rAcc]
 simp only [Option.bind_some]
 by_cases hb : p.length = 0 ∨ 10 < p.length ∨ (1 < p.length ∧ p.head? = some 48) ∨ out.length = 12
 ·rw [decide_eq_true hb, if_pos rfl, if_neg]
  ·rfl
  ·intro h
   obtain ⟨k1, k2, k3, k4, k5⟩ := (arcOk_iff p).1 h.1
   rcases hb with h' | h' | h' | h'
   ·exact k1 (List.eq_nil_of_length_eq_zero h')
   ·omega
   ·exact k3 h'
   ·exact h.2 h'
 ·simp only [not_or] at hb
  obtain ⟨b1, b2, b3, b4⟩ := hb
  rw [decide_eq_false (by simp only [not_or]; exact ⟨b1, b2, b3, b4⟩), if_neg (by simp)]
  have hval := rarcs_l2 (n := n) p (by omega) hd n 0 0 (by omega) (by omega) (by simp)
  rw [show ((0 : Nat) : Int) = 0 from rfl, List.drop_zero] at hval
  rw [hval]
  simp only [Option.bind_some]
  by_cases hm : dval p ≤ 2147483647
  ·have hok : arcOk p = true := (arcOk_iff p).2 ⟨fun h => b1 (by rw [h]; rfl), by omega, b3, hd, hm⟩
   rw [if_neg (by show ¬ decide (((dval p : Nat) : Int) > 2147483647) = true; simp; omega), if_pos ⟨hok, b4⟩, lapp_some (by simp [ints_len]; omega)]
   simp only [Option.bind_some, ctlB]
   have e : ints out ++ [((dval p : Nat) : Int)] = ints (out ++ [dval p]) := by simp [ints]
   have h3 := hnext hok
   rw [← e] at h3
   exact h3
  ·rw [if_pos (by show decide (((dval p : Nat) : Int) > 2147483647) = true; simp; omega), if_neg (fun h => hm ((arcOk_iff p).1 h.1).2.2.2.2)]; rfl
theorem rarcs_l1 {n : Nat} (hn : 20 ≤ n) (s : Bs) (hs : s.length ≤ 100000000) : ∀ (k at_ i : Nat) (out : List Nat), at_ ≤ i → i ≤ s.length → s.length - i + 1 < k → ((s.take i).drop at_).all digC = true → out.length + (s.length - i) ≤ 100000000 →
  go_certpathref01_arcs_l1 n s k (ints out) (at_ : Int) (i : Int) = some (rAcc out (splitB 46 (s.drop at_)))
 | 0, _, _, _, _, _, h, _, _ => by omega
 | k + 1, at_, i, out, ha, hi, hk, hd, ho => by
  have hcur : s.drop at_ = (s.take i).drop at_ ++ s.drop i := by
   conv => lhs; rw [← List.take_append_drop i s]
   rw [List.drop_append_of_le_length (by simp; omega)]
  have hno : (46 : UInt8) ∉ (s.take i).drop at_ := fun h => by
   have := List.all_eq_true.1 hd _ h
   exact absurd this (by decide)
  rw [go_certpathref01_arcs_l1, if_pos (by simp; omega)]
  by_cases hc : i < s.length
  ·have hdr : s.drop i = s[i] :: s.drop (i + 1) := List.drop_eq_getElem_cons hc
   rw [if_pos (by simp; omega), bidx_nat hc]
   simp only [Option.bind_some]
   by_cases h46 : s[i] = 46
   ·have e1 : (((s[i]).toNat : Int) != 46) = false := by rw [h46]; rfl
    rw [e1, if_neg (by simp), ssl_nat ha hi]
    have hsp : splitB 46 (s.drop at_) = (s.take i).drop at_ :: splitB 46 (s.drop (i + 1)) := by
     rw [hcur, hdr, h46]; exact (splitB_app hno).2 _
    rw [hsp]
    have := rarcs_close (n := n) hn ((s.take i).drop at_) out (splitB 46 (s.drop (i + 1))) ((i + 1 : Nat) : Int) (fun o a => go_certpathref01_arcs_l1 n s k o a ((i + 1 : Nat) : Int)) hd (by omega)
     (fun hok => rarcs_l1 hn s hs k (i + 1) (i + 1) (out ++ [dval ((s.take i).drop at_)]) (Nat.le_refl _) (by omega) (by omega) (by simp) (by simp; omega))
    rw [w1 (by omega)]
    exact this
   ·have e1 : (((s[i]).toNat : Int) != 46) = true := by
     have : (((s[i]).toNat : Int) == 46) = decide (s[i] = 46) := u8_eq (d := 46)
     simp only [bne, this]; simp [h46]
    rw [e1, if_pos rfl]
    by_cases hdg : digC s[i] = true
    ·have h2 := hdg
     simp only [digC, Bool.and_eq_true, decide_eq_true_eq] at h2
     rw [if_neg (by simp; omega)]
     simp only [Option.bind_some]
     rw [if_neg (by simp; omega), w1 (by omega)]
     simp only [ctlB]
     refine rarcs_l1 hn s hs k at_ (i + 1) out (by omega) (by omega) (by omega) ?_ (by omega)
     rw [List.take_succ_eq_append_getElem hc, List.drop_append_of_le_length (by simp; omega), List.all_append, hd]; simp [hdg]
    ·have h2 : s[i].toNat < 48 ∨ 57 < s[i].toNat := by
      simp only [digC, Bool.and_eq_true, decide_eq_true_eq] at hdg; omega
     have e2 : (if (decide (((s[i]).toNat : Int) < 48)) = true then some true else some (decide (((s[i]).toNat : Int) > 57))) = some true := by
      by_cases h : s[i].toNat < 48
      ·rw [if_pos (by simp; omega)]
      ·rw [if_neg (by simp; omega)]; simp; omega
     rw [e2]
     obtain ⟨q, ps, hq⟩ := splitB_more (r := s.drop (i + 1)) hno h46
     rw [hcur, hdr, hq, rAcc, if_neg]
     ·rfl
     ·intro h
      have := ((arcOk_iff _).1 h.1).2.2.2.1
      rw [List.all_append, List.all_cons] at this
      simp [hdg] at this
  ·have hie : i = s.length := by omega
   rw [if_neg (by simp; omega)]
   simp only [Option.bind_some, Bool.false_eq_true, if_false]
   have hsp : splitB 46 (s.drop at_) = (s.take i).drop at_ :: [] := by
    rw [hcur, hie, List.drop_length, List.append_nil]; exact (splitB_app (by rw [← hie]; exact hno)).1
   rw [hsp, ssl_nat ha hi, w1 (by omega)]
   refine rarcs_close (n := n) hn ((s.take i).drop at_) out [] ((i + 1 : Nat) : Int) (fun o a => go_certpathref01_arcs_l1 n s k o a ((i + 1 : Nat) : Int)) hd (by omega) (fun hok => ?_)
   match k, hk with
   | k + 1, hk =>
    show go_certpathref01_arcs_l1 n s (k + 1) _ _ _ = _
    rw [go_certpathref01_arcs_l1, if_neg (by simp; omega)]; rfl
theorem rAcc_all : ∀ (ps : List Bs) (out : List Nat), out.length ≤ 12 → rAcc out ps = if ps.all arcOk = true ∧ out.length + ps.length ≤ 12 then .nxt (ints (out ++ ps.map dval)) else .ret ([], false)
 | [], out, h => by rw [rAcc, if_pos ⟨rfl, by simpa using h⟩]; simp
 | p :: ps, out, h => by
  rw [rAcc]
  by_cases hp : arcOk p = true
  ·by_cases h12 : out.length = 12
   ·rw [if_neg (fun h' => h'.2 h12), if_neg (fun h' => by have := h'.2; simp at this; omega)]
   ·rw [if_pos ⟨hp, h12⟩, rAcc_all ps _ (by simp; omega)]
    have e : ((p :: ps).all arcOk = true ∧ out.length + (p :: ps).length ≤ 12) ↔ (ps.all arcOk = true ∧ (out ++ [dval p]).length + ps.length ≤ 12) := by
     rw [List.all_cons, hp, Bool.true_and]; simp; omega
    simp only [e]; simp
  ·rw [if_neg (fun h' => hp h'.1), if_neg (fun h' => hp (by have := h'.1; rw [List.all_cons, Bool.and_eq_true] at this; exact this.1))]
theorem ref_arcs {n : Nat} {s : Bs} (hs : s.length ≤ 100000000) (hn : s.length + 20 ≤ n) : go_certpathref01_arcs n s = some (match tArcs s with | some l => (ints l, true) | none => ([], false)) := by
 unfold go_certpathref01_arcs tArcs
 have h1 := rarcs_l1 (n := n) (by omega) s hs n 0 0 [] (by omega) (by omega) (by omega) (by simp) (by simp; omega)
 rw [show ((0 : Nat) : Int) = 0 from rfl, List.drop_zero, show ints [] = [] from rfl, rAcc_all _ _ (by simp)] at h1
 rw [h1]
 simp only [List.length_nil, Nat.zero_add, List.nil_append]
 by_cases ha : (splitB 46 s).all arcOk = true ∧ (splitB 46 s).length ≤ 12
 ·rw [if_pos ha]
  simp only [ctlB, ints_len, List.length_map]
  by_cases h2 : 2 ≤ (splitB 46 s).length
  ·rw [if_neg (by simp; omega)]
   match hd : (splitB 46 s).map dval with
   | [] => have := congrArg List.length hd; rw [List.length_map, List.length_nil] at this; omega
   | [x] => have := congrArg List.length hd; rw [List.length_map, List.length_singleton] at this; omega
   | a :: b :: l =>
    have k0 : lidx (ints (a :: b :: l)) 0 = some (a : Int) := by simp [lidx, ints]
    have k1 : lidx (ints (a :: b :: l)) 1 = some (b : Int) := by simp [lidx, ints]
    rw [k0, k1]
    simp only [Option.bind_some]
    have hr : (if (decide ((a : Int) > 2)) = true then some true else if (decide ((a : Int) < 2)) = true then some (decide ((b : Int) > 39)) else some false) = some (!rootOk (a :: b :: l)) := by
     show _ = some (!(decide (a ≤ 1) && decide (b ≤ 39) || decide (a = 2)))
     by_cases c1 : 2 < a
     ·rw [if_pos (by simp; omega), decide_eq_false (show ¬ a ≤ 1 by omega), decide_eq_false (show ¬ a = 2 by omega)]; rfl
     ·rw [if_neg (by simp; omega)]
      by_cases c2 : a < 2
      ·rw [if_pos (by simp; omega), decide_eq_true (show a ≤ 1 by omega), decide_eq_false (show ¬ a = 2 by omega)]
       by_cases c3 : b ≤ 39
       ·rw [decide_eq_true c3, decide_eq_false (by omega)]; rfl
       ·rw [decide_eq_false c3, decide_eq_true (by omega)]; rfl
      ·rw [if_neg (by simp; omega), decide_eq_true (show a = 2 by omega)]; simp
    rw [hr]
    simp only [Option.bind_some]
    cases hro : rootOk (a :: b :: l) with
    | true => rw [if_neg (by simp), if_pos ⟨h2, ha.2, ha.1, rfl⟩]
    | false => rw [if_pos (by simp), if_neg (fun h => by have := h.2.2.2; simp at this)]
  ·rw [if_pos (by simp; omega), if_neg (fun h => h2 h.1)]; rfl
 ·rw [if_neg ha, if_neg (fun h => ha ⟨h.2.2.1, h.2.1⟩)]; rfl
theorem ref_ValidOID {n : Nat} {s : Bs} (hs : s.length ≤ 100000000) (hn : s.length + 20 ≤ n) : go_certpathref01_ValidOID n s = some (tArcs s).isSome := by
 unfold go_certpathref01_ValidOID
 rw [ref_arcs hs hn]
 cases tArcs s <;> rfl
def dg (v : Nat) : Nat → List Nat
 | 0 => []
 | g + 1 => (v / 128 ^ g % 128) :: dg v g
def hi (v : Nat) : Nat → List Nat
 | 0 => []
 | g + 1 => (v / 128 ^ (g + 1) % 128 + 128) :: hi v g
def Grp (v g : Nat) : Prop := 1 ≤ g ∧ g ≤ 5 ∧ v / 128 ^ g = 0 ∧ ∀ j, 1 ≤ j → j < g → 0 < v / 128 ^ j
def grp (v : Nat) : Nat := if v < 128 then 1 else if v < 16384 then 2 else if v < 2097152 then 3 else if v < 268435456 then 4 else 5
theorem grp_ok {v : Nat} (h : v < 34359738368) : Grp v (grp v) := by
 have p1 : (128 : Nat) ^ 1 = 128 := rfl
 have p2 : (128 : Nat) ^ 2 = 16384 := rfl
 have p3 : (128 : Nat) ^ 3 = 2097152 := rfl
 have p4 : (128 : Nat) ^ 4 = 268435456 := rfl
 have p5 : (128 : Nat) ^ 5 = 34359738368 := rfl
 have key : ∀ g, 1 ≤ g → g ≤ 5 → v < 128 ^ g → (g = 1 ∨ 128 ^ (g - 1) ≤ v) → Grp v g := by
  intro g h1 h5 hlt hge
  refine ⟨h1, h5, Nat.div_eq_of_lt hlt, fun j j1 jg => ?_⟩
  refine Nat.div_pos ?_ (Nat.pow_pos (by omega))
  rcases hge with rfl | hge
  ·omega
  ·exact Nat.le_trans (Nat.pow_le_pow_right (by omega) (by omega)) hge
 unfold grp
 split
 ·exact key 1 (by omega) (by omega) (by omega) (.inl rfl)
 ·split
  ·exact key 2 (by omega) (by omega) (by omega) (.inr (by simp; omega))
  ·split
   ·exact key 3 (by omega) (by omega) (by omega) (.inr (by simp; omega))
   ·split
    ·exact key 4 (by omega) (by omega) (by omega) (.inr (by simp; omega))
    ·exact key 5 (by omega) (by omega) (by omega) (.inr (by simp; omega))
def encN (v : Nat) : List Nat := hi v (grp v - 1) ++ [v % 128]
def encA (v : Nat) : Bs := (encN v).map o8
theorem hi_len (v g : Nat) : (hi v g).length = g := by induction g <;> simp [hi, *]
theorem dg_len (v g : Nat) : (dg v g).length = g := by induction g <;> simp [dg, *]
theorem encN_len (v : Nat) : (encN v).length ≤ 5 ∧ 1 ≤ (encN v).length := by
 simp only [encN, List.length_append, hi_len, List.length_singleton]
 unfold grp; repeat' split
 all_goals omega
theorem b2s_ints (l : List Nat) : b2s (ints l) = l.map o8 := by
 induction l with
 | nil => rfl
 | cons a r ih =>
  simp only [b2s, ints, List.map_cons] at *
  rw [ih]; simp [o8]
theorem ishr7 {v j : Nat} (hj : j ≤ 8) : ishr .i64 (v : Int) (IntKind.wrap .u64 ((7 : Int) * (IntKind.wrap .u64 (j : Int)))) = some ((v / 128 ^ j : Nat) : Int) := by
 have hw : IntKind.wrap .u64 (j : Int) = (j : Int) := by
  have : j = 0 ∨ j = 1 ∨ j = 2 ∨ j = 3 ∨ j = 4 ∨ j = 5 ∨ j = 6 ∨ j = 7 ∨ j = 8 := by omega
  rcases this with rfl | rfl | rfl | rfl | rfl | rfl | rfl | rfl | rfl <;> rfl
 have hw2 : IntKind.wrap .u64 ((7 : Int) * (j : Int)) = ((7 * j : Nat) : Int) := by
  have : j = 0 ∨ j = 1 ∨ j = 2 ∨ j = 3 ∨ j = 4 ∨ j = 5 ∨ j = 6 ∨ j = 7 ∨ j = 8 := by omega
  rcases this with rfl | rfl | rfl | rfl | rfl | rfl | rfl | rfl | rfl <;> rfl
 rw [hw, hw2]
 unfold ishr
 rw [if_neg (by omega)]
 have hm : min ((7 * j : Nat) : Int).toNat IntKind.i64.bits = 7 * j := by
  rw [Int.toNat_natCast]; show min (7 * j) 64 = 7 * j; omega
 rw [hm]
 have : ((2 : Int) ^ (7 * j)) = ((128 ^ j : Nat) : Int) := by
  rw [show (128 : Nat) = 2 ^ 7 from rfl, ← Nat.pow_mul]; simp
 rw [this, fdivN _ _ (Nat.pow_pos (by omega))]
theorem byteLo {x : Nat} (hx : x < 9223372036854775808) : IntKind.wrap .u8 (iand .i64 (x : Int) 127) = ((x % 128 : Nat) : Int) := by
 rw [show (127 : Int) = ((127 : Nat) : Int) from rfl, iand_nat hx (by omega), show (127 : Nat) = 2 ^ 7 - 1 from rfl, Nat.and_two_pow_sub_one_eq_mod, wr8 (by omega) (by omega)]
theorem byteHi {x : Nat} (hx : x < 9223372036854775808) : IntKind.wrap .u8 (ior .i64 (iand .i64 (x : Int) 127) 128) = ((x % 128 + 128 : Nat) : Int) := by
 rw [show (127 : Int) = ((127 : Nat) : Int) from rfl, iand_nat hx (by omega), show (127 : Nat) = 2 ^ 7 - 1 from rfl, Nat.and_two_pow_sub_one_eq_mod, show (128 : Int) = ((128 : Nat) : Int) from rfl, ior_nat (by omega) (by omega), Nat.or_comm]
 have := Nat.two_pow_add_eq_or_of_lt (i := 7) (b := x % 2 ^ 7) (by omega) 1
 rw [show (2 : Nat) ^ 7 * 1 = 128 from rfl] at this
 rw [← this, wr8 (by omega) (by omega)]
 omega
theorem put_l1 {n v g : Nat} (hg : Grp v g) : ∀ (k j : Nat), 1 ≤ j → j ≤ g → g - j < k → go_oid_put_l1 n (v : Int) k (j : Int) = some (g : Int)
 | 0, _, _, _, h => by omega
 | k + 1, j, h1, h2, h3 => by
  have h5 := hg.2.1
  rw [go_oid_put_l1, ishr7 (by omega)]
  simp only [Option.bind_some]
  by_cases hj : j < g
  ·have := hg.2.2.2 j h1 hj
   rw [if_pos (by rw [decide_eq_true_eq]; omega), w1 (by omega)]
   exact put_l1 hg k (j + 1) (by omega) (by omega) (by omega)
  ·have : j = g := by omega
   subst this
   rw [hg.2.2.1, if_neg (by simp)]
theorem put_l2 {n v : Nat} (hv : v < 9223372036854775808) : ∀ (k i c : Nat) (b : List Int), i ≤ 8 → i < k → b.length = c → c + i ≤ 1000000 → go_oid_put_l2 n (v : Int) k c (i : Int) b = some (c + i, b ++ ints (hi v i))
 | 0, _, _, _, _, h, _, _ => by omega
 | k + 1, 0, c, b, _, _, hb, hc => by rw [go_oid_put_l2, if_neg (by simp)]; simp [hi, ints]
 | k + 1, i + 1, c, b, h8, hk, hb, hc => by
  rw [go_oid_put_l2, if_pos (by simp), ishr7 h8]
  simp only [Option.bind_some]
  rw [byteHi (Nat.lt_of_le_of_lt (Nat.div_le_self _ _) hv)]
  have ho : oapp 1 c b ([((v / 128 ^ (i + 1) % 128 + 128 : Nat) : Int)] : List Int) = some (b ++ [((v / 128 ^ (i + 1) % 128 + 128 : Nat) : Int)]) := by
   unfold oapp; rw [if_pos (by simp; omega)]
  rw [ho, wr64 (by omega), show ((i + 1 : Nat) : Int) - 1 = (i : Int) by omega]
  simp only [Option.bind_some, List.length_singleton]
  rw [put_l2 hv k i (c + 1) _ (by omega) (by omega) (by simp [hb]) (by omega)]
  simp [hi, ints]; omega
theorem oid_put {n v : Nat} (hv : v < 34359738368) (hn : 20 ≤ n) : go_oid_put n (v : Int) = some ((encN v).length, ints (encN v)) := by
 have hg := grp_ok hv
 have h5 := hg.2.1
 have h1 := hg.1
 unfold go_oid_put
 have e1 := put_l1 (n := n) hg n 1 (by omega) hg.1 (by omega)
 rw [show ((1 : Nat) : Int) = 1 from rfl] at e1
 rw [e1]
 simp only [Option.bind_some]
 rw [wr64 (by omega), show ((grp v : Nat) : Int) - 1 = ((grp v - 1 : Nat) : Int) by omega, put_l2 (by omega) n (grp v - 1) 0 [] (by omega) (by omega) rfl (by omega)]
 simp only [Option.bind_some, List.nil_append]
 rw [byteLo (by omega)]
 have ho : oapp 1 (0 + (grp v - 1)) (ints (hi v (grp v - 1))) ([((v % 128 : Nat) : Int)] : List Int) = some (ints (encN v)) := by
  unfold oapp; rw [if_pos (by simp [ints_len, hi_len]; omega)]; simp [ints, encN]
 rw [ho]
 simp [encN, hi_len]
theorem put2_l1 {n : Nat} (a : Int) : ∀ (k : Nat) (v : Int), go_oid_put_2_l1 n a k v = go_oid_put_l1 n a k v
 | 0, v => rfl
 | k + 1, v => by rw [go_oid_put_2_l1, go_oid_put_l1]; simp only [put2_l1 a k]
theorem put2_l2 {n : Nat} (a : Int) : ∀ (k c : Nat) (v : Int) (b : List Int), go_oid_put_2_l2 n a k c v b = go_oid_put_l2 n a k c v b
 | 0, _, _, _ => rfl
 | k + 1, c, v, b => by rw [go_oid_put_2_l2, go_oid_put_l2]; simp only [put2_l2 a k]
theorem oid_put_2 {n v c : Nat} {m : List Int} (hv : v < 34359738368) (hn : 20 ≤ n) (hm : m.length = c) (hc : c ≤ 100000) : go_oid_put_2 n c (v : Int) m = some (c + (encN v).length, m ++ ints (encN v)) := by
 have hg := grp_ok hv
 have h5 := hg.2.1
 have h1 := hg.1
 unfold go_oid_put_2
 have e1 := put_l1 (n := n) hg n 1 (by omega) hg.1 (by omega)
 rw [show ((1 : Nat) : Int) = 1 from rfl] at e1
 rw [put2_l1, e1]
 simp only [Option.bind_some, put2_l2]
 rw [wr64 (by omega), show ((grp v : Nat) : Int) - 1 = ((grp v - 1 : Nat) : Int) by omega, put_l2 (by omega) n (grp v - 1) c m (by omega) (by omega) hm (by omega)]
 simp only [Option.bind_some]
 rw [byteLo (by omega)]
 have ho : oapp 1 (c + (grp v - 1)) (m ++ ints (hi v (grp v - 1))) ([((v % 128 : Nat) : Int)] : List Int) = some (m ++ ints (encN v)) := by
  unfold oapp; rw [if_pos (by simp [ints_len, hi_len]; omega)]; simp [ints, encN]
 rw [ho]
 simp [encN, hi_len]; omega
def nums (l : List Nat) : List Nat := match l with
 | a :: b :: r => (40 * a + b) :: r
 | _ => []
def encO (l : List Nat) : Bs := ((nums l).map encA).flatten
theorem oid_Encode_l1 {n : Nat} (hn : 20 ≤ n) (r : List Nat) (hr : ∀ x ∈ r, x < 34359738368) (hl : r.length ≤ 1000) : ∀ (k : Nat) (pre suf : List Nat) (m : List Int), r = pre ++ suf → suf.length < k → m.length ≤ 5 + 5 * pre.length →
  go_oid_Encode_l1 n (ints r) k m.length (pre.length : Int) m = some (m.length + ((suf.map encN).flatten).length, m ++ ints ((suf.map encN).flatten))
 | 0, _, _, _, _, h, _ => by omega
 | k + 1, pre, [], m, hp, hk, hm => by
  simp at hp; subst hp
  rw [go_oid_Encode_l1, if_neg (by simp [ints_len])]
  simp [ints]
 | k + 1, pre, x :: suf, m, hp, hk, hm => by
  have hlen : r.length = pre.length + (suf.length + 1) := by rw [hp]; simp
  have hx : lidx (ints r) (pre.length : Int) = some (x : Int) := by
   rw [lidx_nat (by rw [ints_len]; omega)]; congr 1; simp [ints, hp]
  have hxv := hr x (by rw [hp]; simp)
  have h5 := encN_len x
  rw [go_oid_Encode_l1, if_pos (by simp [ints_len]; omega), hx]
  simp only [Option.bind_some]
  rw [oid_put_2 hxv hn rfl (by omega)]
  simp only [Option.bind_some]
  rw [w1 (by omega)]
  have ih := oid_Encode_l1 hn r hr hl k (pre ++ [x]) suf (m ++ ints (encN x)) (by rw [hp]; simp) (by simp at hk; omega) (by simp [ints_len]; omega)
  rw [List.length_append, ints_len] at ih
  rw [show pre.length + 1 = (pre ++ [x]).length by simp, ih]
  simp [ints, Nat.add_assoc]
theorem encO_eq (l : List Nat) : b2s (ints (((nums l).map encN).flatten)) = encO l := by
 rw [b2s_ints]
 unfold encO
 generalize nums l = q
 induction q with
 | nil => rfl
 | cons a r ih => simp only [List.map_cons, List.flatten_cons, List.map_append, ih]; rfl
def ArcsOk (l : List Nat) : Prop := 2 ≤ l.length ∧ l.length ≤ 12 ∧ rootOk l = true ∧ ∀ x ∈ l, x ≤ 2147483647
theorem tArcs_ok {s : Bs} {l : List Nat} (h : tArcs s = some l) : ArcsOk l := by
 unfold tArcs at h
 split at h
 ·rename_i hc
  injection h with h; subst h
  refine ⟨by simp; exact hc.1, by simp; exact hc.2.1, hc.2.2.2, ?_⟩
  intro x hx
  obtain ⟨p, hp, rfl⟩ := List.mem_map.1 hx
  exact ((arcOk_iff p).1 (List.all_eq_true.1 hc.2.2.1 p hp)).2.2.2.2
 ·cases h
theorem onE_some {α β : Type} {x : β} {a : Option α} {b : β → Option α} : onE (some x) a b = b x := rfl
theorem two_of {l : List Nat} (h : 2 ≤ l.length) : ∃ a b r, l = a :: b :: r := by
 match l, h with
 | [], h => simp at h
 | [_], h => simp at h
 | a :: b :: r, _ => exact ⟨a, b, r, rfl⟩
theorem oid_Encode {n : Nat} {s : Bs} {l : List Nat} (hs : s.length ≤ 100000000) (hn : s.length + 40 ≤ n) (h : tArcs s = some l) : go_oid_Encode n s = some (encO l, 0) := by
 obtain ⟨h2, h12, hr, hb⟩ := tArcs_ok h
 obtain ⟨a, b, r, rfl⟩ := two_of h2
 have ha := hb a (by simp)
 have hbb := hb b (by simp)
 have ha2 : a ≤ 2 := by
  simp only [rootOk, Bool.or_eq_true, Bool.and_eq_true, decide_eq_true_eq] at hr; omega
 unfold go_oid_Encode
 rw [oid_arcs hs (by omega), h]
 rw [Option.map_some, Option.bind_some, onE_some, Option.bind_some]
 have k0 : lidx (ints (a :: b :: r)) 0 = some (a : Int) := by simp [lidx, ints]
 have k1 : lidx (ints (a :: b :: r)) 1 = some (b : Int) := by simp [lidx, ints]
 have k2 : lsl (ints (a :: b :: r)) 2 ((ints (a :: b :: r)).length : Nat) = some (ints r) := by
  unfold lsl; rw [if_pos (by simp [ints_len]; omega), Int.toNat_natCast, List.take_length]; rfl
 rw [show lne (ints (a :: b :: r)) = some () from rfl, k0, k1]
 simp only [Option.bind_some]
 have e1 : IntKind.wrap .i64 (IntKind.wrap .i64 ((40 : Int) * (a : Int)) + (b : Int)) = ((40 * a + b : Nat) : Int) := by
  rw [wr64 (x := (40 : Int) * (a : Int)) (by omega), wr64 (by omega)]; omega
 rw [e1, oid_put (by omega) (by omega), k2]
 simp only [Option.bind_some]
 have h5 := encN_len (40 * a + b)
 simp only [List.length_cons] at h12
 have hl := oid_Encode_l1 (n := n) (by omega) r (fun x hx => by have := hb x (by simp [hx]); omega) (by omega) n [] r (ints (encN (40 * a + b))) rfl (by omega) (by simp [ints_len]; omega)
 rw [ints_len] at hl
 rw [show (0 : Int) = ((([] : List Nat).length : Nat) : Int) from rfl, hl]
 simp only [Option.bind_some]
 have e2 : ints (encN (40 * a + b)) ++ ints ((r.map encN).flatten) = ints (((nums (a :: b :: r)).map encN).flatten) := by simp [nums, ints]
 rw [e2]
 have e3 : ob2s ((encN (40 * a + b)).length + ((r.map encN).flatten).length) (ints (((nums (a :: b :: r)).map encN).flatten)) = some (encO (a :: b :: r)) := by
  unfold ob2s
  have hlen : (ints (((nums (a :: b :: r)).map encN).flatten)).length = (encN (40 * a + b)).length + ((r.map encN).flatten).length := by
   rw [← e2, List.length_append, ints_len, ints_len]
  rw [if_pos (by rw [hlen]; exact Nat.le_refl _), ← hlen, List.take_length, encO_eq]
 rw [e3]; rfl
theorem tdivN (v : Nat) : Int.tdiv (v : Int) 128 = ((v / 128 : Nat) : Int) := by
 rw [show (128 : Int) = ((128 : Nat) : Int) from rfl]; exact (Int.ofNat_tdiv v 128).symm
theorem tmodN (v : Nat) : Int.tmod (v : Int) 128 = ((v % 128 : Nat) : Int) := by
 rw [show (128 : Int) = ((128 : Nat) : Int) from rfl]; exact (Int.ofNat_tmod v 128).symm
theorem ofrz_all (l : List Int) : ofrz l.length l = some l := by unfold ofrz; rw [if_pos (Nat.le_refl _), List.take_length]
theorem ref_l2 {n v g : Nat} (hv : v < 34359738368) (hg : Grp v g) : ∀ (k i : Nat), i < g → g - i ≤ k →
  go_certpathref01_EncodeOID_l2 n k ((v / 128 ^ i : Nat) : Int) i (ints (dg v i)) = some (g, ints (dg v g))
 | 0, i, h, hk => by omega
 | k + 1, i, h, hk => by
  have h5 := hg.2.1
  have hvi : v / 128 ^ i < 34359738368 := Nat.lt_of_le_of_lt (Nat.div_le_self _ _) hv
  have hd : v / 128 ^ i / 128 = v / 128 ^ (i + 1) := by rw [Nat.div_div_eq_div_mul, Nat.pow_succ]
  have hw : IntKind.wrap .i64 (Int.tdiv ((v / 128 ^ i : Nat) : Int) 128) = ((v / 128 ^ (i + 1) : Nat) : Int) := by
   have hvj : v / 128 ^ (i + 1) < 34359738368 := Nat.lt_of_le_of_lt (Nat.div_le_self _ _) hv
   rw [tdivN, hd, wr64 (by generalize v / 128 ^ (i + 1) = q at hvj ⊢; omega)]
  have hw8 : IntKind.wrap .u8 (Int.tmod ((v / 128 ^ i : Nat) : Int) 128) = ((v / 128 ^ i % 128 : Nat) : Int) := by
   rw [tmodN, wr8 (by omega) (by omega)]
  have hnx : (if (((v / 128 ^ (i + 1) : Nat) : Int) == 0) = true then some (i + 1, ints (dg v (i + 1))) else go_certpathref01_EncodeOID_l2 n k ((v / 128 ^ (i + 1) : Nat) : Int) (i + 1) (ints (dg v (i + 1)))) = some (g, ints (dg v g)) := by
   by_cases hj : i + 1 < g
   ·have := hg.2.2.2 (i + 1) (by omega) hj
    rw [if_neg (by rw [beq_iff_eq]; generalize v / 128 ^ (i + 1) = q at this ⊢; omega)]
    rw [ref_l2 hv hg k (i + 1) hj (by omega)]
   ·have : i + 1 = g := by omega
    subst this
    rw [hg.2.2.1, if_pos (by simp)]
  rw [go_certpathref01_EncodeOID_l2]
  have e0 : ofrz i (ints (dg v i)) = some (ints (dg v i)) := by
   have := ofrz_all (ints (dg v i)); rwa [ints_len, dg_len] at this
  rw [e0]
  simp only [Option.bind_some, hw, hw8]
  match i, h, hk, hnx with
  | 0, h, hk, hnx =>
   rw [if_pos (show List.isEmpty (ints (dg v 0)) = true from rfl)]
   exact hnx
  | i + 1, h, hk, hnx =>
   rw [if_neg (by simp [dg, ints])]
   have ho : oapp 1 1 ([((v / 128 ^ (i + 1) % 128 : Nat) : Int)] : List Int) (ints (dg v (i + 1))) = some (ints (dg v (i + 1 + 1))) := by
    unfold oapp; rw [if_pos (by simp [ints_len, dg_len]; omega)]; rfl
   rw [ho]
   simp only [Option.bind_some, ints_len, dg_len]
   rw [show 1 + (i + 1) = i + 1 + 1 by omega]
   exact hnx
def lo (v : Nat) : Nat → List Nat
 | 0 => []
 | g + 1 => (v / 128 ^ (g + 1) % 128) :: lo v g
theorem dg_lo (v : Nat) : ∀ g, dg v (g + 1) = lo v g ++ [v % 128]
 | 0 => by simp [dg, lo]
 | g + 1 => by rw [dg, dg_lo v g]; rfl
theorem hi_lo (v : Nat) : ∀ g, hi v g = (lo v g).map (· + 128)
 | 0 => rfl
 | g + 1 => by rw [hi, hi_lo v g]; rfl
theorem lo_lt (v : Nat) : ∀ g, ∀ x ∈ lo v g, x < 128
 | 0, x, h => by simp [lo] at h
 | g + 1, x, h => by
  simp only [lo, List.mem_cons] at h
  rcases h with rfl | h
  ·omega
  ·exact lo_lt v g x h
theorem lo_len (v g : Nat) : (lo v g).length = g := by induction g <;> simp [lo, *]
theorem ref_l3 {n g : Nat} (q : List Int) (x : Nat) (hg5 : g ≤ 1000) : ∀ (k : Nat) (a b : List Nat), (∀ y ∈ b, y < 128) → a.length + b.length + 1 = g → b.length < k →
  go_certpathref01_EncodeOID_l3 n (g, q) k (a.length : Int) (ints (a ++ b ++ [x])) = some (ints (a ++ b.map (· + 128) ++ [x]))
 | 0, a, b, _, _, h => by omega
 | k + 1, a, [], _, hg, _ => by
  simp at hg
  rw [go_certpathref01_EncodeOID_l3, w1 (by omega), if_neg (by simp; omega)]
  simp
 | k + 1, a, y :: b, hy, hg, hk => by
  simp only [List.length_cons] at hg hk
  have hy0 := hy y (by simp)
  have ho : oidx g (a.length : Int) = some a.length := by unfold oidx; rw [if_pos (by omega), Int.toNat_natCast]
  have hge : (ints (a ++ y :: b ++ [x]))[a.length * 1]? = some (y : Int) := by
   simp [ints]
  rw [go_certpathref01_EncodeOID_l3, w1 (by omega), if_pos (by simp; omega)]
  simp only [ho, Option.bind_some, hge]
  rw [wr8 (by omega) (by omega)]
  have hs : lset (ints (a ++ y :: b ++ [x])) (a.length * 1) ((y : Int) + 128) = some (ints ((a ++ [y + 128]) ++ b ++ [x])) := by
   unfold lset
   rw [if_pos (by simp [ints_len])]
   simp [ints, List.set_append]
  rw [hs]
  simp only [Option.bind_some]
  have ih := ref_l3 (n := n) q x hg5 k (a ++ [y + 128]) b (fun z hz => hy z (by simp [hz])) (by simp; omega) (by omega)
  rw [show ((a ++ [y + 128]).length : Int) = ((a.length + 1 : Nat) : Int) by simp] at ih
  rw [ih]
  simp
theorem ref_one {n v : Nat} (hv : v < 34359738368) (hn : 20 ≤ n) : (go_certpathref01_EncodeOID_l2 n n (v : Int) 0 ([] : List Int)).bind (fun y1414 =>
  (go_certpathref01_EncodeOID_l3 n y1414 n 0 y1414.2).bind fun y1452 => ofrz y1414.1 y1452) = some (ints (encN v)) := by
 have hg := grp_ok hv
 have h5 := hg.2.1
 have h1 := hg.1
 have e := ref_l2 (n := n) hv hg n 0 (by omega) (by omega)
 rw [Nat.pow_zero, Nat.div_one, show ints (dg v 0) = [] from rfl] at e
 rw [e]
 simp only [Option.bind_some]
 obtain ⟨g', hg'⟩ : ∃ g', grp v = g' + 1 := ⟨grp v - 1, by omega⟩
 have e3 := ref_l3 (n := n) (g := grp v) (ints (dg v (grp v))) (v % 128) (by omega) n [] (lo v g') (lo_lt v g') (by simp [lo_len, hg']) (by simp [lo_len]; omega)
 rw [List.nil_append, ← dg_lo, ← hg', List.nil_append, ← hi_lo, show (([] : List Nat).length : Int) = 0 from rfl] at e3
 rw [e3]
 simp only [Option.bind_some]
 have hen : hi v g' ++ [v % 128] = encN v := by unfold encN; rw [hg']; rfl
 rw [hen]
 have hl : (encN v).length = grp v := by unfold encN; simp [hi_len]; omega
 have := ofrz_all (ints (encN v))
 rwa [ints_len, hl] at this
theorem ref_E_l1 {n : Nat} (hn : 20 ≤ n) (r : List Nat) (hr : ∀ x ∈ r, x < 34359738368) (hl : r.length ≤ 1000) : ∀ (k : Nat) (pre suf : List Nat) (m : List Int), r = pre ++ suf → suf.length < k → m.length ≤ 5 + 5 * pre.length →
  go_certpathref01_EncodeOID_l1 n (ints r) k m.length (pre.length : Int) m = some (m.length + ((suf.map encN).flatten).length, m ++ ints ((suf.map encN).flatten))
 | 0, _, _, _, _, h, _ => by omega
 | k + 1, pre, [], m, hp, hk, hm => by
  simp at hp; subst hp
  rw [go_certpathref01_EncodeOID_l1, if_neg (by simp [ints_len])]
  simp [ints]
 | k + 1, pre, x :: suf, m, hp, hk, hm => by
  have hlen : r.length = pre.length + (suf.length + 1) := by rw [hp]; simp
  have hx : lidx (ints r) (pre.length : Int) = some (x : Int) := by
   rw [lidx_nat (by rw [ints_len]; omega)]; congr 1; simp [ints, hp]
  have hxv := hr x (by rw [hp]; simp)
  have h5 := encN_len x
  have h1 := ref_one (n := n) hxv hn
  obtain ⟨y1, e1, h1⟩ := bindE h1
  obtain ⟨y2, e2, h1⟩ := bindE h1
  rw [go_certpathref01_EncodeOID_l1, if_pos (by simp [ints_len]; omega), hx, Option.bind_some, e1, Option.bind_some, e2, Option.bind_some, h1, Option.bind_some]
  have hne : List.isEmpty (ints (encN x)) = false := by
   match he : encN x, h5 with
   | [], h5 => simp at h5
   | _ :: _, _ => rfl
  rw [hne, if_neg (by simp)]
  have ho : oapp 1 m.length m (ints (encN x)) = some (m ++ ints (encN x)) := by
   unfold oapp; rw [if_pos (by rw [ints_len]; exact ⟨rfl, by omega, by omega⟩)]
  rw [ho]
  simp only [Option.bind_some]
  rw [w1 (by omega)]
  have ih := ref_E_l1 hn r hr hl k (pre ++ [x]) suf (m ++ ints (encN x)) (by rw [hp]; simp) (by simp at hk; omega) (by simp [ints_len]; omega)
  rw [List.length_append] at ih
  rw [show pre.length + 1 = (pre ++ [x]).length by simp, ih]
  simp [ints, Nat.add_assoc]
theorem ref_EncodeOID {n : Nat} {s : Bs} {l : List Nat} (hs : s.length ≤ 100000000) (hn : s.length + 40 ≤ n) (h : tArcs s = some l) : go_certpathref01_EncodeOID n s = some (encO l, 0) := by
 obtain ⟨h2, h12, hr, hb⟩ := tArcs_ok h
 obtain ⟨a, b, r, rfl⟩ := two_of h2
 have ha := hb a (by simp)
 have hbb := hb b (by simp)
 have ha2 : a ≤ 2 := by
  simp only [rootOk, Bool.or_eq_true, Bool.and_eq_true, decide_eq_true_eq] at hr; omega
 simp only [List.length_cons] at h12
 unfold go_certpathref01_EncodeOID
 rw [ref_arcs hs (by omega), h, Option.bind_some]
 simp only []
 rw [if_neg (by simp)]
 have k0 : lidx (ints (a :: b :: r)) 0 = some (a : Int) := by simp [lidx, ints]
 have k1 : lidx (ints (a :: b :: r)) 1 = some (b : Int) := by simp [lidx, ints]
 have k2 : lsl (ints (a :: b :: r)) 2 ((ints (a :: b :: r)).length : Nat) = some (ints r) := by
  unfold lsl; rw [if_pos (by simp [ints_len]; omega), Int.toNat_natCast, List.take_length]; rfl
 rw [k0, k1, k2]
 simp only [Option.bind_some]
 have e1 : IntKind.wrap .i64 (IntKind.wrap .i64 ((40 : Int) * (a : Int)) + (b : Int)) = ((40 * a + b : Nat) : Int) := by
  rw [wr64 (x := (40 : Int) * (a : Int)) (by omega), wr64 (by omega)]; omega
 rw [e1]
 have ey : (if List.isEmpty (ints r) = true then some ([((40 * a + b : Nat) : Int)] : List Int) else (lappx 8 ([((40 * a + b : Nat) : Int)] : List Int) (ints r)).bind fun x5 => some x5) = some (ints (nums (a :: b :: r))) := by
  match r with
  | [] => rfl
  | c :: r =>
   rw [if_neg (by simp [ints])]
   unfold lappx
   simp only [List.length_cons] at h12
   rw [if_pos (by simp [ints_len]; omega)]; rfl
 rw [ey, Option.bind_some]
 have hl := ref_E_l1 (n := n) (by omega) (nums (a :: b :: r)) (fun x hx => by
  simp only [nums, List.mem_cons] at hx
  rcases hx with rfl | hx
  ·omega
  ·have := hb x (by simp [hx]); omega) (by simp [nums]; omega) n [] (nums (a :: b :: r)) [] rfl (by simp [nums]; omega) (by simp)
 rw [show ((([] : List Nat).length : Nat) : Int) = 0 from rfl, List.length_nil, List.nil_append, Nat.zero_add] at hl
 rw [hl, Option.bind_some]
 have e3 : ob2s (((nums (a :: b :: r)).map encN).flatten).length (ints (((nums (a :: b :: r)).map encN).flatten)) = some (encO (a :: b :: r)) := by
  unfold ob2s
  have hlen := ints_len (((nums (a :: b :: r)).map encN).flatten)
  rw [if_pos (by rw [hlen]; exact Nat.le_refl _), ← hlen, List.take_length, encO_eq]
 simp only []
 rw [e3]; rfl
end Go.Abs
end
