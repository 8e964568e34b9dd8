/- The typed Lean form of WireFounds gives true for every list of at most 9223372036854775807 numbers and every value found. -/
import Derived.Test.YtbggpcnbbhjiaaaGreatDoorLaw2
set_option linter.unusedVariables false
set_option linter.unusedSimpArgs false
set_option linter.unnecessarySimpa false
section
set_option maxRecDepth 100000
namespace Go.Abs
open Go Go.Proofs
theorem dval_snoc (q : Bs) (c : UInt8) : dval (q ++ [c]) = 10 * dval q + (c.toNat - 48) := by simp [dval]
theorem u8_dig {c : UInt8} (h : digC c = true) : UInt8.ofNat (48 + (c.toNat - 48)) = c := by
 simp only [digC, Bool.and_eq_true, decide_eq_true_eq] at h
 rw [show 48 + (c.toNat - 48) = c.toNat by omega]; exact UInt8.ofNat_toNat
theorem canon : ∀ (k : Nat) (p : Bs), p.length = k + 1 → p.all digC = true → p.head? ≠ some 48 → Lib.decDigits (dval p) = p ∧ 1 ≤ dval p
 | 0, p, hl, hd, hh => by
  match p, hl with
  | [c], _ =>
   simp only [List.all_cons, List.all_nil, Bool.and_true] at hd
   have e : dval [c] = c.toNat - 48 := by simp [dval]
   have h2 := hd
   simp only [digC, Bool.and_eq_true, decide_eq_true_eq] at h2
   rw [e, Lib.decDigits_one (by omega), u8_dig hd]
   refine ⟨rfl, ?_⟩
   have : c.toNat ≠ 48 := fun h => hh (by rw [List.head?_cons, ← UInt8.ofNat_toNat (x := c), h]; rfl)
   omega
 | k + 1, p, hl, hd, hh => by
  obtain ⟨q, c, rfl⟩ : ∃ q c, p = q ++ [c] := ⟨p.dropLast, p.getLast (by intro h; rw [h] at hl; simp at hl), (List.dropLast_concat_getLast _).symm⟩
  simp only [List.length_append, List.length_singleton] at hl
  rw [List.all_append] at hd
  simp only [List.all_cons, List.all_nil, Bool.and_true, Bool.and_eq_true] at hd
  have hq : q.head? ≠ some 48 := by
   match q, hl with
   | x :: q, _ => simpa using hh
  obtain ⟨ih1, ih2⟩ := canon k q (by omega) hd.1 hq
  have h2 := hd.2
  simp only [digC, Bool.and_eq_true, decide_eq_true_eq] at h2
  rw [dval_snoc]
  refine ⟨?_, by omega⟩
  rw [Lib.decDigits, dif_neg (by omega), show (10 * dval q + (c.toNat - 48)) / 10 = dval q by omega, show (10 * dval q + (c.toNat - 48)) % 10 = c.toNat - 48 by omega, ih1, u8_dig hd.2]
theorem arc_canon {p : Bs} (h : arcOk p = true) : Lib.decDigits (dval p) = p := by
 obtain ⟨h1, h2, h3, h4, h5⟩ := (arcOk_iff p).1 h
 by_cases hh : p.head? = some 48
 ·have : p.length ≤ 1 := by
   apply Decidable.byContradiction; intro hc; exact h3 ⟨by omega, hh⟩
  match p, h1, this, hh with
  | [c], _, _, hh => simp at hh; subst hh; rw [show dval [48] = 0 from rfl]; exact Lib.decDigits_one (by omega)
 ·match p, h1, hh, h4 with
  | c :: r, _, hh, h4 => exact (canon r.length (c :: r) rfl h4 hh).1
def dots (l : List Nat) : Bs := Lib.join (l.map fun a => Lib.decDigits a) [46]
theorem join_split (c : UInt8) : ∀ s : Bs, Lib.join (splitB c s) [c] = s
 | [] => Lib.join_one _ _
 | x :: r => by
  have ih := join_split c r
  rw [splitB]
  split
  ·rename_i h
   subst h
   match hs : splitB x r, splitB_ne x r, ih with
   | p :: ps, _, ih =>
    rw [Lib.join_cons] at ih ⊢
    rw [List.nil_append]
    show [x] ++ p ++ Lib.joinTail [x] ps = _
    rw [List.append_assoc, ih]; rfl
  ·match hs : splitB c r, splitB_ne c r, ih with
   | p :: ps, _, ih =>
    rw [Lib.join_cons] at ih
    show Lib.join ((x :: p) :: ps) [c] = _
    rw [Lib.join_cons, List.cons_append, ih]
theorem tArcs_dots {s : Bs} {l : List Nat} (h : tArcs s = some l) : dots l = s := by
 unfold tArcs at h
 split at h
 ·rename_i hc
  injection h with h; subst h
  unfold dots
  rw [List.map_map]
  have : (splitB 46 s).map ((fun a => Lib.decDigits a) ∘ dval) = splitB 46 s := by
   have hall := List.all_eq_true.1 hc.2.2.1
   generalize splitB 46 s = ps at hall ⊢
   induction ps with
   | nil => rfl
   | cons p r ih =>
    rw [List.map_cons, ih (fun x hx => hall x (by simp [hx]))]
    rw [Function.comp, arc_canon (hall p (by simp))]
  rw [this, join_split]
 ·cases h
theorem dec_len {u : Nat} (h : u < 18446744073709551616) : (Lib.decDigits u).length ≤ 20 := by
 rw [Lib.decDigits_length]; exact Lib.nDigits_le20 u h
theorem joinT_len (sep : Bs) (b : Nat) : ∀ l : List Bs, (∀ x ∈ l, x.length ≤ b) → (Lib.joinTail sep l).length ≤ l.length * (sep.length + b)
 | [], _ => by simp [Lib.joinTail]
 | x :: r, h => by
  have h1 := h x (by simp)
  have ih := joinT_len sep b r (fun y hy => h y (by simp [hy]))
  have e : Lib.joinTail sep (x :: r) = sep ++ x ++ Lib.joinTail sep r := by simp [Lib.joinTail]
  rw [e, List.length_append, List.length_append, List.length_cons, Nat.succ_mul]; omega
theorem join_len {sep : Bs} {b : Nat} {l : List Bs} (h : ∀ x ∈ l, x.length ≤ b) : (Lib.join l sep).length ≤ l.length * (sep.length + b) := by
 match l, h with
 | [], _ => simp [Lib.join_nil]
 | x :: r, h =>
  have h1 := h x (by simp)
  have ih := joinT_len sep b r (fun y hy => h y (by simp [hy]))
  rw [Lib.join_cons, List.length_append, List.length_cons, Nat.succ_mul]; omega
theorem num_val {v : Nat} (c : UInt8) (hv : v ≤ 4294967294) : ior .i64 (IntKind.wrap .i64 ((v : Int) * 128)) (iand .i64 (IntKind.wrap .i64 (c.toNat : Int)) 127) = ((128 * v + c.toNat % 128 : Nat) : Int) := by
 have hc := b_lt c
 rw [wr64 (x := (v : Int) * 128) (by omega), wr64 (x := (c.toNat : Int)) (by omega), show (127 : Int) = ((127 : Nat) : Int) from rfl, iand_nat (by omega) (by omega), show (127 : Nat) = 2 ^ 7 - 1 from rfl, Nat.and_two_pow_sub_one_eq_mod,
  show (v : Int) * 128 = ((2 ^ 7 * v : Nat) : Int) by omega]
 exact ior_mul (i := 7) (by omega) (by omega)
theorem num_l2 {n : Nat} (b : Bs) (acc : List Int) (i k v : Nat) (hv : v ≤ 4294967294) (hi : i < b.length) (hb : b.length ≤ 1000000000) (ha : acc.length ≤ 1000000000) :
  go_oid_numbers_l2 n b acc (k + 1) (i : Int) (v : Int) = if 4294967294 < 128 * v + b[i].toNat % 128 then some (.ret []) else if b[i].toNat < 128 then some (.nxt (acc ++ [((128 * v + b[i].toNat % 128 : Nat) : Int)], ((i + 1 : Nat) : Int))) else go_oid_numbers_l2 n b acc k ((i + 1 : Nat) : Int) ((128 * v + b[i].toNat % 128 : Nat) : Int) := by
 have hc := b_lt b[i]
 rw [go_oid_numbers_l2, if_pos (by simp; omega), bidx_nat hi, Option.bind_some, num_val _ hv]
 have hw : IntKind.wrap .i64 (b[i].toNat : Int) = (b[i].toNat : Int) := wr64 (by omega)
 rw [w1 (by omega), hw]
 by_cases h1 : 4294967294 < 128 * v + b[i].toNat % 128
 ·rw [if_pos h1, if_pos (by rw [decide_eq_true_eq]; omega)]
 ·rw [if_neg h1, if_neg (by rw [decide_eq_true_eq]; omega)]
  by_cases h2 : b[i].toNat < 128
  ·rw [if_pos h2, if_pos (by rw [decide_eq_true_eq]; omega), lapp_some (by simp; omega)]; rfl
  ·rw [if_neg h2, if_neg (by rw [decide_eq_true_eq]; omega)]
theorem num_l2_tot {n : Nat} (b : Bs) (acc : List Int) (hb : b.length ≤ 1000000000) (ha : acc.length ≤ 1000000000) : ∀ (k i v : Nat), v ≤ 4294967294 → i ≤ b.length → b.length - i < k →
  go_oid_numbers_l2 n b acc k (i : Int) (v : Int) = some (.ret []) ∨ ∃ x j : Nat, go_oid_numbers_l2 n b acc k (i : Int) (v : Int) = some (.nxt (acc ++ [(x : Int)], (j : Int))) ∧ x ≤ 4294967294 ∧ i < j ∧ j ≤ b.length
 | 0, _, _, _, _, h => by omega
 | k + 1, i, v, hv, hi, hk => by
  by_cases hc : i < b.length
  ·rw [num_l2 b acc i k v hv hc hb ha]
   by_cases h1 : 4294967294 < 128 * v + b[i].toNat % 128
   ·rw [if_pos h1]; exact .inl rfl
   ·rw [if_neg h1]
    by_cases h2 : b[i].toNat < 128
    ·rw [if_pos h2]; exact .inr ⟨_, _, rfl, by omega, by omega, by omega⟩
    ·rw [if_neg h2]
     rcases num_l2_tot b acc hb ha k (i + 1) (128 * v + b[i].toNat % 128) (by omega) (by omega) (by omega) with h | ⟨x, j, h, a1, a2, a3⟩
     ·exact .inl h
     ·exact .inr ⟨x, j, h, a1, by omega, a3⟩
  ·rw [go_oid_numbers_l2, if_neg (by simp; omega)]; exact .inl rfl
theorem num_l1_tot {n : Nat} (b : Bs) (hb : b.length ≤ 500000000) (hn : b.length + 2 ≤ n) : ∀ (k i : Nat) (acc : List Nat), i ≤ b.length → b.length - i < k → acc.length ≤ i → (∀ x ∈ acc, x ≤ 4294967294) →
  go_oid_numbers_l1 n b k (ints acc) (i : Int) = some (.ret []) ∨ ∃ l : List Nat, go_oid_numbers_l1 n b k (ints acc) (i : Int) = some (.nxt (ints l)) ∧ (∀ x ∈ l, x ≤ 4294967294) ∧ l.length ≤ b.length
 | 0, _, _, _, h, _, _ => by omega
 | k + 1, i, acc, hi, hk, ha, hq => by
  rw [go_oid_numbers_l1]
  by_cases hc : i < b.length
  ·rw [if_pos (by simp; omega), bidx_nat hc, Option.bind_some]
   by_cases h8 : (((b[i].toNat : Int)) == 128) = true
   ·rw [if_pos h8]; exact .inl rfl
   ·rw [if_neg h8]
    have h0 := num_l2_tot (n := n) b (ints acc) (by omega) (by rw [ints_len]; omega) n i 0 (by omega) hi (by omega)
    rw [show ((0 : Nat) : Int) = 0 from rfl] at h0
    rcases h0 with h | ⟨x, j, h, a1, a2, a3⟩
    ·rw [h]; exact .inl rfl
    ·rw [h]
     have := num_l1_tot b hb hn k j (acc ++ [x]) a3 (by omega) (by simp; omega) (by
      intro y hy; rw [List.mem_append] at hy
      rcases hy with hy | hy
      ·exact hq y hy
      ·simp at hy; subst hy; exact a1)
     rw [show ints (acc ++ [x]) = ints acc ++ [(x : Int)] by simp [ints]] at this
     exact this
  ·rw [if_neg (by simp; omega)]
   exact .inr ⟨acc, rfl, hq, by omega⟩
theorem numbers_tot {n : Nat} (b : Bs) (hb : b.length ≤ 500000000) (hn : b.length + 2 ≤ n) : ∃ l : List Nat, go_oid_numbers n b = some (ints l) ∧ (∀ x ∈ l, x ≤ 4294967294) ∧ l.length ≤ b.length := by
 unfold go_oid_numbers
 have h := num_l1_tot b hb hn n 0 [] (by omega) (by omega) (by simp) (by simp)
 rw [show ((0 : Nat) : Int) = 0 from rfl, show ints [] = [] from rfl] at h
 rcases h with h | ⟨l, h, h1, h2⟩
 ·rw [h]; exact ⟨[], rfl, by simp, by simp⟩
 ·rw [h]; exact ⟨l, rfl, h1, h2⟩
theorem num_back {n : Nat} (b : Bs) (acc : List Int) (hb : b.length ≤ 1000000000) (ha : acc.length ≤ 1000000000) {v : Nat} (hv : v ≤ 4294967294) : ∀ (g k i : Nat) (rest : Bs), g < k → b.drop i = (hi v g ++ [v % 128]).map o8 ++ rest →
  go_oid_numbers_l2 n b acc k (i : Int) ((v / 128 ^ (g + 1) : Nat) : Int) = some (.nxt (acc ++ [(v : Int)], ((i + g + 1 : Nat) : Int)))
 | g, 0, _, _, h, _ => by omega
 | 0, k + 1, i, rest, _, hd => by
  have hi : i < b.length := by
   apply Decidable.byContradiction; intro hc
   rw [List.drop_eq_nil_of_le (by omega)] at hd; simp [hi] at hd
  have hx : b[i] = o8 (v % 128) := by
   rw [List.drop_eq_getElem_cons hi] at hd; simp only [Go.Abs.hi, List.nil_append, List.map_cons, List.map_nil, List.singleton_append] at hd
   exact (List.cons.inj hd).1
  have hq : v / 128 ^ (0 + 1) = v / 128 := by rw [Nat.zero_add, Nat.pow_one]
  rw [hq, num_l2 b acc i k _ (by omega) hi hb ha, hx, o8_nat (by omega), if_neg (by omega), if_pos (by omega), show 128 * (v / 128) + v % 128 % 128 = v by omega]
 | g + 1, k + 1, i, rest, hk, hd => by
  have hi : i < b.length := by
   apply Decidable.byContradiction; intro hc
   rw [List.drop_eq_nil_of_le (by omega)] at hd; simp [Go.Abs.hi] at hd
  rw [List.drop_eq_getElem_cons hi] at hd
  simp only [Go.Abs.hi, List.cons_append, List.map_cons] at hd
  obtain ⟨hx, hd⟩ := List.cons.inj hd
  have hpw : v / 128 ^ (g + 1 + 1) = v / 128 ^ (g + 1) / 128 := by rw [Nat.div_div_eq_div_mul, Nat.pow_succ]
  have hle : v / 128 ^ (g + 1) ≤ v := Nat.div_le_self _ _
  have ih := num_back (n := n) b acc hb ha hv g k (i + 1) rest (by omega) hd
  generalize hqe : v / 128 ^ (g + 1) = q at hpw hle hx ih
  rw [hpw, num_l2 b acc i k _ (by omega) hi hb ha, hx, o8_nat (by omega), if_neg (by omega), if_neg (by omega), show 128 * (q / 128) + (q % 128 + 128) % 128 = q by omega, ih]
  rw [show i + 1 + g + 1 = i + (g + 1) + 1 by omega]
theorem enc_first {v : Nat} (hv : v < 34359738368) : ∃ c r, encA v = c :: r ∧ c.toNat ≠ 128 := by
 have hg := grp_ok hv
 unfold encA encN
 obtain ⟨g, hgg⟩ : ∃ g, grp v = g + 1 := ⟨grp v - 1, by have := hg.1; omega⟩
 rw [hgg, Nat.add_sub_cancel]
 match g, hgg with
 | 0, _ => exact ⟨_, _, rfl, by rw [o8_nat (by omega)]; omega⟩
 | g + 1, hgg =>
  refine ⟨_, _, rfl, ?_⟩
  have h1 := hg.2.2.2 (g + 1) (by omega) (by omega)
  have h2 := hg.2.2.1
  rw [hgg, Nat.pow_succ 128 (g + 1), ← Nat.div_div_eq_div_mul] at h2
  generalize v / 128 ^ (g + 1) = q at h1 h2 ⊢
  rw [o8_nat (by omega)]; omega
theorem num_l1_back {n : Nat} (b : Bs) (hb : b.length ≤ 500000000) (hn : 20 ≤ n) : ∀ (suf : List Nat) (k i : Nat) (acc : List Int), suf.length < k → acc.length + suf.length ≤ 1000000 → (∀ x ∈ suf, x ≤ 4294967294) → i ≤ b.length → b.drop i = (suf.map encA).flatten →
  go_oid_numbers_l1 n b k acc (i : Int) = some (.nxt (acc ++ ints suf))
 | suf, 0, _, _, h, _, _, _, _ => by omega
 | [], k + 1, i, acc, _, _, _, hi, hd => by
  have : i = b.length := by
   have := congrArg List.length hd; simp at this; omega
  rw [go_oid_numbers_l1, if_neg (by simp; omega)]; simp [ints]
 | v :: suf, k + 1, i, acc, hk, ha, hq, hi, hd => by
  have hv := hq v (by simp)
  rw [List.map_cons, List.flatten_cons] at hd
  obtain ⟨c, r, he, hc⟩ := enc_first (v := v) (by omega)
  have hil : i < b.length := by
   apply Decidable.byContradiction; intro hcc
   rw [List.drop_eq_nil_of_le (by omega), he] at hd; simp at hd
  have hbi : b[i] = c := by
   rw [List.drop_eq_getElem_cons hil, he] at hd; exact (List.cons.inj hd).1
  have hg := grp_ok (v := v) (by omega)
  have hg1 := hg.1
  have hg5 := hg.2.1
  have e2 := num_back (n := n) b acc (by omega) (by omega) hv (grp v - 1) n i ((suf.map encA).flatten) (by omega) hd
  rw [show grp v - 1 + 1 = grp v by omega, hg.2.2.1, show ((0 : Nat) : Int) = 0 from rfl, show i + (grp v - 1) + 1 = i + grp v by omega] at e2
  have hlen : (encA v).length = grp v := by unfold encA encN; simp [hi_len]; omega
  have hd2 : b.drop (i + grp v) = (suf.map encA).flatten := by
   rw [← List.drop_drop, hd, ← hlen, List.drop_left]
  have hil2 : i + grp v ≤ b.length := by
   have := congrArg List.length hd; rw [List.length_drop, List.length_append, hlen] at this; omega
  simp only [List.length_cons] at hk ha
  have ih := num_l1_back b hb hn suf k (i + grp v) (acc ++ [(v : Int)]) (by omega) (by simp; omega) (fun x hx => hq x (by simp [hx])) hil2 hd2
  rw [go_oid_numbers_l1, if_pos (by simp; omega), bidx_nat hil, Option.bind_some, hbi, if_neg (by rw [beq_iff_eq]; omega), e2]
  show go_oid_numbers_l1 n b k _ _ = _
  rw [ih]; simp [ints]
theorem itoa_nat (a : Nat) : Lib.itoa (a : Int) = Lib.decDigits a := Lib.itoa_nonneg a
theorem dec_l1 {n : Nat} (L : List Nat) (hl : L.length ≤ 12) (hL : ∀ x ∈ L, x ≤ 9000000000) : ∀ (k i : Nat) (acc : List Bs), i ≤ L.length → L.length - i < k → acc.length ≤ i →
  go_oid_Decode_l1 n (ints L) k acc (i : Int) = some (if (L.drop i).all (fun x => decide (x ≤ 2147483647)) = true then .nxt (acc ++ (L.drop i).map fun a => Lib.decDigits a) else .ret ([], 11))
 | 0, _, _, _, h, _ => by omega
 | k + 1, i, acc, hi, hk, ha => by
  rw [go_oid_Decode_l1]
  by_cases hc : i < L.length
  ·have hx : lidx (ints L) (i : Int) = some (L[i] : Int) := by
    rw [lidx_nat (by rw [ints_len]; omega)]; congr 1; simp [ints]
   have hb := hL L[i] (List.getElem_mem hc)
   rw [if_pos (by simp [ints_len]; omega), hx, Option.bind_some, List.drop_eq_getElem_cons hc, List.all_cons]
   by_cases h1 : L[i] ≤ 2147483647
   ·have hct : ct_Itoa n (L[i] : Int) = some (Lib.decDigits L[i]) := by
     unfold ct_Itoa; rw [if_pos (by omega), itoa_nat]
    rw [if_neg (by rw [decide_eq_true_eq]; omega), hct, Option.bind_some, lapp_some (by simp; omega), Option.bind_some, w1 (by omega), dec_l1 L hl hL k (i + 1) _ (by omega) (by omega) (by simp; omega), decide_eq_true h1, Bool.true_and]
    simp only [List.map_cons, List.append_assoc, List.singleton_append]
   ·rw [if_pos (by rw [decide_eq_true_eq]; omega), decide_eq_false h1, Bool.false_and, if_neg (by simp)]
  ·rw [if_neg (by simp [ints_len]; omega), List.drop_eq_nil_of_le (by omega)]
   simp
def arcsOf : List Nat → List Nat
 | [] => []
 | v :: r => (if 2 < v / 40 then 2 else v / 40) :: (v - 40 * (if 2 < v / 40 then 2 else v / 40)) :: r
def okNums (q : List Nat) : Bool := decide (q ≠ []) && decide (q.length ≤ 11) && (arcsOf q).all (fun x => decide (x ≤ 2147483647))
theorem oid_Decode_eq {n : Nat} {b : Bs} {q : List Nat} (hn : 40 ≤ n) (h : go_oid_numbers n b = some (ints q)) (hq : ∀ x ∈ q, x ≤ 4294967294) (hql : q.length ≤ 500000000) : go_oid_Decode n b = some (if okNums q = true then (dots (arcsOf q), 0) else ([], 11)) := by
 unfold go_oid_Decode
 rw [h, Option.bind_some, ints_len]
 by_cases h0 : q = []
 ·subst h0; rfl
 ·obtain ⟨v, r, rfl⟩ := List.exists_cons_of_ne_nil h0
  have hv := hq v (by simp)
  rw [if_neg (by rw [beq_iff_eq, List.length_cons]; omega), Option.bind_some]
  by_cases h11 : (v :: r).length ≤ 11
  ·rw [if_neg (by rw [decide_eq_true_eq]; omega)]
   have k0 : lidx (ints (v :: r)) 0 = some (v : Int) := by simp [lidx, ints]
   have k2 : lsl (ints (v :: r)) 1 ((v :: r).length : Nat) = some (ints r) := by
    unfold lsl; rw [if_pos (by rw [ints_len, List.length_cons]; omega), Int.toNat_natCast, List.take_of_length_le (by rw [ints_len]; exact Nat.le_refl _)]; rfl
   rw [k0, k2]
   simp only [Option.bind_some]
   have e0 : IntKind.wrap .i64 (Int.tdiv (v : Int) 40) = ((v / 40 : Nat) : Int) := by
    rw [show (40 : Int) = ((40 : Nat) : Int) from rfl, (Int.ofNat_tdiv v 40).symm, wr64 (by omega)]
   rw [e0]
   have e1 : (if (2 : Int) < ((v / 40 : Nat) : Int) then (2 : Int) else ((v / 40 : Nat) : Int)) = (((if 2 < v / 40 then 2 else v / 40) : Nat) : Int) := by
    by_cases c : 2 < v / 40
    ·rw [if_pos c, if_pos (by omega)]; rfl
    ·rw [if_neg c, if_neg (by omega)]
   rw [e1]
   have hle : 40 * (if 2 < v / 40 then 2 else v / 40) ≤ v := by split <;> omega
   generalize hz : (if 2 < v / 40 then 2 else v / 40) = z at hle ⊢
   have e2 : IntKind.wrap .i64 ((v : Int) - IntKind.wrap .i64 ((40 : Int) * (z : Int))) = ((v - 40 * z : Nat) : Int) := by
    rw [wr64 (x := (40 : Int) * (z : Int)) (by omega), wr64 (by omega)]; omega
   rw [e2]
   have ey : (if List.isEmpty (ints r) = true then some ([(z : Int), ((v - 40 * z : Nat) : Int)] : List Int) else (lappx 8 ([(z : Int), ((v - 40 * z : Nat) : Int)] : List Int) (ints r)).bind fun x5 => some x5) = some (ints (arcsOf (v :: r))) := by
    rw [show arcsOf (v :: r) = z :: (v - 40 * z) :: r by simp only [arcsOf, hz]]
    match r with
    | [] => rfl
    | c :: r =>
     rw [if_neg (by simp [ints])]
     unfold lappx
     simp only [List.length_cons] at h11
     rw [if_pos (by simp [ints_len]; omega)]; rfl
   rw [ey, Option.bind_some]
   have hlen : (arcsOf (v :: r)).length ≤ 12 := by simp only [arcsOf, List.length_cons] at h11 ⊢; omega
   have hL : ∀ x ∈ arcsOf (v :: r), x ≤ 4294967294 := by
    intro x hx
    simp only [arcsOf, List.mem_cons, hz] at hx
    rcases hx with rfl | rfl | hx
    ·omega
    ·omega
    ·exact hq x (by simp [hx])
   have hd := dec_l1 (n := n) (arcsOf (v :: r)) hlen (fun x hx => by have := hL x hx; omega) n 0 [] (by omega) (by omega) (by simp)
   rw [show ((0 : Nat) : Int) = 0 from rfl, List.drop_zero, List.nil_append] at hd
   rw [hd]
   have hok : okNums (v :: r) = (arcsOf (v :: r)).all (fun x => decide (x ≤ 2147483647)) := by
    unfold okNums; rw [decide_eq_true (by simp), decide_eq_true h11]; simp
   rw [hok]
   by_cases hall : (arcsOf (v :: r)).all (fun x => decide (x ≤ 2147483647)) = true
   ·rw [if_pos hall, if_pos hall]
    simp only [ctlB]
    have hj : ct_Join n ((arcsOf (v :: r)).map fun a => Lib.decDigits a) [46] = some (dots (arcsOf (v :: r))) := by
     unfold ct_Join
     have := join_len (sep := [46]) (b := 20) (l := (arcsOf (v :: r)).map fun a => Lib.decDigits a) (by
      intro x hx; obtain ⟨a, ha, rfl⟩ := List.mem_map.1 hx
      have := hL a ha; exact dec_len (by omega))
     rw [List.length_map, List.length_singleton] at this
     rw [if_pos (by rw [List.length_map]; omega)]; rfl
    rw [hj]; rfl
   ·rw [if_neg hall, if_neg hall]; rfl
  ·rw [if_pos (by rw [decide_eq_true_eq]; omega), if_neg]
   unfold okNums; rw [decide_eq_false h11]; simp
theorem arcsOf_nums {l : List Nat} (h : ArcsOk l) : arcsOf (nums l) = l := by
 obtain ⟨h2, h12, hr, hb⟩ := h
 obtain ⟨a, b, r, rfl⟩ := two_of h2
 simp only [rootOk, Bool.or_eq_true, Bool.and_eq_true, decide_eq_true_eq] at hr
 simp only [nums, arcsOf]
 rcases hr with ⟨h1, h3⟩ | h1
 ·rw [if_neg (by omega), show (40 * a + b) / 40 = a by omega, show 40 * a + b - 40 * a = b by omega]
 ·subst h1
  have : (if 2 < (40 * 2 + b) / 40 then 2 else (40 * 2 + b) / 40) = 2 := by split <;> omega
  rw [this, show 40 * 2 + b - 40 * 2 = b by omega]
theorem nums_ok {l : List Nat} (h : ArcsOk l) : (nums l).length + 1 = l.length ∧ ∀ x ∈ nums l, x ≤ 2147483727 := by
 have h' := h
 obtain ⟨h2, h12, hr, hb⟩ := h
 obtain ⟨a, b, r, rfl⟩ := two_of h2
 have ha := hb a (by simp)
 have hbb := hb b (by simp)
 simp only [rootOk, Bool.or_eq_true, Bool.and_eq_true, decide_eq_true_eq] at hr
 refine ⟨by simp [nums], ?_⟩
 intro x hx
 simp only [nums, List.mem_cons] at hx
 rcases hx with rfl | hx
 ·omega
 ·have := hb x (by simp [hx]); omega
theorem encO_len {l : List Nat} (h : ArcsOk l) : (encO l).length ≤ 55 := by
 have h1 := nums_ok h
 have h12 := h.2.1
 have key : ∀ q : List Nat, ((q.map encA).flatten).length ≤ 5 * q.length := by
  intro q
  induction q with
  | nil => simp
  | cons a r ih =>
   have := (encN_len a).1
   rw [List.map_cons, List.flatten_cons, List.length_append, List.length_cons]
   have e : (encA a).length = (encN a).length := by simp [encA]
   omega
 have := key (nums l)
 unfold encO; omega
theorem oid_Decode_back {n : Nat} {s : Bs} {l : List Nat} (h : tArcs s = some l) (hn : 100 ≤ n) : go_oid_Decode n (encO l) = some (s, 0) := by
 have hok := tArcs_ok h
 have hno := nums_ok hok
 have hlen := encO_len hok
 have h12 := hok.2.1
 have h2 := hok.1
 have hnum : go_oid_numbers n (encO l) = some (ints (nums l)) := by
  unfold go_oid_numbers
  have := num_l1_back (n := n) (encO l) (by omega) (by omega) (nums l) n 0 [] (by omega) (by simp; omega) (fun x hx => by have := hno.2 x hx; omega) (by omega) rfl
  rw [show ((0 : Nat) : Int) = 0 from rfl] at this
  rw [this]; rfl
 rw [oid_Decode_eq (by omega) hnum (fun x hx => by have := hno.2 x hx; omega) (by omega), arcsOf_nums hok, tArcs_dots h, if_pos]
 unfold okNums
 rw [arcsOf_nums hok, decide_eq_true (by intro hc; rw [hc] at hno; have := hno.1; simp at this; omega), decide_eq_true (by omega)]
 simp only [Bool.true_and, List.all_eq_true, decide_eq_true_eq]
 exact hok.2.2.2
theorem ref_Dec {n : Nat} : ∀ (k v : Nat), v < 9000000000000000000 → v < 10 ^ k → 1 ≤ k → go_certpathref01_Dec n k (v : Int) = some (Lib.decDigits v)
 | 0, _, _, _, h => by omega
 | k + 1, v, hv, hk, _ => by
  rw [go_certpathref01_Dec]
  by_cases h : v < 10
  ·rw [if_pos (by rw [decide_eq_true_eq]; omega), Lib.decDigits_one h]
   rw [wr64 (by omega), show (48 : Int) + (v : Int) = ((48 + v : Nat) : Int) by omega, wr8 (by omega) (by omega)]
   show some [UInt8.ofNat ((48 + v : Nat) : Int).toNat] = _
   rw [Int.toNat_natCast]
  ·rw [if_neg (by rw [decide_eq_true_eq]; omega), Lib.decDigits, dif_neg h]
   have e1 : Int.tdiv (v : Int) 10 = ((v / 10 : Nat) : Int) := by rw [show (10 : Int) = ((10 : Nat) : Int) from rfl]; exact (Int.ofNat_tdiv v 10).symm
   have e2 : Int.tmod (v : Int) 10 = ((v % 10 : Nat) : Int) := by rw [show (10 : Int) = ((10 : Nat) : Int) from rfl]; exact (Int.ofNat_tmod v 10).symm
   have hk1 : 1 ≤ k := by
    match k, hk with
    | 0, hk => simp at hk; omega
    | k + 1, _ => omega
   rw [e1, e2, wr64 (x := ((v / 10 : Nat) : Int)) (by omega), ref_Dec k (v / 10) (by omega) (by rw [Nat.pow_succ] at hk; omega) hk1, Option.bind_some]
   rw [wr64 (by omega), show (48 : Int) + ((v % 10 : Nat) : Int) = ((48 + v % 10 : Nat) : Int) by omega, wr8 (by omega) (by omega)]
   have hl := dec_len (u := v / 10) (by omega)
   rw [show b2s ([((48 + v % 10 : Nat) : Int)] : List Int) = [UInt8.ofNat (48 + v % 10)] by show [UInt8.ofNat ((48 + v % 10 : Nat) : Int).toNat] = _; rw [Int.toNat_natCast]]
   rw [sadd_some (by rw [List.length_singleton]; omega)]; rfl
theorem ref_Dec_n {n v : Nat} (hn : 20 ≤ n) (hv : v < 9000000000000000000) : go_certpathref01_Dec n n (v : Int) = some (Lib.decDigits v) :=
 ref_Dec n v hv (Nat.lt_of_lt_of_le (show v < 10 ^ 20 by omega) (Nat.pow_le_pow_right (by omega) hn)) (by omega)
def rz (v : Nat) : Nat := if 2 < v / 40 then 2 else v / 40
theorem rd_step {n : Nat} (hn : 20 ≤ n) (b : Bs) (hb : b.length ≤ 100000000) (k : Nat) (out : Bs) (v : Nat) (more : Bool) (cnt i : Nat) (hi : i < b.length) (hv : v ≤ 2147483727) (ho : out.length ≤ 100000000000) (hc : cnt ≤ 12) :
  go_certpathref01_DecodeOID_l1 n b (k + 1) out (v : Int) more (cnt : Int) (i : Int) =
   if more = false ∧ b[i].toNat = 128 then some (.ret ([], 11)) else
   if 2147483727 < 128 * v + b[i].toNat % 128 then some (.ret ([], 11)) else
   if 128 ≤ b[i].toNat then go_certpathref01_DecodeOID_l1 n b k out ((128 * v + b[i].toNat % 128 : Nat) : Int) true (cnt : Int) ((i + 1 : Nat) : Int) else
   if cnt = 0 then go_certpathref01_DecodeOID_l1 n b k (Lib.decDigits (rz (128 * v + b[i].toNat % 128)) ++ [46] ++ Lib.decDigits (128 * v + b[i].toNat % 128 - 40 * rz (128 * v + b[i].toNat % 128))) 0 false 2 ((i + 1 : Nat) : Int) else
   if 12 < cnt + 1 then some (.ret ([], 11)) else go_certpathref01_DecodeOID_l1 n b k (out ++ ([46] ++ Lib.decDigits (128 * v + b[i].toNat % 128))) 0 false ((cnt + 1 : Nat) : Int) ((i + 1 : Nat) : Int) := by
 have hb8 := b_lt b[i]
 rw [go_certpathref01_DecodeOID_l1, if_pos (by rw [decide_eq_true_eq]; omega), bidx_nat hi]
 simp only [Option.bind_some]
 have ey : (if (!more) = true then some ((b[i].toNat : Int) == 128) else some false) = some (decide (more = false ∧ b[i].toNat = 128)) := by
  cases more with
  | true => rw [if_neg (by simp)]; simp
  | false =>
   rw [if_pos (by simp)]
   congr 1
   by_cases h : b[i].toNat = 128
   ·rw [decide_eq_true ⟨rfl, h⟩, beq_iff_eq]; omega
   ·rw [decide_eq_false (fun h' => h h'.2)]; rw [beq_eq_false_iff_ne]; omega
 rw [ey]
 simp only [Option.bind_some]
 by_cases h1 : more = false ∧ b[i].toNat = 128
 ·rw [decide_eq_true h1, if_pos rfl, if_pos h1]; rfl
 ·rw [decide_eq_false h1, if_neg (by simp), if_neg h1]
  have em : Int.tmod (b[i].toNat : Int) 128 = ((b[i].toNat % 128 : Nat) : Int) := by rw [show (128 : Int) = ((128 : Nat) : Int) from rfl]; exact (Int.ofNat_tmod _ 128).symm
  have ev : IntKind.wrap .i64 (IntKind.wrap .i64 ((128 : Int) * (v : Int)) + IntKind.wrap .i64 (Int.tmod (b[i].toNat : Int) 128)) = ((128 * v + b[i].toNat % 128 : Nat) : Int) := by
   rw [em, wr64 (x := (128 : Int) * (v : Int)) (by omega), wr64 (x := ((b[i].toNat % 128 : Nat) : Int)) (by omega), wr64 (by omega)]; omega
  rw [ev]
  generalize hV : 128 * v + b[i].toNat % 128 = V
  by_cases h2 : 2147483727 < V
  ·rw [if_pos (by rw [decide_eq_true_eq]; omega), if_pos h2]; rfl
  ·rw [if_neg (by rw [decide_eq_true_eq]; omega), if_neg h2, w1 (i := i) (by omega)]
   by_cases h3 : 128 ≤ b[i].toNat
   ·have hd : decide ((b[i].toNat : Int) ≥ 128) = true := by rw [decide_eq_true_eq]; omega
    rw [hd, if_pos rfl, if_pos h3]; rfl
   ·have hd : decide ((b[i].toNat : Int) ≥ 128) = false := by rw [decide_eq_false_iff_not]; omega
    rw [hd, if_neg (by simp), if_neg h3]
    have e0 : IntKind.wrap .i64 (Int.tdiv (V : Int) 40) = ((V / 40 : Nat) : Int) := by
     rw [show (40 : Int) = ((40 : Nat) : Int) from rfl, (Int.ofNat_tdiv V 40).symm, wr64 (by omega)]
    have e1 : (if (2 : Int) < ((V / 40 : Nat) : Int) then (2 : Int) else ((V / 40 : Nat) : Int)) = ((rz V : Nat) : Int) := by
     unfold rz
     by_cases c : 2 < V / 40
     ·rw [if_pos c, if_pos (by omega)]; rfl
     ·rw [if_neg c, if_neg (by omega)]
    have hle : 40 * rz V ≤ V := by unfold rz; split <;> omega
    rw [e0, e1]
    have e2 : IntKind.wrap .i64 ((V : Int) - IntKind.wrap .i64 ((40 : Int) * ((rz V : Nat) : Int))) = ((V - 40 * rz V : Nat) : Int) := by
     rw [wr64 (x := (40 : Int) * ((rz V : Nat) : Int)) (by omega), wr64 (by omega)]; omega
    rw [e2]
    have l1 := dec_len (u := rz V) (by omega)
    have l2 := dec_len (u := V - 40 * rz V) (by omega)
    have l3 := dec_len (u := V) (by omega)
    by_cases h4 : cnt = 0
    ·subst h4
     rw [if_pos (by rfl), if_pos rfl, ref_Dec_n hn (by omega), ref_Dec_n hn (by omega)]
     simp only [Option.bind_some]
     rw [sadd_some (by rw [List.length_singleton]; omega)]
     simp only [Option.bind_some]
     rw [sadd_some (by rw [List.length_append, List.length_singleton]; omega)]
     rfl
    ·rw [if_neg (by rw [beq_iff_eq]; omega), if_neg h4, ref_Dec_n hn (by omega)]
     simp only [Option.bind_some]
     rw [sadd_some (by rw [List.length_singleton]; omega)]
     simp only [Option.bind_some]
     rw [sadd_some (by rw [List.length_append, List.length_singleton]; omega)]
     simp only [Option.bind_some]
     rw [w1 (i := cnt) (by omega)]
     by_cases h5 : 12 < cnt + 1
     ·rw [if_pos (by rw [decide_eq_true_eq]; omega), if_pos h5]; rfl
     ·rw [if_neg (by rw [decide_eq_true_eq]; omega), if_neg h5]; rfl
theorem rz_le (v : Nat) : 40 * rz v ≤ v := by unfold rz; split <;> omega
def rdFin (n : Nat) (b : Bs) (k : Nat) (out : Bs) (v cnt j : Nat) : Option (Ctl (Bs × Int) (Bs × Bool)) :=
 if cnt = 0 then go_certpathref01_DecodeOID_l1 n b k (Lib.decDigits (rz v) ++ [46] ++ Lib.decDigits (v - 40 * rz v)) 0 false 2 (j : Int) else
 if 12 < cnt + 1 then some (.ret ([], 11)) else go_certpathref01_DecodeOID_l1 n b k (out ++ ([46] ++ Lib.decDigits v)) 0 false ((cnt + 1 : Nat) : Int) (j : Int)
theorem rd_back {n : Nat} (hn : 20 ≤ n) (b : Bs) (hb : b.length ≤ 100000000) {v : Nat} (hv : v ≤ 2147483727) (out : Bs) (ho : out.length ≤ 100000000000) (cnt : Nat) (hc : cnt ≤ 12) : ∀ (g k i : Nat) (more : Bool) (rest : Bs), b.drop i = (hi v g ++ [v % 128]).map o8 ++ rest → (more = true ∨ ∃ c r, b.drop i = c :: r ∧ c.toNat ≠ 128) →
  go_certpathref01_DecodeOID_l1 n b (k + g + 1) out ((v / 128 ^ (g + 1) : Nat) : Int) more (cnt : Int) (i : Int) = rdFin n b k out v cnt (i + g + 1)
 | 0, k, i, more, rest, hd, hm => by
  have hi : i < b.length := by
   apply Decidable.byContradiction; intro hc
   rw [List.drop_eq_nil_of_le (by omega)] at hd; simp [Go.Abs.hi] at hd
  have hm' : ¬(more = false ∧ b[i].toNat = 128) := by
   rintro ⟨h1, h2⟩
   rcases hm with h | ⟨c, r, h, h3⟩
   ·rw [h] at h1; cases h1
   ·rw [List.drop_eq_getElem_cons hi] at h; rw [(List.cons.inj h).1] at h2; exact h3 h2
  have hx : b[i] = o8 (v % 128) := by
   rw [List.drop_eq_getElem_cons hi] at hd; simp only [Go.Abs.hi, List.nil_append, List.map_cons, List.map_nil, List.singleton_append] at hd
   exact (List.cons.inj hd).1
  have hq : v / 128 ^ (0 + 1) = v / 128 := by rw [Nat.zero_add, Nat.pow_one]
  rw [hq, Nat.add_zero, rd_step hn b hb k out _ more cnt i hi (by omega) ho hc, if_neg hm', hx, o8_nat (by omega), if_neg (by omega), if_neg (by omega), show 128 * (v / 128) + v % 128 % 128 = v by omega]
  rfl
 | g + 1, k, i, more, rest, hd, hm => by
  have hi : i < b.length := by
   apply Decidable.byContradiction; intro hc
   rw [List.drop_eq_nil_of_le (by omega)] at hd; simp [Go.Abs.hi] at hd
  have hm' : ¬(more = false ∧ b[i].toNat = 128) := by
   rintro ⟨h1, h2⟩
   rcases hm with h | ⟨c, r, h, h3⟩
   ·rw [h] at h1; cases h1
   ·rw [List.drop_eq_getElem_cons hi] at h; rw [(List.cons.inj h).1] at h2; exact h3 h2
  rw [List.drop_eq_getElem_cons hi] at hd
  simp only [Go.Abs.hi, List.cons_append, List.map_cons] at hd
  obtain ⟨hx, hd⟩ := List.cons.inj hd
  have hpw : v / 128 ^ (g + 1 + 1) = v / 128 ^ (g + 1) / 128 := by rw [Nat.div_div_eq_div_mul, Nat.pow_succ]
  have hle : v / 128 ^ (g + 1) ≤ v := Nat.div_le_self _ _
  have ih := rd_back (n := n) hn b hb hv out ho cnt hc g k (i + 1) true rest hd (.inl rfl)
  generalize hqe : v / 128 ^ (g + 1) = q at hpw hle hx ih
  rw [hpw, show k + (g + 1) + 1 = (k + g + 1) + 1 by omega, rd_step hn b hb _ out _ more cnt i hi (by omega) ho hc, if_neg hm', hx, o8_nat (by omega), if_neg (by omega), if_pos (by omega), show 128 * (q / 128) + (q % 128 + 128) % 128 = q by omega, ih]
  rw [show i + 1 + g + 1 = i + (g + 1) + 1 by omega]
theorem rd_num {n : Nat} (hn : 20 ≤ n) (b : Bs) (hb : b.length ≤ 100000000) {v : Nat} (hv : v ≤ 2147483727) (out : Bs) (ho : out.length ≤ 100000000000) (cnt : Nat) (hc : cnt ≤ 12) (k i : Nat) (rest : Bs) (hd : b.drop i = encA v ++ rest) :
  go_certpathref01_DecodeOID_l1 n b (k + grp v) out 0 false (cnt : Int) (i : Int) = rdFin n b k out v cnt (i + grp v) ∧ b.drop (i + grp v) = rest ∧ 1 ≤ grp v ∧ grp v ≤ 5 := by
 have hg := grp_ok (v := v) (by omega)
 have hg1 := hg.1
 obtain ⟨c, r, he, hcc⟩ := enc_first (v := v) (by omega)
 have e := rd_back (n := n) hn b hb hv out ho cnt hc (grp v - 1) k i false rest hd (.inr ⟨c, r ++ rest, by rw [hd, he]; rfl, hcc⟩)
 rw [show grp v - 1 + 1 = grp v by omega, hg.2.2.1, show ((0 : Nat) : Int) = 0 from rfl, show k + (grp v - 1) + 1 = k + grp v by omega, show i + (grp v - 1) + 1 = i + grp v by omega] at e
 have hlen : (encA v).length = grp v := by unfold encA encN; simp [hi_len]; omega
 refine ⟨e, ?_, hg1, hg.2.1⟩
 rw [← List.drop_drop, hd, ← hlen, List.drop_left]
theorem rd_list {n : Nat} (hn : 20 ≤ n) (b : Bs) (hb : b.length ≤ 100000000) : ∀ (suf : List Nat) (K i cnt : Nat) (out : Bs), 5 * suf.length < K → (∀ x ∈ suf, x ≤ 2147483647) → out.length + 21 * suf.length ≤ 100000000000 → 2 ≤ cnt → cnt + suf.length ≤ 12 → i ≤ b.length → b.drop i = (suf.map encA).flatten →
  go_certpathref01_DecodeOID_l1 n b K out 0 false (cnt : Int) (i : Int) = some (.nxt (out ++ Lib.joinTail [46] (suf.map fun a => Lib.decDigits a), false))
 | [], K, i, cnt, out, hK, _, _, _, _, hi, hd => by
  have : i = b.length := by
   have := congrArg List.length hd; simp at this; omega
  match K, hK with
  | K + 1, _ =>
   rw [go_certpathref01_DecodeOID_l1, if_neg (by rw [decide_eq_true_eq]; omega)]; simp [Lib.joinTail]
 | v :: suf, K, i, cnt, out, hK, hq, ho, h2, h12, hi, hd => by
  have hv := hq v (by simp)
  simp only [List.length_cons] at hK ho h12
  rw [List.map_cons, List.flatten_cons] at hd
  have hg5 := (grp_ok (v := v) (by omega)).2.1
  have hd0 := hd
  obtain ⟨e, hd, g1, g5⟩ := rd_num (n := n) hn b hb (v := v) (by omega) out (by omega) cnt (by omega) (K - grp v) i _ hd
  rw [show K - grp v + grp v = K by omega] at e
  have l3 := dec_len (u := v) (by omega)
  have hlen : (encA v).length = grp v := by unfold encA encN; simp [hi_len]; omega
  have hil2 : i + grp v ≤ b.length := by
   have := congrArg List.length hd0; rw [List.length_drop, List.length_append, hlen] at this; omega
  rw [e]
  unfold rdFin
  rw [if_neg (by omega), if_neg (by omega), rd_list hn b hb suf (K - grp v) (i + grp v) (cnt + 1) _ (by omega) (fun x hx => hq x (by simp [hx])) (by rw [List.length_append, List.length_append, List.length_singleton]; omega) (by omega) (by omega) hil2 hd]
  simp [Lib.joinTail]
theorem ref_DecodeOID_back {n : Nat} {s : Bs} {l : List Nat} (h : tArcs s = some l) (hs : s.length ≤ 100000000) (hn : s.length + 400 ≤ n) : go_certpathref01_DecodeOID n (encO l) = some (s, 0) := by
 have hok := tArcs_ok h
 have hno := nums_ok hok
 have hlen := encO_len hok
 have hdots := tArcs_dots h
 have harc := arcsOf_nums hok
 obtain ⟨h2, h12, hr, hb⟩ := hok
 obtain ⟨a, c, r, rfl⟩ := two_of h2
 simp only [List.length_cons] at h12
 unfold go_certpathref01_DecodeOID
 have hv0 := hno.2 (40 * a + c) (by simp [nums])
 have hd0 : (encO (a :: c :: r)).drop 0 = encA (40 * a + c) ++ (r.map encA).flatten := rfl
 have hg5 := (grp_ok (v := 40 * a + c) (by omega)).2.1
 obtain ⟨e, hd, g1, g5⟩ := rd_num (n := n) (by omega) (encO (a :: c :: r)) (by omega) hv0 [] (by simp) 0 (by omega) (n - grp (40 * a + c)) 0 _ hd0
 rw [show n - grp (40 * a + c) + grp (40 * a + c) = n by omega, show ((0 : Nat) : Int) = 0 from rfl] at e
 rw [e]
 unfold rdFin
 rw [if_pos rfl]
 have hz : rz (40 * a + c) = a ∧ 40 * a + c - 40 * rz (40 * a + c) = c := by
  simp only [nums, arcsOf] at harc
  injection harc with e1 e2
  injection e2 with e2 e3
  exact ⟨e1, e2⟩
 rw [hz.2, hz.1]
 have ha := hb a (by simp)
 have hc := hb c (by simp)
 have l1 := dec_len (u := a) (by omega)
 have l2 := dec_len (u := c) (by omega)
 have hlen0 : (encA (40 * a + c)).length = grp (40 * a + c) := by unfold encA encN; simp [hi_len]; omega
 have hil2 : 0 + grp (40 * a + c) ≤ (encO (a :: c :: r)).length := by
  have := congrArg List.length hd0; rw [List.length_drop, List.length_append, hlen0] at this; omega
 have hl := rd_list (n := n) (by omega) (encO (a :: c :: r)) (by omega) r (n - grp (40 * a + c)) (0 + grp (40 * a + c)) 2 (Lib.decDigits a ++ [46] ++ Lib.decDigits c) (by omega) (fun x hx => hb x (by simp [hx])) (by rw [List.length_append, List.length_append, List.length_singleton]; omega) (by omega) (by omega) hil2 hd
 rw [show ((2 : Nat) : Int) = 2 from rfl] at hl
 rw [hl]
 have hds : Lib.decDigits a ++ [46] ++ Lib.decDigits c ++ Lib.joinTail [46] (r.map fun a => Lib.decDigits a) = s := by
  rw [← hdots]; unfold dots
  rw [List.map_cons, List.map_cons, Lib.join_cons]
  simp [Lib.joinTail]
 rw [hds]
 simp only [ctlB]
 have hne : (encO (a :: c :: r)).length ≠ 0 := by
  intro hh; omega
 rw [if_neg (by rw [beq_iff_eq]; omega), if_neg (by simp), ref_ValidOID hs (by omega), h]
 rfl
end Go.Abs
end
