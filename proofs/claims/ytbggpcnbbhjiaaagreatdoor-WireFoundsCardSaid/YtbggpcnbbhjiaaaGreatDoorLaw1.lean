/- The typed Lean form of WireFounds gives true for every list of at most 9223372036854775807 numbers and every value found. -/
import Derived.Test.YtbggpcnbbhjiaaaGreatDoorW2
set_option linter.unusedVariables false
set_option linter.unusedSimpArgs false
set_option linter.unnecessarySimpa false
section
set_option maxRecDepth 100000
namespace Go.Abs
open Go Go.Proofs
abbrev Bs := List UInt8
theorem wr64 {x : Int} (h : -9223372036854775808 ≤ x ∧ x ≤ 9223372036854775807) : IntKind.wrap .i64 x = x := IntWalk.i64_in x h
theorem wr8 {x : Int} (h0 : 0 ≤ x) (h1 : x ≤ 255) : IntKind.wrap .u8 x = x := by
 obtain ⟨n, rfl⟩ := Int.eq_ofNat_of_zero_le h0
 have hn : n < 256 := by omega
 have : ∀ n : Nat, n < 256 → IntKind.wrap .u8 (n : Int) = n := by
  intro n hn
  have := List.all_eq_true.1 (show ((List.range 256).all fun n : Nat => IntKind.wrap .u8 (n : Int) == (n : Int)) = true by kernel_rfl) n (by simpa using hn)
  simpa using this
 exact this n hn
theorem iand_nat {x y : Nat} (hx : x < 9223372036854775808) (hy : y < 9223372036854775808) : iand .i64 (x : Int) (y : Int) = ((x &&& y : Nat) : Int) := by
 show IntKind.wrap .i64 (((BitVec.ofInt 64 (x : Int) &&& BitVec.ofInt 64 (y : Int)).toNat : Nat) : Int) = _
 rw [BitVec.ofInt_natCast, BitVec.ofInt_natCast]
 have h3 : (BitVec.ofNat 64 x &&& BitVec.ofNat 64 y).toNat = x &&& y := by
  rw [BitVec.toNat_and, BitVec.toNat_ofNat, BitVec.toNat_ofNat, Nat.mod_eq_of_lt (by omega), Nat.mod_eq_of_lt (by omega)]
 rw [h3]
 have : x &&& y ≤ x := Nat.and_le_left
 exact wr64 (by omega)
theorem ior_nat {x y : Nat} (hx : x < 9223372036854775808) (hy : y < 9223372036854775808) : ior .i64 (x : Int) (y : Int) = ((x ||| y : Nat) : Int) := by
 show IntKind.wrap .i64 (((BitVec.ofInt 64 (x : Int) ||| BitVec.ofInt 64 (y : Int)).toNat : Nat) : Int) = _
 rw [BitVec.ofInt_natCast, BitVec.ofInt_natCast]
 have h3 : (BitVec.ofNat 64 x ||| BitVec.ofNat 64 y).toNat = x ||| y := by
  rw [BitVec.toNat_or, BitVec.toNat_ofNat, BitVec.toNat_ofNat, Nat.mod_eq_of_lt (by omega), Nat.mod_eq_of_lt (by omega)]
 rw [h3]
 have : x ||| y < 2 ^ 63 := Nat.or_lt_two_pow (by simpa using hx) (by simpa using hy)
 exact wr64 (by omega)
theorem ior_mul {v x i : Nat} (h : 2 ^ i * v + x < 9223372036854775808) (hx : x < 2 ^ i) : ior .i64 ((2 ^ i * v : Nat) : Int) (x : Int) = ((2 ^ i * v + x : Nat) : Int) := by
 rw [ior_nat (by omega) (by omega), ← Nat.two_pow_add_eq_or_of_lt hx]
theorem bidx_nat {s : Bs} {i : Nat} (h : i < s.length) : bidx s (i : Int) = some ((s[i]).toNat : Int) := by
 simp [bidx, h]
theorem lidx_nat {α : Type} {l : List α} {i : Nat} (h : i < l.length) : lidx l (i : Int) = some l[i] := by
 simp [lidx, h]
theorem ssl_nat {s : Bs} {i j : Nat} (h : i ≤ j) (hj : j ≤ s.length) : ssl s (i : Int) (j : Int) = some ((s.take j).drop i) := by
 unfold ssl; rw [if_pos (by omega)]; simp
theorem sadd_some {s t : Bs} (h : s.length + t.length ≤ 9223372036854775807) : sadd s t = some (s ++ t) := by
 unfold sadd; rw [if_pos h]
theorem lapp_some {α : Type} {b : Nat} {l m : List α} (h : (l.length + m.length) * b ≤ 140737488355328) : lapp b l m = some (l ++ m) := by
 unfold lapp; rw [if_pos h]
theorem w1 {i : Nat} (h : i < 9223372036854775807) : IntKind.wrap .i64 ((i : Int) + 1) = ((i + 1 : Nat) : Int) := by rw [wr64 (by omega)]; omega
theorem b_lt (c : UInt8) : c.toNat < 256 := c.toNat_lt
theorem bind_ex {α β : Type} {c : Option α} {f : α → Option β} (h : ∃ a, c = some a) (k : ∀ a, c = some a → ∃ y, f a = some y) : ∃ y, c.bind f = some y := by
 obtain ⟨a, ha⟩ := h
 obtain ⟨y, hy⟩ := k a ha
 exact ⟨y, by rw [ha]; exact hy⟩
theorem ite_ex {α : Type} {c : Prop} [Decidable c] {a b : Option α} (h1 : c → ∃ y, a = some y) (h2 : ¬ c → ∃ y, b = some y) : ∃ y, (if c then a else b) = some y := by
 by_cases hc : c
 ·rw [if_pos hc]; exact h1 hc
 ·rw [if_neg hc]; exact h2 hc
theorem bidx_ex {s : Bs} {i : Int} (h0 : 0 ≤ i) (h1 : i < s.length) : ∃ x, bidx s i = some x := by
 obtain ⟨n, rfl⟩ := Int.eq_ofNat_of_zero_le h0
 exact ⟨_, bidx_nat (by omega)⟩
theorem lidx_ex {α : Type} {s : List α} {i : Int} (h0 : 0 ≤ i) (h1 : i < s.length) : ∃ x, lidx s i = some x := by
 obtain ⟨n, rfl⟩ := Int.eq_ofNat_of_zero_le h0
 exact ⟨_, lidx_nat (by omega)⟩
abbrev E0 : T_api_Element := ⟨0, [], []⟩
def num (l : Bs) : Nat := l.foldl (fun n c => 256 * n + c.toNat) 0
def least : Nat → Nat
 | 0 => 0
 | 1 => 128
 | 2 => 256
 | _ => 65536
def tRead (b : Bs) : T_api_Element × Bs × Int :=
 match b with
 | [] => (E0, [], 3)
 | t :: r => if t.toNat % 32 = 31 then (E0, [], 5) else match r with
  | [] => (E0, [], 3)
  | c :: s =>
   if c.toNat = 128 ∨ 131 < c.toNat then (E0, [], 6)
   else if c.toNat < 128 then (if s.length < c.toNat then (E0, [], 3) else (⟨t.toNat, s.take c.toNat, t :: c :: s.take c.toNat⟩, s.drop c.toNat, 0))
   else if s.length < c.toNat - 128 then (E0, [], 3)
   else if num (s.take (c.toNat - 128)) < least (c.toNat - 128) ∨ 131072 < num (s.take (c.toNat - 128)) then (E0, [], 6)
   else if s.length - (c.toNat - 128) < num (s.take (c.toNat - 128)) then (E0, [], 3)
   else (⟨t.toNat, (s.drop (c.toNat - 128)).take (num (s.take (c.toNat - 128))), t :: c :: s.take (c.toNat - 128 + num (s.take (c.toNat - 128)))⟩, s.drop (c.toNat - 128 + num (s.take (c.toNat - 128))), 0)
theorem tag31 (t : UInt8) : (iand .i64 (t.toNat : Int) 31 == 31) = decide (t.toNat % 32 = 31) := by
 have : ∀ n : Nat, n < 256 → (iand .i64 (n : Int) 31 == 31) = decide (n % 32 = 31) := by
  intro n hn
  have := List.all_eq_true.1 (show ((List.range 256).all fun n : Nat => (iand .i64 (n : Int) 31 == 31) == decide (n % 32 = 31)) = true by kernel_rfl) n (by simpa using hn)
  simpa using this
 exact this _ (b_lt t)
theorem rl1 {n : Nat} (x : Bs) : ∀ (k i v : Nat), i ≤ x.length → x.length - i < k → x.length ≤ 3 → v < 256 ^ i → go_tlv_Read_l1 n x k (v : Int) (i : Int) = some (((x.drop i).foldl (fun n c => 256 * n + c.toNat) v : Nat) : Int)
 | 0, i, v, _, h, _, _ => by omega
 | k + 1, i, v, hi, hk, h3, hv => by
  rw [go_tlv_Read_l1]
  by_cases hc : i < x.length
  ·have hl : (s2b x).length = x.length := by simp [s2b]
   rw [if_pos (by simp [hl]; exact hc), lidx_nat (by rw [hl]; exact hc)]
   have hg : (s2b x)[i]'(by rw [hl]; exact hc) = ((x[i]).toNat : Int) := by simp [s2b]
   rw [hg]
   simp only [Option.bind_some]
   have hb := b_lt x[i]
   have hv2 : v < 65536 := Nat.lt_of_lt_of_le hv (Nat.le_trans (Nat.pow_le_pow_right (by omega) (show i ≤ 2 by omega)) (by decide))
   have e1 : IntKind.wrap .i64 ((v : Int) * 256) = ((2 ^ 8 * v : Nat) : Int) := by rw [wr64 (by omega)]; omega
   rw [e1, wr64 (x := ((x[i]).toNat : Int)) (by omega), ior_mul (i := 8) (by omega) hb, w1 (by omega)]
   have hd : x.drop i = x[i] :: x.drop (i + 1) := by rw [List.drop_eq_getElem_cons hc]
   rw [hd, List.foldl_cons]
   refine rl1 x k (i + 1) _ (by omega) (by omega) h3 ?_
   rw [Nat.pow_succ]
   omega
  ·have : i = x.length := by omega
   subst this
   simp [s2b]
theorem tlv_Read {n : Nat} {b : Bs} (hb : b.length ≤ 4611686018427387904) (hn : 5 ≤ n) : go_tlv_Read n b = some (tRead b) := by
 unfold go_tlv_Read tRead
 match b with
 | [] => simp
 | t :: r =>
  have h0 : bidx (t :: r) 0 = some (t.toNat : Int) := by simp [bidx]
  have ht := b_lt t
  rw [h0]
  simp only [Option.bind_some]
  rw [wr64 (x := (t.toNat : Int)) (by omega), tag31]
  rw [if_neg (by simp)]
  by_cases h31 : t.toNat % 32 = 31
  ·simp [h31]
  ·simp only [h31, decide_false, Bool.false_eq_true, if_false]
   match r with
   | [] => simp
   | c :: s =>
    have h1 : bidx (t :: c :: s) 1 = some (c.toNat : Int) := by simp [bidx]
    have hc := b_lt c
    rw [if_neg (by simp; omega), h1]
    simp only [Option.bind_some]
    rw [wr64 (x := (c.toNat : Int)) (by omega)]
    by_cases hA : c.toNat = 128 ∨ 131 < c.toNat
    ·have : (if ((c.toNat : Int) == 128) = true then some true else some (decide ((c.toNat : Int) > 131))) = some true := by
      by_cases h : c.toNat = 128
      ·rw [if_pos (by simp; omega)]
      ·rw [if_neg (by simp; omega)]; simp; omega
     rw [this, if_pos hA]; rfl
    ·have : (if ((c.toNat : Int) == 128) = true then some true else some (decide ((c.toNat : Int) > 131))) = some false := by
      rw [if_neg (by simp; omega)]; simp; omega
     rw [this, if_neg hA]
     simp only [Option.bind_some, Bool.false_eq_true, if_false]
     have hlen : (t :: c :: s).length = s.length + 2 := rfl
     have fin : ∀ (m k : Nat), m ≤ 131072 → k ≤ s.length → k ≤ 3 →
       (if (decide (IntKind.wrap .i64 (((t :: c :: s).length : Int) - ((k + 2 : Nat) : Int)) < (m : Int))) = true then some ((T_api_Element.mk 0 ([] : Bs) ([] : Bs)), ([] : Bs), (3 : Int)) else
        ((ssl (t :: c :: s) ((k + 2 : Nat) : Int) (IntKind.wrap .i64 (((k + 2 : Nat) : Int) + (m : Int)))).bind fun x56 =>
         (ssl (t :: c :: s) 0 (IntKind.wrap .i64 (((k + 2 : Nat) : Int) + (m : Int)))).bind fun x57 =>
         (ssl (t :: c :: s) (IntKind.wrap .i64 (((k + 2 : Nat) : Int) + (m : Int))) ((t :: c :: s).length)).bind fun x58 =>
         some ((T_api_Element.mk (t.toNat : Int) x56 x57), x58, 0))) =
       some (if s.length - k < m then (E0, [], 3) else (⟨t.toNat, (s.drop k).take m, t :: c :: s.take (k + m)⟩, s.drop (k + m), 0)) := by
      intro m k hm hk hk3
      rw [wr64 (by rw [hlen]; omega), hlen]
      by_cases hz : s.length - k < m
      ·rw [if_pos (by simp; omega), if_pos hz]
      ·rw [if_neg (by simp; omega), if_neg hz]
       have e1 : IntKind.wrap .i64 (((k + 2 : Nat) : Int) + (m : Int)) = ((k + 2 + m : Nat) : Int) := by rw [wr64 (by omega)]; omega
       rw [e1, show (0 : Int) = ((0 : Nat) : Int) from rfl, ssl_nat (by omega) (by rw [hlen]; omega), ssl_nat (by omega) (by rw [hlen]; omega), ssl_nat (by rw [← hlen]; omega) (by rw [hlen]; omega)]
       simp only [Option.bind_some, Option.some.injEq, Prod.mk.injEq, T_api_Element.mk.injEq, true_and, and_true]
       have e2 : k + 2 + m = (k + m) + 2 := by omega
       rw [e2]
       refine ⟨⟨?_, ?_⟩, ?_⟩
       ·simp [List.take_succ_cons, List.drop_take]
       ·simp [List.take_succ_cons]
       ·simp [List.take_of_length_le]
     by_cases hB : c.toNat < 128
     ·rw [if_neg (by simp; omega), if_pos hB]
      simp only [ctlB]
      have := fin c.toNat 0 (by omega) (by omega) (by omega)
      simp only [Nat.zero_add, Nat.sub_zero, List.drop_zero] at this
      exact this
     ·rw [if_pos (by simp; omega), if_neg hB]
      have e3 : IntKind.wrap .i64 ((c.toNat : Int) - 128) = ((c.toNat - 128 : Nat) : Int) := by rw [wr64 (by omega)]; omega
      have e4 : IntKind.wrap .i64 ((2 : Int) + ((c.toNat - 128 : Nat) : Int)) = ((c.toNat - 128 + 2 : Nat) : Int) := by rw [wr64 (by omega)]; omega
      rw [e3, e4, hlen]
      generalize hk : c.toNat - 128 = k at *
      have hk3 : k ≤ 3 := by omega
      by_cases hC : s.length < k
      ·rw [if_pos (by simp; omega), if_pos hC]
       simp [ctlB]
      ·rw [if_neg (by simp; omega), if_neg hC]
       have hx : ssl (t :: c :: s) 2 ((k + 2 : Nat) : Int) = some (s.take k) := by
        rw [show (2 : Int) = ((2 : Nat) : Int) from rfl, ssl_nat (by omega) (by rw [hlen]; omega)]
        simp [List.take_succ_cons]
       rw [hx]
       simp only [Option.bind_some]
       have hr := rl1 (n := n) (s.take k) n 0 0 (by omega) (by simp; omega) (by simp; omega) (by simp)
       simp only [List.drop_zero] at hr
       rw [show ((0 : Nat) : Int) = 0 from rfl] at hr
       rw [hr]
       have hle : go_tlv_least n (k : Int) = some (least k : Int) := by
        have : k = 1 ∨ k = 2 ∨ k = 3 := by omega
        rcases this with rfl | rfl | rfl <;> rfl
       rw [hle]
       simp only [Option.bind_some]
       show ctlB ((if decide (((num (s.take k) : Nat) : Int) < (least k : Int)) = true then some true else some (decide (((num (s.take k) : Nat) : Int) > 131072))).bind _) _ _ = _
       by_cases hD : (num (s.take k) < least k ∨ 131072 < num (s.take k))
       ·have : (if decide (((num (s.take k) : Nat) : Int) < (least k : Int)) = true then some true else some (decide (((num (s.take k) : Nat) : Int) > 131072))) = some true := by
         by_cases h : (num (s.take k) < least k)
         ·rw [if_pos (by simp; omega)]
         ·rw [if_neg (by simp; omega)]; simp; omega
        rw [this, if_pos hD]; rfl
       ·have : (if decide (((num (s.take k) : Nat) : Int) < (least k : Int)) = true then some true else some (decide (((num (s.take k) : Nat) : Int) > 131072))) = some false := by
         rw [if_neg (by simp; omega)]; simp; omega
        rw [this, if_neg hD]
        simp only [Option.bind_some, Bool.false_eq_true, if_false, ctlB]
        exact fin (num (s.take k)) k (by omega) (by omega) hk3
theorem rl2 {n : Nat} {x2 : Int} {t c : UInt8} {s : Bs} {k : Nat} (hx : IntKind.wrap .i64 (IntKind.wrap .i64 x2 - 128) = (k : Int)) (h3 : k ≤ 3) (hs : k ≤ s.length) : ∀ (f i v : Nat), i ≤ k → k - i < f → v < 256 ^ i →
  go_certpathref01_Read_l1 n x2 (t :: c :: s) f (v : Int) (i : Int) = some (((((s.take k).drop i).foldl (fun n c => 256 * n + c.toNat) v : Nat)) : Int)
 | 0, i, v, _, h, _ => by omega
 | f + 1, i, v, hi, hk, hv => by
  rw [go_certpathref01_Read_l1, hx]
  by_cases hc : i < k
  ·have hl : (s.take k).length = k := by simp; omega
   have hb2 : bidx (t :: c :: s) (IntKind.wrap .i64 ((2 : Int) + (i : Int))) = some ((s[i]'(by omega)).toNat : Int) := by
    rw [wr64 (by omega), show (2 : Int) + (i : Int) = ((i + 2 : Nat) : Int) by omega, bidx_nat (by simp; omega)]
    simp
   rw [if_pos (by simp; omega), hb2]
   simp only [Option.bind_some]
   have hb := b_lt (s[i]'(by omega))
   have hv2 : v < 65536 := Nat.lt_of_lt_of_le hv (Nat.le_trans (Nat.pow_le_pow_right (by omega) (show i ≤ 2 by omega)) (by decide))
   have e1 : IntKind.wrap .i64 (IntKind.wrap .i64 ((256 : Int) * (v : Int)) + IntKind.wrap .i64 ((s[i]'(by omega)).toNat : Int)) = ((256 * v + (s[i]'(by omega)).toNat : Nat) : Int) := by
    rw [wr64 (x := (256 : Int) * (v : Int)) (by omega), wr64 (x := ((s[i]'(by omega)).toNat : Int)) (by omega), wr64 (by omega)]; omega
   rw [e1, w1 (by omega)]
   have hd : (s.take k).drop i = s[i]'(by omega) :: (s.take k).drop (i + 1) := by
    rw [List.drop_eq_getElem_cons (by omega)]; simp
   rw [hd, List.foldl_cons]
   refine rl2 hx h3 hs f (i + 1) _ (by omega) (by omega) ?_
   rw [Nat.pow_succ]; omega
  ·have : i = k := by omega
   subst this
   rw [if_neg (by simp)]
   simp
theorem ref_Read {n : Nat} {b : Bs} (hb : b.length ≤ 4611686018427387904) (hn : 5 ≤ n) : go_certpathref01_Read n b = some (tRead b) := by
 unfold go_certpathref01_Read tRead
 match b with
 | [] => simp
 | t :: r =>
  have h0 : bidx (t :: r) 0 = some (t.toNat : Int) := by simp [bidx]
  have ht := b_lt t
  rw [h0]
  simp only [Option.bind_some]
  have h31' : (Int.tmod (t.toNat : Int) 32 == 31) = decide (t.toNat % 32 = 31) := by
   rw [show Int.tmod (t.toNat : Int) 32 = ((t.toNat % 32 : Nat) : Int) from rfl]
   by_cases h : t.toNat % 32 = 31
   ·simp [h]
   ·simp [h]; omega
  rw [h31', if_neg (by simp; omega)]
  by_cases h31 : t.toNat % 32 = 31
  ·simp [h31]
  ·simp only [h31, decide_false, Bool.false_eq_true, if_false]
   match r with
   | [] => simp
   | c :: s =>
    have h1 : bidx (t :: c :: s) 1 = some (c.toNat : Int) := by simp [bidx]
    have hc := b_lt c
    rw [if_neg (by simp; omega), h1]
    simp only [Option.bind_some]
    rw [wr64 (x := (c.toNat : Int)) (by omega)]
    by_cases hA : c.toNat = 128 ∨ 131 < c.toNat
    ·have : (if ((c.toNat : Int) == 128) = true then some true else some (decide ((c.toNat : Int) > 131))) = some true := by
      by_cases h : c.toNat = 128
      ·rw [if_pos (by simp; omega)]
      ·rw [if_neg (by simp; omega)]; simp; omega
     rw [this, if_pos hA]; rfl
    ·have : (if ((c.toNat : Int) == 128) = true then some true else some (decide ((c.toNat : Int) > 131))) = some false := by
      rw [if_neg (by simp; omega)]; simp; omega
     rw [this, if_neg hA]
     simp only [Option.bind_some, Bool.false_eq_true, if_false]
     have hlen : (t :: c :: s).length = s.length + 2 := rfl
     have fin : ∀ (m k : Nat), m ≤ 131072 → k ≤ s.length → k ≤ 3 →
       (if (decide (IntKind.wrap .i64 (((t :: c :: s).length : Int) - ((k + 2 : Nat) : Int)) < (m : Int))) = true then some ((T_api_Element.mk 0 ([] : Bs) ([] : Bs)), ([] : Bs), (3 : Int)) else
        ((bidx (t :: c :: s) 0).bind fun x54 => (ssl (t :: c :: s) ((k + 2 : Nat) : Int) (IntKind.wrap .i64 (((k + 2 : Nat) : Int) + (m : Int)))).bind fun x56 =>
         (ssl (t :: c :: s) 0 (IntKind.wrap .i64 (((k + 2 : Nat) : Int) + (m : Int)))).bind fun x57 =>
         (ssl (t :: c :: s) (IntKind.wrap .i64 (((k + 2 : Nat) : Int) + (m : Int))) ((t :: c :: s).length)).bind fun x58 =>
         some ((T_api_Element.mk (IntKind.wrap .i64 x54) x56 x57), x58, 0))) =
       some (if s.length - k < m then (E0, [], 3) else (⟨t.toNat, (s.drop k).take m, t :: c :: s.take (k + m)⟩, s.drop (k + m), 0)) := by
      intro m k hm hk hk3
      rw [wr64 (by rw [hlen]; omega), hlen]
      by_cases hz : s.length - k < m
      ·rw [if_pos (by simp; omega), if_pos hz]
      ·rw [if_neg (by simp; omega), if_neg hz]
       have e1 : IntKind.wrap .i64 (((k + 2 : Nat) : Int) + (m : Int)) = ((k + 2 + m : Nat) : Int) := by rw [wr64 (by omega)]; omega
       rw [e1, h0]
       simp only [Option.bind_some]
       rw [wr64 (x := (t.toNat : Int)) (by omega), show (0 : Int) = ((0 : Nat) : Int) from rfl, ssl_nat (by omega) (by rw [hlen]; omega), ssl_nat (by omega) (by rw [hlen]; omega), ssl_nat (by rw [← hlen]; omega) (by rw [hlen]; omega)]
       simp only [Option.bind_some, Option.some.injEq, Prod.mk.injEq, T_api_Element.mk.injEq, true_and, and_true]
       have e2 : k + 2 + m = (k + m) + 2 := by omega
       rw [e2]
       refine ⟨⟨?_, ?_⟩, ?_⟩
       ·simp [List.take_succ_cons, List.drop_take]
       ·simp [List.take_succ_cons]
       ·simp [List.take_of_length_le]
     by_cases hB : c.toNat < 128
     ·rw [if_neg (by simp; omega), if_pos hB]
      simp only [ctlB]
      have := fin c.toNat 0 (by omega) (by omega) (by omega)
      simp only [Nat.zero_add, Nat.sub_zero, List.drop_zero] at this
      exact this
     ·rw [if_pos (by simp; omega), if_neg hB]
      have e3 : IntKind.wrap .i64 ((c.toNat : Int) - 128) = ((c.toNat - 128 : Nat) : Int) := by rw [wr64 (by omega)]; omega
      have e4 : IntKind.wrap .i64 ((2 : Int) + ((c.toNat - 128 : Nat) : Int)) = ((c.toNat - 128 + 2 : Nat) : Int) := by rw [wr64 (by omega)]; omega
      rw [e3, e4, hlen]
      generalize hk : c.toNat - 128 = k at *
      have hk3 : k ≤ 3 := by omega
      by_cases hC : s.length < k
      ·rw [if_pos (by simp; omega), if_pos hC]
       simp [ctlB]
      ·rw [if_neg (by simp; omega), if_neg hC]
       have hr := rl2 (n := n) (x2 := (c.toNat : Int)) (t := t) (c := c) (s := s) (k := k) (by rw [wr64 (x := (c.toNat : Int)) (by omega), e3]) hk3 (by omega) n 0 0 (by omega) (by omega) (by simp)
       rw [show ((0 : Nat) : Int) = 0 from rfl] at hr
       rw [hr]
       simp only [Option.bind_some, List.drop_zero]
       have hle : lidx ([0, 128, 256, 65536] : List Int) ((k : Nat) : Int) = some (least k : Int) := by
        have : k = 1 ∨ k = 2 ∨ k = 3 := by omega
        rcases this with rfl | rfl | rfl <;> rfl
       rw [hle]
       simp only [Option.bind_some]
       show ctlB ((if decide (((num (s.take k) : Nat) : Int) < (least k : Int)) = true then some true else some (decide (((num (s.take k) : Nat) : Int) > 131072))).bind _) _ _ = _
       by_cases hD : (num (s.take k) < least k ∨ 131072 < num (s.take k))
       ·have : (if decide (((num (s.take k) : Nat) : Int) < (least k : Int)) = true then some true else some (decide (((num (s.take k) : Nat) : Int) > 131072))) = some true := by
         by_cases h : (num (s.take k) < least k)
         ·rw [if_pos (by simp; omega)]
         ·rw [if_neg (by simp; omega)]; simp; omega
        rw [this, if_pos hD]; rfl
       ·have : (if decide (((num (s.take k) : Nat) : Int) < (least k : Int)) = true then some true else some (decide (((num (s.take k) : Nat) : Int) > 131072))) = some false := by
         rw [if_neg (by simp; omega)]; simp; omega
        rw [this, if_neg hD]
        simp only [Option.bind_some, Bool.false_eq_true, if_false, ctlB]
        exact fin (num (s.take k)) k (by omega) (by omega) hk3
theorem tRead_ok {b : Bs} (h : (tRead b).2.2 = 0) : b = (tRead b).1.f_Raw ++ (tRead b).2.1 ∧ 2 ≤ (tRead b).1.f_Raw.length ∧ (tRead b).1.f_Content.length + 2 ≤ (tRead b).1.f_Raw.length ∧ ∃ t : UInt8, (tRead b).1.f_Tag = (t.toNat : Int) := by
 unfold tRead at h ⊢
 match b with
 | [] => simp at h
 | t :: r =>
  simp only at h ⊢
  by_cases h31 : t.toNat % 32 = 31
  ·simp [h31] at h
  ·simp only [h31, if_false] at h ⊢
   match r with
   | [] => simp at h
   | c :: s =>
    simp only at h ⊢
    by_cases hA : c.toNat = 128 ∨ 131 < c.toNat
    ·simp [hA] at h
    ·rw [if_neg hA] at h ⊢
     by_cases hB : c.toNat < 128
     ·rw [if_pos hB] at h ⊢
      by_cases hC : s.length < c.toNat
      ·simp [hC] at h
      ·rw [if_neg hC]
       refine ⟨by simp, by simp, by simp, t, rfl⟩
     ·rw [if_neg hB] at h ⊢
      by_cases hC : s.length < c.toNat - 128
      ·simp [hC] at h
      ·rw [if_neg hC] at h ⊢
       by_cases hD : (num (s.take (c.toNat - 128)) < least (c.toNat - 128) ∨ 131072 < num (s.take (c.toNat - 128)))
       ·simp [hD] at h
       ·rw [if_neg hD] at h ⊢
        by_cases hE : (s.length - (c.toNat - 128) < num (s.take (c.toNat - 128)))
        ·simp [hE] at h
        ·rw [if_neg hE]
         refine ⟨by simp, by simp, ?_, t, rfl⟩
         simp; omega
def tOne (b : Bs) : T_api_Element × Int := if (tRead b).2.2 ≠ 0 then (E0, (tRead b).2.2) else if (tRead b).2.1 ≠ [] then (E0, 4) else ((tRead b).1, 0)
theorem tlv_One {n : Nat} {b : Bs} (hb : b.length ≤ 4611686018427387904) (hn : 5 ≤ n) : go_tlv_One n b = some (tOne b) := by
 unfold go_tlv_One tOne
 rw [tlv_Read hb hn]
 simp only [Option.bind_some]
 by_cases h : (tRead b).2.2 = 0
 ·by_cases h2 : (tRead b).2.1 = [] <;> simp [h, h2]
 ·simp [h]
theorem ref_One {n : Nat} {b : Bs} (hb : b.length ≤ 4611686018427387904) (hn : 5 ≤ n) : go_certpathref01_One n b = some (tOne b) := by
 unfold go_certpathref01_One tOne
 rw [ref_Read hb hn]
 simp only [Option.bind_some]
 by_cases h : (tRead b).2.2 = 0
 ·by_cases h2 : (tRead b).2.1 = []
  ·simp [h, h2]
  ·have : 0 < (tRead b).2.1.length := List.length_pos_iff.2 h2
   simp [h, h2, this]
 ·simp [h]
def tListF : Nat → Bs → List T_api_Element → List T_api_Element × Int
 | 0, _, acc => (acc, 0)
 | k + 1, b, acc => if b = [] then (acc, 0) else if (tRead b).2.2 ≠ 0 then ([], (tRead b).2.2) else tListF k (tRead b).2.1 (acc ++ [(tRead b).1])
def tList (b : Bs) : List T_api_Element × Int := tListF (b.length + 1) b []
theorem tListF_fuel : ∀ (k k' : Nat) (b : Bs) (acc : List T_api_Element), b.length < k → b.length < k' → tListF k b acc = tListF k' b acc
 | 0, _, b, _, h, _ => by omega
 | _, 0, b, _, _, h => by omega
 | k + 1, k' + 1, b, acc, h, h' => by
  simp only [tListF]
  by_cases hb : b = []
  ·simp [hb]
  ·rw [if_neg hb, if_neg hb]
   by_cases hr : (tRead b).2.2 = 0
   ·obtain ⟨h1, h2, _⟩ := tRead_ok hr
    have hl : (tRead b).2.1.length + 2 ≤ b.length := by
     have := congrArg List.length h1
     rw [List.length_append] at this; omega
    rw [if_neg (by simp [hr]), if_neg (by simp [hr])]
    exact tListF_fuel k k' _ _ (by omega) (by omega)
   ·rw [if_pos hr, if_pos hr]
theorem tlv_List_l1 {n : Nat} (hn : 5 ≤ n) : ∀ (k : Nat) (b : Bs) (acc : List T_api_Element), b.length < k → b.length + acc.length ≤ 1000000000000 →
  ctlB (go_tlv_List_l1 n k b acc) (fun r => some r) (fun y => some (y, 0)) = some (tListF k b acc)
 | 0, b, _, h, _ => by omega
 | k + 1, b, acc, h, hs => by
  rw [go_tlv_List_l1, tListF]
  by_cases hb : b = []
  ·simp [hb, ctlB]
  ·rw [if_pos (by simp [hb]), if_neg hb, tlv_Read (by omega) hn]
   simp only [Option.bind_some]
   by_cases hr : (tRead b).2.2 = 0
   ·obtain ⟨h1, h2, _⟩ := tRead_ok hr
    have hl : (tRead b).2.1.length + 2 ≤ b.length := by
     have := congrArg List.length h1
     rw [List.length_append] at this; omega
    rw [if_neg (by simp [hr]), if_neg (by simp [hr]), lapp_some (by simp; omega)]
    simp only [Option.bind_some]
    exact tlv_List_l1 hn k _ _ (by omega) (by simp; omega)
   ·rw [if_pos (by simpa using hr), if_pos hr]; rfl
theorem tlv_List {n : Nat} {b : Bs} (hb : b.length ≤ 1000000000000) (hn : b.length + 5 ≤ n) : go_tlv_List n b = some (tList b) := by
 unfold go_tlv_List
 rw [tlv_List_l1 (by omega) n b [] (by omega) (by simpa using hb)]
 exact congrArg some (tListF_fuel _ _ _ _ (by omega) (by omega))
theorem ref_List_l1 {n : Nat} (hn : 5 ≤ n) : ∀ (k : Nat) (b : Bs) (acc : List T_api_Element), b.length < k → b.length + acc.length ≤ 1000000000000 →
  ctlB (go_certpathref01_List_l1 n k b acc) (fun r => some r) (fun y => some (y, 0)) = some (tListF k b acc)
 | 0, b, _, h, _ => by omega
 | k + 1, b, acc, h, hs => by
  rw [go_certpathref01_List_l1, tListF]
  by_cases hb : b = []
  ·simp [hb, ctlB]
  ·have hp : 0 < b.length := List.length_pos_iff.2 hb
   rw [if_pos (by simp; omega), if_neg hb, ref_Read (by omega) hn]
   simp only [Option.bind_some]
   by_cases hr : (tRead b).2.2 = 0
   ·obtain ⟨h1, h2, _⟩ := tRead_ok hr
    have hl : (tRead b).2.1.length + 2 ≤ b.length := by
     have := congrArg List.length h1
     rw [List.length_append] at this; omega
    rw [if_neg (by simp [hr]), if_neg (by simp [hr]), lapp_some (by simp; omega)]
    simp only [Option.bind_some]
    exact ref_List_l1 hn k _ _ (by omega) (by simp; omega)
   ·rw [if_pos (by simpa using hr), if_pos hr]; rfl
theorem ref_List {n : Nat} {b : Bs} (hb : b.length ≤ 1000000000000) (hn : b.length + 5 ≤ n) : go_certpathref01_List n b = some (tList b) := by
 unfold go_certpathref01_List
 rw [ref_List_l1 (by omega) n b [] (by omega) (by simpa using hb)]
 exact congrArg some (tListF_fuel _ _ _ _ (by omega) (by omega))
theorem tag32 (t : UInt8) : (iand .i64 (t.toNat : Int) 32 == 0) = (Int.tmod (IntKind.wrap .i64 (Int.tdiv (t.toNat : Int) 32)) 2 == 0) := by
 have : ∀ n : Nat, n < 256 → (iand .i64 (n : Int) 32 == 0) = (Int.tmod (IntKind.wrap .i64 (Int.tdiv (n : Int) 32)) 2 == 0) := by
  intro n hn
  have := List.all_eq_true.1 (show ((List.range 256).all fun n : Nat => (iand .i64 (n : Int) 32 == 0) == (Int.tmod (IntKind.wrap .i64 (Int.tdiv (n : Int) 32)) 2 == 0)) = true by kernel_rfl) n (by simpa using hn)
  simpa using this
 exact this _ (b_lt t)
theorem within_l1 {n : Nat} (hn : 5 ≤ n) {d : Nat} (hd : d ≤ 15) {rc rc' : T_api_Element → Int → Option Int}
  (hrc : d < 15 → ∀ e : T_api_Element, (∃ t : UInt8, e.f_Tag = (t.toNat : Int)) → e.f_Content.length ≤ 1000000000000 → e.f_Content.length + 5 ≤ n → ∃ x, rc e ((d + 2 : Nat) : Int) = some x ∧ rc' e ((d + 1 : Nat) : Int) = some x) :
  ∀ (k : Nat) (b : Bs), b.length < k → b.length ≤ 1000000000000 → b.length + 5 ≤ n → ∃ c, go_tlv_within_l1 n rc ((d + 1 : Nat) : Int) k b = some c ∧ go_certpathref01_check_l1 n rc' (d : Int) k b = some c
 | 0, b, h, _, _ => by omega
 | k + 1, b, h, hs, hb2 => by
  rw [go_tlv_within_l1, go_certpathref01_check_l1]
  by_cases hb : b = []
  ·subst hb; exact ⟨.nxt (), by simp, by simp⟩
  ·have hp : 0 < b.length := List.length_pos_iff.2 hb
   rw [if_pos (by simp [hb]), if_pos (by simp; omega), tlv_Read (by omega) hn, ref_Read (by omega) hn]
   simp only [Option.bind_some]
   by_cases hr : (tRead b).2.2 = 0
   ·obtain ⟨h1, h2, h3, h4⟩ := tRead_ok hr
    have hl : (tRead b).1.f_Raw.length + (tRead b).2.1.length = b.length := by
     have := congrArg List.length h1
     rw [List.length_append] at this; omega
    have e0 : ((tRead b).2.2 != 0) = false := by simp [hr]
    rw [e0, wr64 (x := (d : Int) + 1) (by omega)]
    simp only [Bool.false_eq_true, if_false]
    by_cases h15 : d = 15
    ·subst h15; exact ⟨.ret 8, by simp, by simp⟩
    ·have e3 : (decide ((d : Int) + 1 ≥ 16)) = false := by simp; omega
     have e4 : (decide (((d + 1 : Nat) : Int) ≥ 16)) = false := by simp; omega
     rw [e3, e4]
     simp only [Bool.false_eq_true, if_false]
     obtain ⟨x, e1, e2⟩ := hrc (by omega) (tRead b).1 h4 (by omega) (by omega)
     rw [w1 (by omega), show ((d : Int) + 1) = ((d + 1 : Nat) : Int) by omega, e1, e2]
     simp only [Option.bind_some]
     by_cases hx : x = 0
     ·have e5 : (x != 0) = false := by simp [hx]
      rw [e5]
      simp only [Bool.false_eq_true, if_false]
      exact within_l1 hn hd hrc k _ (by omega) (by omega) (by omega)
     ·have e5 : (x != 0) = true := by simp [hx]
      rw [e5]; exact ⟨_, rfl, rfl⟩
   ·have e0 : ((tRead b).2.2 != 0) = true := by simp [hr]
    rw [e0]; exact ⟨_, rfl, rfl⟩
theorem within_eq {n : Nat} (hn : 5 ≤ n) : ∀ (kk d : Nat), d ≤ 15 → 16 ≤ kk + d → ∀ e : T_api_Element, (∃ t : UInt8, e.f_Tag = (t.toNat : Int)) → e.f_Content.length ≤ 1000000000000 → e.f_Content.length + 5 ≤ n →
  ∃ x, go_tlv_within n kk e ((d + 1 : Nat) : Int) = some x ∧ go_certpathref01_check n kk e (d : Int) = some x
 | 0, d, h, h', _, _, _, _ => by omega
 | kk + 1, d, h, h', e, ⟨t, ht⟩, hc, hc2 => by
  rw [go_tlv_within, go_certpathref01_check, ht, tag32]
  by_cases hx : (Int.tmod (IntKind.wrap .i64 (Int.tdiv (t.toNat : Int) 32)) 2 == 0) = true
  ·rw [if_pos hx, if_pos hx]; exact ⟨0, rfl, rfl⟩
  ·rw [if_neg hx, if_neg hx]
   obtain ⟨c, e1, e2⟩ := within_l1 hn h (rc := go_tlv_within n kk) (rc' := go_certpathref01_check n kk) (fun hd e he h1 h2 => by
    have := within_eq hn kk (d + 1) (by omega) (by omega) e he h1 h2
    exact this) n e.f_Content (by omega) hc hc2
   rw [e1, e2]
   cases c with
   | ret r => exact ⟨r, rfl, rfl⟩
   | nxt u => exact ⟨0, rfl, rfl⟩
theorem check_eq {n : Nat} {b : Bs} (hb : b.length ≤ 1000000000000) (hn : b.length + 20 ≤ n) : ∃ x, go_tlv_Check n b = some x ∧ go_certpathref01_Check n b = some x ∧ (x = 0 → (tOne b).2 = 0) := by
 unfold go_tlv_Check go_certpathref01_Check
 rw [tlv_One (by omega) (by omega), ref_One (by omega) (by omega)]
 simp only [Option.bind_some]
 by_cases h : (tOne b).2 = 0
 ·rw [if_neg (by simp [h]), if_neg (by simp [h])]
  have hr : (tRead b).2.2 = 0 := by
   unfold tOne at h
   by_cases h' : (tRead b).2.2 = 0
   ·exact h'
   ·rw [if_pos h'] at h; exact h
  have h1 : (tOne b).1 = (tRead b).1 ∨ (tOne b).1 = E0 := by
   unfold tOne; rw [if_neg (by simp [hr])]; split
   ·exact .inr rfl
   ·exact .inl rfl
  obtain ⟨k1, k2, k3, k4⟩ := tRead_ok hr
  have hl : (tRead b).1.f_Raw.length + (tRead b).2.1.length = b.length := by
   have := congrArg List.length k1
   rw [List.length_append] at this; omega
  obtain ⟨x, e1, e2⟩ := within_eq (n := n) (by omega) n 0 (by omega) (by omega) (tOne b).1 (by
   rcases h1 with h1 | h1 <;> rw [h1]
   ·exact k4
   ·exact ⟨0, rfl⟩) (by rcases h1 with h1 | h1 <;> rw [h1]; omega; simp) (by rcases h1 with h1 | h1 <;> rw [h1]; omega; simp; omega)
  rw [show (1 : Int) = ((0 + 1 : Nat) : Int) from rfl, e1, show (0 : Int) = ((0 : Nat) : Int) from rfl, e2]
  exact ⟨x, rfl, rfl, fun _ => h⟩
 ·rw [if_pos (by simpa using h), if_pos (by simpa using h)]
  exact ⟨_, rfl, rfl, fun h => h⟩
def o8 (n : Nat) : UInt8 := UInt8.ofNat n
def tHead (t n : Nat) : Bs :=
 if n < 128 then [o8 t, o8 n] else if n < 256 then [o8 t, 129, o8 n] else if n < 65536 then [o8 t, 130, o8 (n / 256), o8 n] else [o8 t, 131, o8 (n / 65536), o8 (n / 256), o8 n]
def tWrap (t : Nat) (c : Bs) : Bs × Int := if c.length ≤ 131072 then (tHead t c.length ++ c, 0) else ([], 6)
theorem o8_wrap (n : Nat) : UInt8.ofNat (IntKind.wrap .u8 (n : Int)).toNat = o8 n := by
 have h : IntKind.wrap .u8 (n : Int) = ((n % 256 : Nat) : Int) := by
  rw [IntKind.wrap]; simp [IntKind.signed, IntKind.bits]
 rw [h]; unfold o8
 apply UInt8.toNat_inj.1
 simp; omega
theorem fdivN (a b : Nat) (h : 0 < b) : Int.fdiv (a : Int) (b : Int) = ((a / b : Nat) : Int) := by
 rw [Int.fdiv_eq_ediv_of_nonneg _ (by omega)]; rfl
theorem tHead_len (t n : Nat) : 2 ≤ (tHead t n).length ∧ (tHead t n).length ≤ 5 := by
 unfold tHead; split
 ·simp
 ·split
  ·simp
  ·split <;> simp
theorem tWrap_len (t : Nat) (c : Bs) : (tWrap t c).1.length ≤ c.length + 5 := by
 unfold tWrap; split
 ·have := tHead_len t c.length; simp; omega
 ·simp
theorem wrap_l1 {n : Nat} (cs : List Bs) (hm : ∀ c ∈ cs, c.length ≤ 1000000000000) : ∀ (k : Nat) (pre suf : List Bs), cs = pre ++ suf → suf.length < k → cs.length ≤ 1000000000000 → pre.flatten.length ≤ 131072 →
  go_tlv_Wrap_l1 n cs k (pre.flatten.length : Int) (pre.length : Int) = some (if cs.flatten.length ≤ 131072 then .nxt (cs.flatten.length : Int) else .ret ([], 6))
 | 0, _, _, _, h, _, _ => by omega
 | k + 1, pre, [], hp, hk, hl, ht => by
  simp at hp; subst hp
  rw [go_tlv_Wrap_l1, if_neg (by simp [-List.length_flatten]), if_pos ht]
 | k + 1, pre, c :: suf, hp, hk, hl, ht => by
  have hlen : cs.length = pre.length + (suf.length + 1) := by rw [hp]; simp [-List.length_flatten]
  have hfl : cs.flatten.length = pre.flatten.length + (c.length + suf.flatten.length) := by rw [hp, List.flatten_append, List.length_append, List.flatten_cons, List.length_append]
  have hx : lidx cs (pre.length : Int) = some c := by
   rw [lidx_nat (by omega)]; congr 1; simp [hp]
  rw [go_tlv_Wrap_l1, if_pos (by simp [-List.length_flatten]; omega), hx]
  simp only [Option.bind_some]
  rw [wr64 (x := (131072 : Int) - (pre.flatten.length : Int)) (by omega)]
  have hc := hm c (by rw [hp]; simp)
  by_cases hb : pre.flatten.length + c.length ≤ 131072
  ·have ih := wrap_l1 (n := n) cs hm k (pre ++ [c]) suf (by rw [hp]; simp) (by simp at hk; omega) hl (by rw [List.flatten_append, List.length_append]; simp [-List.length_flatten]; omega)
   rw [if_neg (by simp [-List.length_flatten]; omega), wr64 (by omega), w1 (by omega)]
   rw [show ((pre.flatten.length : Int) + (c.length : Int)) = (((pre ++ [c]).flatten.length : Nat) : Int) by rw [List.flatten_append, List.length_append]; simp [-List.length_flatten], show pre.length + 1 = (pre ++ [c]).length by simp]
   exact ih
  ·rw [if_pos (by simp [-List.length_flatten]; omega), if_neg (by omega)]
theorem flatten_join (cs : List Bs) : Lib.join cs [] = cs.flatten := by
 induction cs with
 | nil => rfl
 | cons c r ih => rw [Lib.join_cons]; simp [Lib.joinTail]
theorem ctJoin0 {n : Nat} {cs : List Bs} (h1 : cs.flatten.length ≤ 140737488355328) (h2 : cs.length ≤ 140737488355328) : ct_Join n cs [] = some cs.flatten := by
 unfold ct_Join; rw [flatten_join, if_pos ⟨h1, h2⟩]
theorem tlv_Wrap {n : Nat} {t : Nat} {cs : List Bs} (h1 : t ≤ 255) (h2 : t % 32 ≠ 31) (hm : ∀ c ∈ cs, c.length ≤ 1000000000000) (hn : cs.length < n) (hl : cs.length ≤ 1000000000000) :
  go_tlv_Wrap n (t : Int) cs = some (tWrap t cs.flatten) := by
 unfold go_tlv_Wrap tWrap
 have h31 : (iand .i64 (t : Int) 31 == 31) = false := by
  have := tag31 (UInt8.ofNat t)
  rw [show (UInt8.ofNat t).toNat = t by simp [-List.length_flatten]; omega] at this
  rw [this]; simp [h2]
 rw [if_neg (by simp [-List.length_flatten]), if_neg (by simp [-List.length_flatten]; omega), h31]
 simp only [Option.bind_some, Bool.false_eq_true, if_false]
 have := wrap_l1 (n := n) cs hm n [] cs rfl hn hl (by simp [-List.length_flatten])
 simp only [List.flatten_nil, List.length_nil] at this
 rw [show ((0 : Nat) : Int) = 0 from rfl] at this
 rw [this]
 by_cases hc : cs.flatten.length ≤ 131072
 ·rw [if_pos hc, if_pos hc]
  simp only [ctlB]
  generalize hL : cs.flatten.length = L at *
  have e1 : Int.fdiv (L : Int) 256 = ((L / 256 : Nat) : Int) := fdivN L 256 (by omega)
  have e2 : Int.fdiv (L : Int) 65536 = ((L / 65536 : Nat) : Int) := fdivN L 65536 (by omega)
  rw [e1, e2, ctJoin0 (by omega) (by omega)]
  unfold tHead
  by_cases a1 : L < 128
  ·rw [if_pos (by simp [-List.length_flatten]; omega), if_pos a1]
   simp only [lappx, Option.bind_some]
   simp [sadd, b2s, o8_wrap, hL]
   have : 2 + L ≤ 9223372036854775807 := by omega
   simp [this]
  ·by_cases a2 : L < 256
   ·rw [if_neg (by simp [-List.length_flatten]; omega), if_pos (by simp [-List.length_flatten]; omega), if_neg a1, if_pos a2]
    simp only [lappx, Option.bind_some]
    simp [sadd, b2s, o8_wrap, hL]
    have : 3 + L ≤ 9223372036854775807 := by omega
    simp [this]
   ·by_cases a3 : L < 65536
    ·rw [if_neg (by simp [-List.length_flatten]; omega), if_neg (by simp [-List.length_flatten]; omega), if_pos (by simp [-List.length_flatten]; omega), if_neg a1, if_neg a2, if_pos a3]
     simp only [lappx, Option.bind_some]
     simp only [sadd, b2s, List.map_append, List.map_cons, List.map_nil, o8_wrap, List.length_append, List.length_cons, List.length_nil, hL]
     have : 0 + 1 + (0 + 1 + 1 + 1) + L ≤ 9223372036854775807 := by omega
     simp [this]
     exact ⟨o8_wrap t, o8_wrap (L / 256), o8_wrap L⟩
    ·rw [if_neg (by simp [-List.length_flatten]; omega), if_neg (by simp [-List.length_flatten]; omega), if_neg (by simp [-List.length_flatten]; omega), if_neg a1, if_neg a2, if_neg a3]
     simp only [lappx, Option.bind_some]
     simp only [sadd, b2s, List.map_append, List.map_cons, List.map_nil, o8_wrap, List.length_append, List.length_cons, List.length_nil, hL]
     have : 0 + 1 + (0 + 1 + 1 + 1 + 1) + L ≤ 9223372036854775807 := by omega
     simp [this]
     exact ⟨o8_wrap t, o8_wrap (L / 65536), o8_wrap (L / 256), o8_wrap L⟩
 ·rw [if_neg hc, if_neg hc]; rfl
theorem rwrap_l1 {n : Nat} (cs : List Bs) : ∀ (k : Nat) (pre suf : List Bs), cs = pre ++ suf → suf.length < k → cs.length ≤ 1000000000000 → cs.flatten.length ≤ 1000000000000 →
  go_certpathref01_Wrap_l1 n cs k pre.flatten (pre.length : Int) = some cs.flatten
 | 0, _, _, _, h, _, _ => by omega
 | k + 1, pre, [], hp, hk, hl, ht => by
  simp at hp; subst hp
  rw [go_certpathref01_Wrap_l1, if_neg (by simp [-List.length_flatten])]
 | k + 1, pre, c :: suf, hp, hk, hl, ht => by
  have hlen : cs.length = pre.length + (suf.length + 1) := by rw [hp]; simp [-List.length_flatten]
  have hfl : cs.flatten.length = pre.flatten.length + (c.length + suf.flatten.length) := by rw [hp, List.flatten_append, List.length_append, List.flatten_cons, List.length_append]
  have hx : lidx cs (pre.length : Int) = some c := by
   rw [lidx_nat (by omega)]; congr 1; simp [hp]
  rw [go_certpathref01_Wrap_l1, if_pos (by simp [-List.length_flatten]; omega), hx]
  simp only [Option.bind_some]
  rw [sadd_some (by omega), w1 (by omega)]
  simp only [Option.bind_some]
  have ih := rwrap_l1 (n := n) cs k (pre ++ [c]) suf (by rw [hp]; simp) (by simp at hk; omega) hl ht
  simp only [List.flatten_append, List.flatten_cons, List.flatten_nil, List.append_nil, List.length_append, List.length_cons, List.length_nil, Nat.zero_add] at ih
  exact ih
theorem ref_Wrap {n : Nat} {t : Nat} {cs : List Bs} (h1 : t ≤ 255) (h2 : t % 32 ≠ 31) (hm : cs.flatten.length ≤ 1000000000000) (hn : cs.length < n) (hl : cs.length ≤ 1000000000000) :
  go_certpathref01_Wrap n (t : Int) cs = some (tWrap t cs.flatten) := by
 unfold go_certpathref01_Wrap tWrap
 have h31 : (Int.tmod (t : Int) 32 == 31) = false := by
  rw [show Int.tmod (t : Int) 32 = ((t % 32 : Nat) : Int) from rfl]; simp; omega
 rw [if_neg (by simp [-List.length_flatten]), if_neg (by simp [-List.length_flatten]; omega), h31]
 simp only [Option.bind_some, Bool.false_eq_true, if_false]
 have := rwrap_l1 (n := n) cs n [] cs rfl hn hl hm
 simp only [List.flatten_nil, List.length_nil] at this
 rw [show ((0 : Nat) : Int) = 0 from rfl] at this
 rw [this]
 simp only [Option.bind_some]
 by_cases hc : cs.flatten.length ≤ 131072
 ·rw [if_neg (by simp [-List.length_flatten]; omega), if_pos hc]
  generalize hL : cs.flatten.length = L at *
  have e1 : Int.fdiv (L : Int) 256 = ((L / 256 : Nat) : Int) := fdivN L 256 (by omega)
  have e2 : Int.fdiv (L : Int) 65536 = ((L / 65536 : Nat) : Int) := fdivN L 65536 (by omega)
  rw [e1, e2]
  unfold tHead
  by_cases a3 : L < 65536
  ·rw [if_neg (by simp [-List.length_flatten]; omega)]
   by_cases a2 : L < 256
   ·rw [if_neg (by simp [-List.length_flatten]; omega)]
    by_cases a1 : L < 128
    ·rw [if_neg (by simp [-List.length_flatten]; omega), if_pos a1]
     simp only [Option.bind_some]
     rw [sadd_some (by simp [b2s, -List.length_flatten]; omega)]
     simp [b2s, o8_wrap]
    ·rw [if_pos (by simp [-List.length_flatten]; omega), if_neg a1, if_pos a2]
     simp only [Option.bind_some]
     rw [sadd_some (by simp [b2s, -List.length_flatten]; omega)]
     simp [b2s, o8_wrap]
   ·rw [if_pos (by simp [-List.length_flatten]; omega), if_neg (by omega), if_neg a2, if_pos a3]
    simp only [Option.bind_some]
    rw [sadd_some (by simp [b2s, -List.length_flatten]; omega)]
    simp only [b2s, List.map_cons, List.map_nil, o8_wrap]; rfl
  ·rw [if_pos (by simp [-List.length_flatten]; omega), if_neg (by omega), if_neg (by omega), if_neg a3]
   simp only [Option.bind_some]
   rw [sadd_some (by simp [b2s, -List.length_flatten]; omega)]
   simp only [b2s, List.map_cons, List.map_nil, o8_wrap]; rfl
 ·rw [if_pos (by simp [-List.length_flatten]; omega), if_neg hc]
theorem o8_nat {n : Nat} (h : n < 256) : (o8 n).toNat = n := by unfold o8; simp; omega
theorem tRead_wrap {t : Nat} {c rest : Bs} (h1 : t ≤ 255) (h2 : t % 32 ≠ 31) (hc : c.length ≤ 131072) : tRead ((tWrap t c).1 ++ rest) = (⟨t, c, (tWrap t c).1⟩, rest, 0) := by
 unfold tWrap
 rw [if_pos hc]
 simp only
 generalize hL : c.length = L at *
 have ht : (o8 t).toNat = t := o8_nat (by omega)
 unfold tHead
 by_cases a1 : L < 128
 ·rw [if_pos a1]
  have hb : (o8 L).toNat = L := o8_nat (by omega)
  simp only [List.cons_append, List.nil_append, tRead, ht, hb, h2, if_false]
  rw [if_neg (by omega), if_pos a1, if_neg (by simp; omega)]
  simp [← hL]
 ·rw [if_neg a1]
  by_cases a2 : L < 256
  ·rw [if_pos a2]
   have hb : (o8 L).toNat = L := o8_nat (by omega)
   have hn : num ((o8 L :: (c ++ rest)).take 1) = L := by simp [num, hb]
   simp only [List.cons_append, List.nil_append, tRead, ht, h2, if_false]
   rw [if_neg (by decide), if_neg (by decide), show (129 : UInt8).toNat - 128 = 1 from rfl, if_neg (by simp), hn, if_neg (by simp [least]; omega), if_neg (by simp; omega)]
   simp [← hL, show 1 + c.length = c.length + 1 by omega]
  ·rw [if_neg a2]
   by_cases a3 : L < 65536
   ·rw [if_pos a3]
    have hb : (o8 (L / 256)).toNat = L / 256 := o8_nat (by omega)
    have hb2 : (o8 L).toNat = L % 256 := by unfold o8; simp
    have hn : num ((o8 (L / 256) :: o8 L :: (c ++ rest)).take 2) = L := by simp [num, hb, hb2]; omega
    simp only [List.cons_append, List.nil_append, tRead, ht, h2, if_false]
    rw [if_neg (by decide), if_neg (by decide), show (130 : UInt8).toNat - 128 = 2 from rfl, if_neg (by simp), hn, if_neg (by simp [least]; omega), if_neg (by simp; omega)]
    simp [← hL, show 2 + c.length = c.length + 1 + 1 by omega]
   ·rw [if_neg a3]
    have hb0 : (o8 (L / 65536)).toNat = L / 65536 := o8_nat (by omega)
    have hb : (o8 (L / 256)).toNat = L / 256 % 256 := by unfold o8; simp
    have hb2 : (o8 L).toNat = L % 256 := by unfold o8; simp
    have hn : num ((o8 (L / 65536) :: o8 (L / 256) :: o8 L :: (c ++ rest)).take 3) = L := by simp [num, hb0, hb, hb2]; omega
    simp only [List.cons_append, List.nil_append, tRead, ht, h2, if_false]
    rw [if_neg (by decide), if_neg (by decide), show (131 : UInt8).toNat - 128 = 3 from rfl, if_neg (by simp), hn, if_neg (by simp [least]; omega), if_neg (by simp; omega)]
    simp [← hL, show 3 + c.length = c.length + 1 + 1 + 1 by omega]
def elm (p : Nat × Bs) : T_api_Element := ⟨p.1, p.2, (tWrap p.1 p.2).1⟩
def POk (p : Nat × Bs) : Prop := p.1 ≤ 255 ∧ p.1 % 32 ≠ 31 ∧ p.2.length ≤ 131072
def wraps (l : List (Nat × Bs)) : Bs := (l.map fun p => (tWrap p.1 p.2).1).flatten
theorem wrap_ne (t : Nat) {c : Bs} (hc : c.length ≤ 131072) : 2 ≤ (tWrap t c).1.length := by
 unfold tWrap; rw [if_pos hc]; have := tHead_len t c.length; simp; omega
theorem tListF_wraps : ∀ (l : List (Nat × Bs)) (k : Nat) (acc : List T_api_Element), (∀ p ∈ l, POk p) → (wraps l).length < k → tListF k (wraps l) acc = (acc ++ l.map elm, 0)
 | [], 0, acc, _, h => by omega
 | [], k + 1, acc, _, _ => by simp [wraps, tListF]
 | p :: r, 0, acc, _, h => by omega
 | p :: r, k + 1, acc, hp, h => by
  obtain ⟨h1, h2, h3⟩ := hp p (by simp)
  have hw : wraps (p :: r) = (tWrap p.1 p.2).1 ++ wraps r := by simp [wraps]
  have hne := wrap_ne p.1 h3
  rw [hw] at h ⊢
  rw [tListF, if_neg (by intro h'; have := congrArg List.length h'; simp at this; simp [this.1] at hne), tRead_wrap h1 h2 h3]
  rw [if_neg (by simp)]
  rw [tListF_wraps r k _ (fun q hq => hp q (by simp [hq])) (by simp at h; omega)]
  simp [elm]
theorem tList_wraps {l : List (Nat × Bs)} (h : ∀ p ∈ l, POk p) : tList (wraps l) = (l.map elm, 0) := by
 unfold tList; rw [tListF_wraps l _ [] h (by omega)]; rfl
theorem tOne_wrap {t : Nat} {c : Bs} (h1 : t ≤ 255) (h2 : t % 32 ≠ 31) (hc : c.length ≤ 131072) : tOne (tWrap t c).1 = (⟨t, c, (tWrap t c).1⟩, 0) := by
 have := tRead_wrap (rest := []) h1 h2 hc
 rw [List.append_nil] at this
 unfold tOne
 rw [this]; simp
theorem add_of_le {n k : Nat} (h : k ≤ n) : ∃ m, n = m + k := ⟨n - k, by omega⟩
theorem putP_small {n v : Nat} (hn : 20 ≤ n) (hv : v < 64) : go_prim_PutInteger n (v : Int) = some [o8 v] := by
 obtain ⟨m, rfl⟩ := add_of_le hn
 have := List.all_eq_true.1 (show ((List.range 64).all fun v : Nat => decide (go_prim_PutInteger (m + 20) (v : Int) = some [o8 v])) = true by kernel_rfl) v (by simpa using hv)
 simpa using this
theorem putR_small {n v : Nat} (hn : 20 ≤ n) (hv : v < 64) : go_certpathref01_PutInteger n (v : Int) = some [o8 v] := by
 obtain ⟨m, rfl⟩ := add_of_le hn
 have := List.all_eq_true.1 (show ((List.range 64).all fun v : Nat => decide (go_certpathref01_PutInteger (m + 20) (v : Int) = some [o8 v])) = true by kernel_rfl) v (by simpa using hv)
 simpa using this
theorem intP_small {n v : Nat} (hn : 20 ≤ n) (hv : v < 64) : go_prim_Integer n [o8 v] = some ((v : Int), 0) := by
 obtain ⟨m, rfl⟩ := add_of_le hn
 have := List.all_eq_true.1 (show ((List.range 64).all fun v : Nat => decide (go_prim_Integer (m + 20) [o8 v] = some ((v : Int), 0))) = true by kernel_rfl) v (by simpa using hv)
 simpa using this
theorem intR_small {n v : Nat} (hn : 20 ≤ n) (hv : v < 64) : go_certpathref01_Integer n [o8 v] = some ((v : Int), 0) := by
 obtain ⟨m, rfl⟩ := add_of_le hn
 have := List.all_eq_true.1 (show ((List.range 64).all fun v : Nat => decide (go_certpathref01_Integer (m + 20) [o8 v] = some ((v : Int), 0))) = true by kernel_rfl) v (by simpa using hv)
 simpa using this
theorem putR_l1 {n : Nat} (a : Int) : ∀ (k j : Nat) (l : List Int), j < k → j ≤ 8 → l.length + j ≤ 1000 → ∃ r, go_certpathref01_PutInteger_l1 n a k l ((j : Int) - 1) = some r ∧ r.length = l.length + j
 | 0, _, _, h, _, _ => by omega
 | k + 1, 0, l, _, _, _ => ⟨l, by rw [go_certpathref01_PutInteger_l1, if_neg (by simp)], by omega⟩
 | k + 1, j + 1, l, hk, hj, hl => by
  rw [go_certpathref01_PutInteger_l1, if_pos (by simp)]
  have e0 : (((j + 1 : Nat) : Int) - 1) = (j : Int) := by omega
  rw [e0, wr64 (x := (8 : Int) * (j : Int)) (by omega)]
  unfold ishr
  rw [if_neg (by omega)]
  simp only [Option.bind_some]
  rw [lapp_some (by simp; omega)]
  simp only [Option.bind_some]
  rw [wr64 (by omega)]
  generalize IntKind.wrap .u8 _ = X
  obtain ⟨r, h1, h2⟩ := putR_l1 (n := n) a k j (l ++ [X]) (by omega) (by omega) (by simp; omega)
  exact ⟨r, h1, by rw [h2, List.length_append]; simp; omega⟩
theorem lsl_tail {α : Type} {l : List α} {x : α} : lsl (x :: l) 1 ((x :: l).length : Nat) = some l := by
 unfold lsl
 rw [if_pos (by simp; omega)]
 simp
theorem putR_l2 {n : Nat} : ∀ (k : Nat) (l : List Int), l.length < k → ∃ r, go_certpathref01_PutInteger_l2 n k l = some r ∧ r.length ≤ l.length
 | 0, _, h => by omega
 | k + 1, l, h => by
  rw [go_certpathref01_PutInteger_l2]
  match l, h with
  | [], h => exact ⟨[], by simp, by simp⟩
  | [x], h => exact ⟨[x], by simp, by simp⟩
  | x :: y :: r, h =>
   rw [if_pos (by simp; omega)]
   have h0 : lidx (x :: y :: r) 0 = some x := by simp [lidx]
   have h1 : lidx (x :: y :: r) 1 = some y := by simp [lidx]
   rw [h0, h1]
   simp only [Option.bind_some]
   have key : ∀ b : Bool, ∃ q, (if b = true then (lsl (x :: y :: r) 1 ((x :: y :: r).length : Nat)).bind fun x94 => go_certpathref01_PutInteger_l2 n k x94 else some (x :: y :: r)) = some q ∧ q.length ≤ (x :: y :: r).length := by
    intro b
    cases b with
    | false => exact ⟨_, rfl, Nat.le_refl _⟩
    | true =>
     rw [if_pos rfl, lsl_tail]
     simp only [Option.bind_some]
     obtain ⟨q, h2, h3⟩ := putR_l2 (n := n) k (y :: r) (by simp at h ⊢; omega)
     exact ⟨q, h2, by simp at h3 ⊢; omega⟩
   by_cases c1 : x = 0
   ·rw [if_pos (by simp [c1])]
    by_cases c2 : y < 128
    ·rw [if_pos (by simp [c2])]; exact key true
    ·rw [if_neg (by simp; omega)]
     rw [if_neg (by simp [c1])]; exact key false
   ·rw [if_neg (by simp [c1])]
    by_cases c2 : x = 255
    ·rw [if_pos (by simp [c2])]; exact key _
    ·rw [if_neg (by simp [c2])]; exact key false
theorem putR_total {n : Nat} (a : Int) (hn : 20 ≤ n) : ∃ s, go_certpathref01_PutInteger n a = some s ∧ s.length ≤ 8 := by
 unfold go_certpathref01_PutInteger
 obtain ⟨r, h1, h2⟩ := putR_l1 (n := n) a n 8 [] (by omega) (by omega) (by simp)
 rw [show (((8 : Nat) : Int) - 1) = 7 from rfl] at h1
 obtain ⟨q, h3, h4⟩ := putR_l2 (n := n) n r (by rw [h2]; simp; omega)
 rw [h1]
 simp only [Option.bind_some, h3]
 exact ⟨_, rfl, by simp [b2s]; simp at h2; omega⟩
theorem intP_l1 {n : Nat} (s : Bs) (h0 : 0 < s.length) (h8 : s.length ≤ 8) : ∀ (k i : Nat) (v : Int), s.length - i < k → ∃ x, go_prim_Integer_l1 n s k v (i : Int) = some x
 | 0, _, _, h => by omega
 | k + 1, i, v, h => by
  rw [go_prim_Integer_l1, wr64 (x := (s.length : Int) - 1) (by omega)]
  by_cases hc : i + 1 < s.length
  ·rw [if_pos (by simp; omega), w1 (by omega), bidx_nat hc]
   simp only [Option.bind_some]
   exact intP_l1 s h0 h8 k (i + 1) _ (by omega)
  ·rw [if_neg (by simp; omega)]; exact ⟨_, rfl⟩
theorem intP_total {n : Nat} (s : Bs) (hn : 20 ≤ n) : ∃ x, go_prim_Integer n s = some x := by
 unfold go_prim_Integer
 rcases Nat.eq_zero_or_pos s.length with h0 | h0
 ·have : s = [] := List.eq_nil_of_length_eq_zero h0
  subst this; exact ⟨_, by simp; rfl⟩
 refine bind_ex ?_ fun b _ => ite_ex (fun _ => ⟨_, rfl⟩) fun _ => ite_ex (fun _ => ⟨_, rfl⟩) fun h8 => bind_ex (bidx_ex (by omega) (by omega)) fun x _ => bind_ex ?_ fun y _ => ⟨_, rfl⟩
 ·refine ite_ex (fun _ => ⟨_, rfl⟩) fun _ => ite_ex (fun h => ?_) fun _ => ⟨_, rfl⟩
  have h1 : 1 < (s.length : Int) := by simpa using h
  refine bind_ex (bidx_ex (by omega) (by omega)) fun x _ => ite_ex (fun _ => bind_ex (bidx_ex (by omega) (by omega)) fun _ _ => ite_ex (fun _ => ⟨_, rfl⟩) fun _ => bind_ex (bidx_ex (by omega) (by omega)) fun _ _ => ite_ex (fun _ => bind_ex (bidx_ex (by omega) (by omega)) fun _ _ => ⟨_, rfl⟩) fun _ => ⟨_, rfl⟩) fun _ => bind_ex (bidx_ex (by omega) (by omega)) fun _ _ => ite_ex (fun _ => bind_ex (bidx_ex (by omega) (by omega)) fun _ _ => ⟨_, rfl⟩) fun _ => ⟨_, rfl⟩
 ·have h8' : s.length ≤ 8 := by simp at h8; omega
  exact intP_l1 (n := n) s h0 h8' n 0 _ (by omega)
theorem intR_l1 {n : Nat} (s : Bs) (h8 : s.length ≤ 8) : ∀ (k i : Nat) (v : Int), s.length - i < k → ∃ x, go_certpathref01_Integer_l1 n s k v (i : Int) = some x
 | 0, _, _, h => by omega
 | k + 1, i, v, h => by
  rw [go_certpathref01_Integer_l1]
  by_cases hc : i < s.length
  ·rw [if_pos (by simp; omega), w1 (by omega), bidx_nat hc]
   simp only [Option.bind_some]
   exact intR_l1 s h8 k (i + 1) _ (by omega)
  ·rw [if_neg (by simp; omega)]; exact ⟨_, rfl⟩
theorem intR_total {n : Nat} (s : Bs) (hn : 20 ≤ n) : ∃ x, go_certpathref01_Integer n s = some x := by
 unfold go_certpathref01_Integer
 rcases Nat.eq_zero_or_pos s.length with h0 | h0
 ·have : s = [] := List.eq_nil_of_length_eq_zero h0
  subst this; exact ⟨_, by simp; rfl⟩
 refine bind_ex ?_ fun b _ => ite_ex (fun _ => ⟨_, rfl⟩) fun _ => ite_ex (fun _ => ⟨_, rfl⟩) fun h8 => bind_ex (bidx_ex (by omega) (by omega)) fun x _ => bind_ex (ite_ex (fun _ => ⟨_, rfl⟩) fun _ => ⟨_, rfl⟩) fun z _ => bind_ex ?_ fun y _ => ⟨_, rfl⟩
 ·refine ite_ex (fun _ => ⟨_, rfl⟩) fun _ => ite_ex (fun h => ?_) fun _ => ⟨_, rfl⟩
  have h1 : 1 < (s.length : Int) := by simpa using h
  refine bind_ex (bidx_ex (by omega) (by omega)) fun x _ => ite_ex (fun _ => bind_ex (bidx_ex (by omega) (by omega)) fun _ _ => ite_ex (fun _ => ⟨_, rfl⟩) fun _ => bind_ex (bidx_ex (by omega) (by omega)) fun _ _ => ite_ex (fun _ => bind_ex (bidx_ex (by omega) (by omega)) fun _ _ => ⟨_, rfl⟩) fun _ => ⟨_, rfl⟩) fun _ => bind_ex (bidx_ex (by omega) (by omega)) fun _ _ => ite_ex (fun _ => bind_ex (bidx_ex (by omega) (by omega)) fun _ _ => ⟨_, rfl⟩) fun _ => ⟨_, rfl⟩
 ·have h8' : s.length ≤ 8 := by simp at h8; omega
  exact intR_l1 (n := n) s h8' n 0 _ (by omega)
end Go.Abs
end
