/- The layer of closed runs: a part. No condition beyond each statement's own. -/
import Derived.Test.YtkabooclnoiclaaGreatDoorK09
set_option linter.unusedVariables false
set_option linter.unusedSimpArgs false
set_option linter.unnecessarySimpa false
section
namespace Go.K
open Go.Abs
abbrev QR := Option (KV × KH)
abbrev QK := KV → KH → QR
noncomputable def KV.hd (v : KV) (K : KV → QR) : QR := KV.rec (motive_1 := fun _ => (KV → QR) → QR) (motive_2 := fun _ => (KV → QR) → QR) (fun K => K .junk) (fun b K => K (.bool b)) (fun k n K => K (.int k n)) (fun n s K => K (.str n s)) (fun i o K => K (.ptr i o)) (fun K => K .nilp) (fun i o l c s K => K (.sl i o l c s)) (fun K => K .slz) (fun K => K .nilsl) (fun fn x y _ _ K => K (.func fn x y)) (fun K => K .nilfunc) (fun i K => K (.yield i)) (fun a _ K => K (.agg a)) (fun a _ K => K (.tuple a)) (fun i K => K (.map i)) (fun K => K .nilmap) (fun ty u _ K => K (.iface ty u)) (fun K => K .niliface) (fun K => K .junk) (fun _ _ _ _ K => K .junk) v K
noncomputable def KV.onBool (v : KV) (f : Bool → QR) (d : QR) : QR := KV.rec (motive_1 := fun _ => (Bool → QR) → (QR) → QR) (motive_2 := fun _ => (Bool → QR) → (QR) → QR) (fun f d => d) (fun b f d => f b) (fun _ _ f d => d) (fun _ _ f d => d) (fun _ _ f d => d) (fun f d => d) (fun _ _ _ _ _ f d => d) (fun f d => d) (fun f d => d) (fun _ _ _ _ _ f d => d) (fun f d => d) (fun _ f d => d) (fun _ _ f d => d) (fun _ _ f d => d) (fun _ f d => d) (fun f d => d) (fun _ _ _ f d => d) (fun f d => d) (fun f d => d) (fun _ _ _ _ f d => d) v f d
noncomputable def KV.onInt (v : KV) (f : IntKind → Int → QR) (d : QR) : QR := KV.rec (motive_1 := fun _ => (IntKind → Int → QR) → (QR) → QR) (motive_2 := fun _ => (IntKind → Int → QR) → (QR) → QR) (fun f d => d) (fun _ f d => d) (fun k n f d => f k n) (fun _ _ f d => d) (fun _ _ f d => d) (fun f d => d) (fun _ _ _ _ _ f d => d) (fun f d => d) (fun f d => d) (fun _ _ _ _ _ f d => d) (fun f d => d) (fun _ f d => d) (fun _ _ f d => d) (fun _ _ f d => d) (fun _ f d => d) (fun f d => d) (fun _ _ _ f d => d) (fun f d => d) (fun f d => d) (fun _ _ _ _ f d => d) v f d
noncomputable def KV.onStr (v : KV) (f : Nat → Nat → QR) (d : QR) : QR := KV.rec (motive_1 := fun _ => (Nat → Nat → QR) → (QR) → QR) (motive_2 := fun _ => (Nat → Nat → QR) → (QR) → QR) (fun f d => d) (fun _ f d => d) (fun _ _ f d => d) (fun n s f d => f n s) (fun _ _ f d => d) (fun f d => d) (fun _ _ _ _ _ f d => d) (fun f d => d) (fun f d => d) (fun _ _ _ _ _ f d => d) (fun f d => d) (fun _ f d => d) (fun _ _ f d => d) (fun _ _ f d => d) (fun _ f d => d) (fun f d => d) (fun _ _ _ f d => d) (fun f d => d) (fun f d => d) (fun _ _ _ _ f d => d) v f d
noncomputable def KV.onPtr (v : KV) (f : Nat → Nat → QR) (d : QR) : QR := KV.rec (motive_1 := fun _ => (Nat → Nat → QR) → (QR) → QR) (motive_2 := fun _ => (Nat → Nat → QR) → (QR) → QR) (fun f d => d) (fun _ f d => d) (fun _ _ f d => d) (fun _ _ f d => d) (fun i o f d => f i o) (fun f d => d) (fun _ _ _ _ _ f d => d) (fun f d => d) (fun f d => d) (fun _ _ _ _ _ f d => d) (fun f d => d) (fun _ f d => d) (fun _ _ f d => d) (fun _ _ f d => d) (fun _ f d => d) (fun f d => d) (fun _ _ _ f d => d) (fun f d => d) (fun f d => d) (fun _ _ _ _ f d => d) v f d
noncomputable def KV.onSl (v : KV) (f : Nat → Nat → Nat → Option Nat → Nat → QR) (z : QR) (m : QR) (d : QR) : QR := KV.rec (motive_1 := fun _ => (Nat → Nat → Nat → Option Nat → Nat → QR) → (QR) → (QR) → (QR) → QR) (motive_2 := fun _ => (Nat → Nat → Nat → Option Nat → Nat → QR) → (QR) → (QR) → (QR) → QR) (fun f z m d => d) (fun _ f z m d => d) (fun _ _ f z m d => d) (fun _ _ f z m d => d) (fun _ _ f z m d => d) (fun f z m d => d) (fun i o l c s f z m d => f i o l c s) (fun f z m d => z) (fun f z m d => m) (fun _ _ _ _ _ f z m d => d) (fun f z m d => d) (fun _ f z m d => d) (fun _ _ f z m d => d) (fun _ _ f z m d => d) (fun _ f z m d => d) (fun f z m d => d) (fun _ _ _ f z m d => d) (fun f z m d => d) (fun f z m d => d) (fun _ _ _ _ f z m d => d) v f z m d
noncomputable def KV.onAgg (v : KV) (f : List KV → QR) (d : QR) : QR := KV.rec (motive_1 := fun _ => (List KV → QR) → (QR) → QR) (motive_2 := fun _ => (List KV → QR) → (QR) → QR) (fun f d => d) (fun _ f d => d) (fun _ _ f d => d) (fun _ _ f d => d) (fun _ _ f d => d) (fun f d => d) (fun _ _ _ _ _ f d => d) (fun f d => d) (fun f d => d) (fun _ _ _ _ _ f d => d) (fun f d => d) (fun _ f d => d) (fun a _ f d => f a) (fun _ _ f d => d) (fun _ f d => d) (fun f d => d) (fun _ _ _ f d => d) (fun f d => d) (fun f d => d) (fun _ _ _ _ f d => d) v f d
noncomputable def KV.onTuple (v : KV) (f : List KV → QR) (d : QR) : QR := KV.rec (motive_1 := fun _ => (List KV → QR) → (QR) → QR) (motive_2 := fun _ => (List KV → QR) → (QR) → QR) (fun f d => d) (fun _ f d => d) (fun _ _ f d => d) (fun _ _ f d => d) (fun _ _ f d => d) (fun f d => d) (fun _ _ _ _ _ f d => d) (fun f d => d) (fun f d => d) (fun _ _ _ _ _ f d => d) (fun f d => d) (fun _ f d => d) (fun _ _ f d => d) (fun a _ f d => f a) (fun _ f d => d) (fun f d => d) (fun _ _ _ f d => d) (fun f d => d) (fun f d => d) (fun _ _ _ _ f d => d) v f d
noncomputable def KV.onFunc (v : KV) (f : Fn → List KV → List KV → QR) (g : Nat → QR) (d : QR) : QR := KV.rec (motive_1 := fun _ => (Fn → List KV → List KV → QR) → (Nat → QR) → (QR) → QR) (motive_2 := fun _ => (Fn → List KV → List KV → QR) → (Nat → QR) → (QR) → QR) (fun f g d => d) (fun _ f g d => d) (fun _ _ f g d => d) (fun _ _ f g d => d) (fun _ _ f g d => d) (fun f g d => d) (fun _ _ _ _ _ f g d => d) (fun f g d => d) (fun f g d => d) (fun fn x y _ _ f g d => f fn x y) (fun f g d => d) (fun i f g d => g i) (fun _ _ f g d => d) (fun _ _ f g d => d) (fun _ f g d => d) (fun f g d => d) (fun _ _ _ f g d => d) (fun f g d => d) (fun f g d => d) (fun _ _ _ _ f g d => d) v f g d
noncomputable def KV.onIface (v : KV) (f : TypeId → KV → QR) (m : QR) (d : QR) : QR := KV.rec (motive_1 := fun _ => (TypeId → KV → QR) → (QR) → (QR) → QR) (motive_2 := fun _ => (TypeId → KV → QR) → (QR) → (QR) → QR) (fun f m d => d) (fun _ f m d => d) (fun _ _ f m d => d) (fun _ _ f m d => d) (fun _ _ f m d => d) (fun f m d => d) (fun _ _ _ _ _ f m d => d) (fun f m d => d) (fun f m d => d) (fun _ _ _ _ _ f m d => d) (fun f m d => d) (fun _ f m d => d) (fun _ _ f m d => d) (fun _ _ f m d => d) (fun _ f m d => d) (fun f m d => d) (fun ty u _ f m d => f ty u) (fun f m d => m) (fun f m d => d) (fun _ _ _ _ f m d => d) v f m d
noncomputable def KV.onCell (v : KV) (t : QR) (d : QR) : QR := KV.rec (motive_1 := fun _ => (QR) → (QR) → QR) (motive_2 := fun _ => (QR) → (QR) → QR) (fun t d => d) (fun b t d => t) (fun k n t d => t) (fun n s t d => t) (fun i o t d => t) (fun t d => t) (fun i o l c s t d => t) (fun t d => t) (fun t d => t) (fun fn x y _ _ t d => t) (fun t d => t) (fun i t d => t) (fun _ _ t d => d) (fun _ _ t d => d) (fun i t d => t) (fun t d => t) (fun ty u _ t d => t) (fun t d => t) (fun t d => d) (fun _ _ _ _ t d => d) v t d
theorem KV.hd_eq (v : KV) (K : KV → QR) : v.hd K = K v := by cases v <;> rfl
theorem KV.onCell_eq (v : KV) (t d : QR) : v.onCell t d = if v.isCell = true then t else d := by cases v <;> rfl
section
variable {R : Type}
noncomputable def nfc (n : Nat) (K : Nat → R) : R := Nat.rec (motive := fun _ => (Nat → R) → R) (fun K => K .zero) (fun n _ K => K (.succ n)) n K
theorem nfc_eq (n : Nat) (K : Nat → R) : nfc n K = K n := by cases n <;> rfl
noncomputable def ifc (n : Int) (K : Int → R) : R := Int.rec (motive := fun _ => R) (fun n => nfc n fun n => K (.ofNat n)) (fun n => nfc n fun n => K (.negSucc n)) n
theorem ifc_eq (n : Int) (K : Int → R) : ifc n K = K n := by cases n <;> simp only [ifc, nfc_eq]
noncomputable def onfc (n : Option Nat) (K : Option Nat → R) : R := Option.rec (motive := fun _ => R) (K none) (fun n => nfc n fun n => K (some n)) n
theorem onfc_eq (n : Option Nat) (K : Option Nat → R) : onfc n K = K n := by cases n <;> simp only [onfc, nfc_eq]
noncomputable def bfc (b : Bool) (K : Bool → R) : R := Bool.rec (motive := fun _ => (Bool → R) → R) (fun K => K false) (fun K => K true) b K
theorem bfc_eq (b : Bool) (K : Bool → R) : bfc b K = K b := by cases b <;> rfl
noncomputable def bif' (b : Bool) (t e : R) : R := Bool.rec (motive := fun _ => R) e t b
theorem bif'_eq (b : Bool) (t e : R) : bif' b t e = if b = true then t else e := by cases b <;> rfl
end
inductive Sel (β γ : Type) where
 | mk (g : β → γ)
inductive Upd (α β : Type) where
 | mk (u : (α → (α → QR) → QR) → β → (β → QR) → QR)
abbrev S1 := N16 KV
abbrev S2 := N16 S1
abbrev H0 := Option KO
abbrev H1 := N16 H0
abbrev H2 := N16 H1
abbrev H3 := N16 H2
abbrev H4 := N16 H3
noncomputable def sa0 (f : KV → (KV → QR) → QR) (n : S1) (k : S1 → QR) : QR := N16.rec (motive := fun _ => (KV → (KV → QR) → QR) → (S1 → QR) → QR) (fun a0 a1 a2 a3 a4 a5 a6 a7 a8 a9 a10 a11 a12 a13 a14 a15 f k => f a0 fun v => k ⟨v, a1, a2, a3, a4, a5, a6, a7, a8, a9, a10, a11, a12, a13, a14, a15⟩) n f k
noncomputable def sa1 (f : KV → (KV → QR) → QR) (n : S1) (k : S1 → QR) : QR := N16.rec (motive := fun _ => (KV → (KV → QR) → QR) → (S1 → QR) → QR) (fun a0 a1 a2 a3 a4 a5 a6 a7 a8 a9 a10 a11 a12 a13 a14 a15 f k => f a1 fun v => k ⟨a0, v, a2, a3, a4, a5, a6, a7, a8, a9, a10, a11, a12, a13, a14, a15⟩) n f k
noncomputable def sa2 (f : KV → (KV → QR) → QR) (n : S1) (k : S1 → QR) : QR := N16.rec (motive := fun _ => (KV → (KV → QR) → QR) → (S1 → QR) → QR) (fun a0 a1 a2 a3 a4 a5 a6 a7 a8 a9 a10 a11 a12 a13 a14 a15 f k => f a2 fun v => k ⟨a0, a1, v, a3, a4, a5, a6, a7, a8, a9, a10, a11, a12, a13, a14, a15⟩) n f k
noncomputable def sa3 (f : KV → (KV → QR) → QR) (n : S1) (k : S1 → QR) : QR := N16.rec (motive := fun _ => (KV → (KV → QR) → QR) → (S1 → QR) → QR) (fun a0 a1 a2 a3 a4 a5 a6 a7 a8 a9 a10 a11 a12 a13 a14 a15 f k => f a3 fun v => k ⟨a0, a1, a2, v, a4, a5, a6, a7, a8, a9, a10, a11, a12, a13, a14, a15⟩) n f k
noncomputable def sa4 (f : KV → (KV → QR) → QR) (n : S1) (k : S1 → QR) : QR := N16.rec (motive := fun _ => (KV → (KV → QR) → QR) → (S1 → QR) → QR) (fun a0 a1 a2 a3 a4 a5 a6 a7 a8 a9 a10 a11 a12 a13 a14 a15 f k => f a4 fun v => k ⟨a0, a1, a2, a3, v, a5, a6, a7, a8, a9, a10, a11, a12, a13, a14, a15⟩) n f k
noncomputable def sa5 (f : KV → (KV → QR) → QR) (n : S1) (k : S1 → QR) : QR := N16.rec (motive := fun _ => (KV → (KV → QR) → QR) → (S1 → QR) → QR) (fun a0 a1 a2 a3 a4 a5 a6 a7 a8 a9 a10 a11 a12 a13 a14 a15 f k => f a5 fun v => k ⟨a0, a1, a2, a3, a4, v, a6, a7, a8, a9, a10, a11, a12, a13, a14, a15⟩) n f k
noncomputable def sa6 (f : KV → (KV → QR) → QR) (n : S1) (k : S1 → QR) : QR := N16.rec (motive := fun _ => (KV → (KV → QR) → QR) → (S1 → QR) → QR) (fun a0 a1 a2 a3 a4 a5 a6 a7 a8 a9 a10 a11 a12 a13 a14 a15 f k => f a6 fun v => k ⟨a0, a1, a2, a3, a4, a5, v, a7, a8, a9, a10, a11, a12, a13, a14, a15⟩) n f k
noncomputable def sa7 (f : KV → (KV → QR) → QR) (n : S1) (k : S1 → QR) : QR := N16.rec (motive := fun _ => (KV → (KV → QR) → QR) → (S1 → QR) → QR) (fun a0 a1 a2 a3 a4 a5 a6 a7 a8 a9 a10 a11 a12 a13 a14 a15 f k => f a7 fun v => k ⟨a0, a1, a2, a3, a4, a5, a6, v, a8, a9, a10, a11, a12, a13, a14, a15⟩) n f k
noncomputable def sa8 (f : KV → (KV → QR) → QR) (n : S1) (k : S1 → QR) : QR := N16.rec (motive := fun _ => (KV → (KV → QR) → QR) → (S1 → QR) → QR) (fun a0 a1 a2 a3 a4 a5 a6 a7 a8 a9 a10 a11 a12 a13 a14 a15 f k => f a8 fun v => k ⟨a0, a1, a2, a3, a4, a5, a6, a7, v, a9, a10, a11, a12, a13, a14, a15⟩) n f k
noncomputable def sa9 (f : KV → (KV → QR) → QR) (n : S1) (k : S1 → QR) : QR := N16.rec (motive := fun _ => (KV → (KV → QR) → QR) → (S1 → QR) → QR) (fun a0 a1 a2 a3 a4 a5 a6 a7 a8 a9 a10 a11 a12 a13 a14 a15 f k => f a9 fun v => k ⟨a0, a1, a2, a3, a4, a5, a6, a7, a8, v, a10, a11, a12, a13, a14, a15⟩) n f k
noncomputable def sa10 (f : KV → (KV → QR) → QR) (n : S1) (k : S1 → QR) : QR := N16.rec (motive := fun _ => (KV → (KV → QR) → QR) → (S1 → QR) → QR) (fun a0 a1 a2 a3 a4 a5 a6 a7 a8 a9 a10 a11 a12 a13 a14 a15 f k => f a10 fun v => k ⟨a0, a1, a2, a3, a4, a5, a6, a7, a8, a9, v, a11, a12, a13, a14, a15⟩) n f k
noncomputable def sa11 (f : KV → (KV → QR) → QR) (n : S1) (k : S1 → QR) : QR := N16.rec (motive := fun _ => (KV → (KV → QR) → QR) → (S1 → QR) → QR) (fun a0 a1 a2 a3 a4 a5 a6 a7 a8 a9 a10 a11 a12 a13 a14 a15 f k => f a11 fun v => k ⟨a0, a1, a2, a3, a4, a5, a6, a7, a8, a9, a10, v, a12, a13, a14, a15⟩) n f k
noncomputable def sa12 (f : KV → (KV → QR) → QR) (n : S1) (k : S1 → QR) : QR := N16.rec (motive := fun _ => (KV → (KV → QR) → QR) → (S1 → QR) → QR) (fun a0 a1 a2 a3 a4 a5 a6 a7 a8 a9 a10 a11 a12 a13 a14 a15 f k => f a12 fun v => k ⟨a0, a1, a2, a3, a4, a5, a6, a7, a8, a9, a10, a11, v, a13, a14, a15⟩) n f k
noncomputable def sa13 (f : KV → (KV → QR) → QR) (n : S1) (k : S1 → QR) : QR := N16.rec (motive := fun _ => (KV → (KV → QR) → QR) → (S1 → QR) → QR) (fun a0 a1 a2 a3 a4 a5 a6 a7 a8 a9 a10 a11 a12 a13 a14 a15 f k => f a13 fun v => k ⟨a0, a1, a2, a3, a4, a5, a6, a7, a8, a9, a10, a11, a12, v, a14, a15⟩) n f k
noncomputable def sa14 (f : KV → (KV → QR) → QR) (n : S1) (k : S1 → QR) : QR := N16.rec (motive := fun _ => (KV → (KV → QR) → QR) → (S1 → QR) → QR) (fun a0 a1 a2 a3 a4 a5 a6 a7 a8 a9 a10 a11 a12 a13 a14 a15 f k => f a14 fun v => k ⟨a0, a1, a2, a3, a4, a5, a6, a7, a8, a9, a10, a11, a12, a13, v, a15⟩) n f k
noncomputable def sa15 (f : KV → (KV → QR) → QR) (n : S1) (k : S1 → QR) : QR := N16.rec (motive := fun _ => (KV → (KV → QR) → QR) → (S1 → QR) → QR) (fun a0 a1 a2 a3 a4 a5 a6 a7 a8 a9 a10 a11 a12 a13 a14 a15 f k => f a15 fun v => k ⟨a0, a1, a2, a3, a4, a5, a6, a7, a8, a9, a10, a11, a12, a13, a14, v⟩) n f k
noncomputable def saU {S : Type} (i : Nat) (K : ((KV → (KV → QR) → QR) → S1 → (S1 → QR) → QR) → S) : S := (bif Nat.blt i 8 then (bif Nat.blt i 4 then (bif Nat.blt i 2 then (bif Nat.blt i 1 then K sa0 else K sa1) else (bif Nat.blt i 3 then K sa2 else K sa3)) else (bif Nat.blt i 6 then (bif Nat.blt i 5 then K sa4 else K sa5) else (bif Nat.blt i 7 then K sa6 else K sa7))) else (bif Nat.blt i 12 then (bif Nat.blt i 10 then (bif Nat.blt i 9 then K sa8 else K sa9) else (bif Nat.blt i 11 then K sa10 else K sa11)) else (bif Nat.blt i 14 then (bif Nat.blt i 13 then K sa12 else K sa13) else (bif Nat.blt i 15 then K sa14 else K sa15))))
theorem saU_eq {S : Type} (K : ((KV → (KV → QR) → QR) → S1 → (S1 → QR) → QR) → S) : ∀ i, i < 16 → saU i K = K fun f n k => f (N16.get n i) fun v => k (N16.set n i v) := by
 refine lt16 ?_ ?_ ?_ ?_ ?_ ?_ ?_ ?_ ?_ ?_ ?_ ?_ ?_ ?_ ?_ ?_ <;> rfl
noncomputable def sb0 (f : S1 → (S1 → QR) → QR) (n : S2) (k : S2 → QR) : QR := N16.rec (motive := fun _ => (S1 → (S1 → QR) → QR) → (S2 → QR) → QR) (fun a0 a1 a2 a3 a4 a5 a6 a7 a8 a9 a10 a11 a12 a13 a14 a15 f k => f a0 fun v => k ⟨v, a1, a2, a3, a4, a5, a6, a7, a8, a9, a10, a11, a12, a13, a14, a15⟩) n f k
noncomputable def sb1 (f : S1 → (S1 → QR) → QR) (n : S2) (k : S2 → QR) : QR := N16.rec (motive := fun _ => (S1 → (S1 → QR) → QR) → (S2 → QR) → QR) (fun a0 a1 a2 a3 a4 a5 a6 a7 a8 a9 a10 a11 a12 a13 a14 a15 f k => f a1 fun v => k ⟨a0, v, a2, a3, a4, a5, a6, a7, a8, a9, a10, a11, a12, a13, a14, a15⟩) n f k
noncomputable def sb2 (f : S1 → (S1 → QR) → QR) (n : S2) (k : S2 → QR) : QR := N16.rec (motive := fun _ => (S1 → (S1 → QR) → QR) → (S2 → QR) → QR) (fun a0 a1 a2 a3 a4 a5 a6 a7 a8 a9 a10 a11 a12 a13 a14 a15 f k => f a2 fun v => k ⟨a0, a1, v, a3, a4, a5, a6, a7, a8, a9, a10, a11, a12, a13, a14, a15⟩) n f k
noncomputable def sb3 (f : S1 → (S1 → QR) → QR) (n : S2) (k : S2 → QR) : QR := N16.rec (motive := fun _ => (S1 → (S1 → QR) → QR) → (S2 → QR) → QR) (fun a0 a1 a2 a3 a4 a5 a6 a7 a8 a9 a10 a11 a12 a13 a14 a15 f k => f a3 fun v => k ⟨a0, a1, a2, v, a4, a5, a6, a7, a8, a9, a10, a11, a12, a13, a14, a15⟩) n f k
noncomputable def sb4 (f : S1 → (S1 → QR) → QR) (n : S2) (k : S2 → QR) : QR := N16.rec (motive := fun _ => (S1 → (S1 → QR) → QR) → (S2 → QR) → QR) (fun a0 a1 a2 a3 a4 a5 a6 a7 a8 a9 a10 a11 a12 a13 a14 a15 f k => f a4 fun v => k ⟨a0, a1, a2, a3, v, a5, a6, a7, a8, a9, a10, a11, a12, a13, a14, a15⟩) n f k
noncomputable def sb5 (f : S1 → (S1 → QR) → QR) (n : S2) (k : S2 → QR) : QR := N16.rec (motive := fun _ => (S1 → (S1 → QR) → QR) → (S2 → QR) → QR) (fun a0 a1 a2 a3 a4 a5 a6 a7 a8 a9 a10 a11 a12 a13 a14 a15 f k => f a5 fun v => k ⟨a0, a1, a2, a3, a4, v, a6, a7, a8, a9, a10, a11, a12, a13, a14, a15⟩) n f k
noncomputable def sb6 (f : S1 → (S1 → QR) → QR) (n : S2) (k : S2 → QR) : QR := N16.rec (motive := fun _ => (S1 → (S1 → QR) → QR) → (S2 → QR) → QR) (fun a0 a1 a2 a3 a4 a5 a6 a7 a8 a9 a10 a11 a12 a13 a14 a15 f k => f a6 fun v => k ⟨a0, a1, a2, a3, a4, a5, v, a7, a8, a9, a10, a11, a12, a13, a14, a15⟩) n f k
noncomputable def sb7 (f : S1 → (S1 → QR) → QR) (n : S2) (k : S2 → QR) : QR := N16.rec (motive := fun _ => (S1 → (S1 → QR) → QR) → (S2 → QR) → QR) (fun a0 a1 a2 a3 a4 a5 a6 a7 a8 a9 a10 a11 a12 a13 a14 a15 f k => f a7 fun v => k ⟨a0, a1, a2, a3, a4, a5, a6, v, a8, a9, a10, a11, a12, a13, a14, a15⟩) n f k
noncomputable def sb8 (f : S1 → (S1 → QR) → QR) (n : S2) (k : S2 → QR) : QR := N16.rec (motive := fun _ => (S1 → (S1 → QR) → QR) → (S2 → QR) → QR) (fun a0 a1 a2 a3 a4 a5 a6 a7 a8 a9 a10 a11 a12 a13 a14 a15 f k => f a8 fun v => k ⟨a0, a1, a2, a3, a4, a5, a6, a7, v, a9, a10, a11, a12, a13, a14, a15⟩) n f k
noncomputable def sb9 (f : S1 → (S1 → QR) → QR) (n : S2) (k : S2 → QR) : QR := N16.rec (motive := fun _ => (S1 → (S1 → QR) → QR) → (S2 → QR) → QR) (fun a0 a1 a2 a3 a4 a5 a6 a7 a8 a9 a10 a11 a12 a13 a14 a15 f k => f a9 fun v => k ⟨a0, a1, a2, a3, a4, a5, a6, a7, a8, v, a10, a11, a12, a13, a14, a15⟩) n f k
noncomputable def sb10 (f : S1 → (S1 → QR) → QR) (n : S2) (k : S2 → QR) : QR := N16.rec (motive := fun _ => (S1 → (S1 → QR) → QR) → (S2 → QR) → QR) (fun a0 a1 a2 a3 a4 a5 a6 a7 a8 a9 a10 a11 a12 a13 a14 a15 f k => f a10 fun v => k ⟨a0, a1, a2, a3, a4, a5, a6, a7, a8, a9, v, a11, a12, a13, a14, a15⟩) n f k
noncomputable def sb11 (f : S1 → (S1 → QR) → QR) (n : S2) (k : S2 → QR) : QR := N16.rec (motive := fun _ => (S1 → (S1 → QR) → QR) → (S2 → QR) → QR) (fun a0 a1 a2 a3 a4 a5 a6 a7 a8 a9 a10 a11 a12 a13 a14 a15 f k => f a11 fun v => k ⟨a0, a1, a2, a3, a4, a5, a6, a7, a8, a9, a10, v, a12, a13, a14, a15⟩) n f k
noncomputable def sb12 (f : S1 → (S1 → QR) → QR) (n : S2) (k : S2 → QR) : QR := N16.rec (motive := fun _ => (S1 → (S1 → QR) → QR) → (S2 → QR) → QR) (fun a0 a1 a2 a3 a4 a5 a6 a7 a8 a9 a10 a11 a12 a13 a14 a15 f k => f a12 fun v => k ⟨a0, a1, a2, a3, a4, a5, a6, a7, a8, a9, a10, a11, v, a13, a14, a15⟩) n f k
noncomputable def sb13 (f : S1 → (S1 → QR) → QR) (n : S2) (k : S2 → QR) : QR := N16.rec (motive := fun _ => (S1 → (S1 → QR) → QR) → (S2 → QR) → QR) (fun a0 a1 a2 a3 a4 a5 a6 a7 a8 a9 a10 a11 a12 a13 a14 a15 f k => f a13 fun v => k ⟨a0, a1, a2, a3, a4, a5, a6, a7, a8, a9, a10, a11, a12, v, a14, a15⟩) n f k
noncomputable def sb14 (f : S1 → (S1 → QR) → QR) (n : S2) (k : S2 → QR) : QR := N16.rec (motive := fun _ => (S1 → (S1 → QR) → QR) → (S2 → QR) → QR) (fun a0 a1 a2 a3 a4 a5 a6 a7 a8 a9 a10 a11 a12 a13 a14 a15 f k => f a14 fun v => k ⟨a0, a1, a2, a3, a4, a5, a6, a7, a8, a9, a10, a11, a12, a13, v, a15⟩) n f k
noncomputable def sb15 (f : S1 → (S1 → QR) → QR) (n : S2) (k : S2 → QR) : QR := N16.rec (motive := fun _ => (S1 → (S1 → QR) → QR) → (S2 → QR) → QR) (fun a0 a1 a2 a3 a4 a5 a6 a7 a8 a9 a10 a11 a12 a13 a14 a15 f k => f a15 fun v => k ⟨a0, a1, a2, a3, a4, a5, a6, a7, a8, a9, a10, a11, a12, a13, a14, v⟩) n f k
noncomputable def sbU {S : Type} (i : Nat) (K : ((S1 → (S1 → QR) → QR) → S2 → (S2 → QR) → QR) → S) : S := (bif Nat.blt i 8 then (bif Nat.blt i 4 then (bif Nat.blt i 2 then (bif Nat.blt i 1 then K sb0 else K sb1) else (bif Nat.blt i 3 then K sb2 else K sb3)) else (bif Nat.blt i 6 then (bif Nat.blt i 5 then K sb4 else K sb5) else (bif Nat.blt i 7 then K sb6 else K sb7))) else (bif Nat.blt i 12 then (bif Nat.blt i 10 then (bif Nat.blt i 9 then K sb8 else K sb9) else (bif Nat.blt i 11 then K sb10 else K sb11)) else (bif Nat.blt i 14 then (bif Nat.blt i 13 then K sb12 else K sb13) else (bif Nat.blt i 15 then K sb14 else K sb15))))
theorem sbU_eq {S : Type} (K : ((S1 → (S1 → QR) → QR) → S2 → (S2 → QR) → QR) → S) : ∀ i, i < 16 → sbU i K = K fun f n k => f (N16.get n i) fun v => k (N16.set n i v) := by
 refine lt16 ?_ ?_ ?_ ?_ ?_ ?_ ?_ ?_ ?_ ?_ ?_ ?_ ?_ ?_ ?_ ?_ <;> rfl
noncomputable def ha0 (f : H0 → (H0 → QR) → QR) (n : H1) (k : H1 → QR) : QR := N16.rec (motive := fun _ => (H0 → (H0 → QR) → QR) → (H1 → QR) → QR) (fun a0 a1 a2 a3 a4 a5 a6 a7 a8 a9 a10 a11 a12 a13 a14 a15 f k => f a0 fun v => k ⟨v, a1, a2, a3, a4, a5, a6, a7, a8, a9, a10, a11, a12, a13, a14, a15⟩) n f k
noncomputable def ha1 (f : H0 → (H0 → QR) → QR) (n : H1) (k : H1 → QR) : QR := N16.rec (motive := fun _ => (H0 → (H0 → QR) → QR) → (H1 → QR) → QR) (fun a0 a1 a2 a3 a4 a5 a6 a7 a8 a9 a10 a11 a12 a13 a14 a15 f k => f a1 fun v => k ⟨a0, v, a2, a3, a4, a5, a6, a7, a8, a9, a10, a11, a12, a13, a14, a15⟩) n f k
noncomputable def ha2 (f : H0 → (H0 → QR) → QR) (n : H1) (k : H1 → QR) : QR := N16.rec (motive := fun _ => (H0 → (H0 → QR) → QR) → (H1 → QR) → QR) (fun a0 a1 a2 a3 a4 a5 a6 a7 a8 a9 a10 a11 a12 a13 a14 a15 f k => f a2 fun v => k ⟨a0, a1, v, a3, a4, a5, a6, a7, a8, a9, a10, a11, a12, a13, a14, a15⟩) n f k
noncomputable def ha3 (f : H0 → (H0 → QR) → QR) (n : H1) (k : H1 → QR) : QR := N16.rec (motive := fun _ => (H0 → (H0 → QR) → QR) → (H1 → QR) → QR) (fun a0 a1 a2 a3 a4 a5 a6 a7 a8 a9 a10 a11 a12 a13 a14 a15 f k => f a3 fun v => k ⟨a0, a1, a2, v, a4, a5, a6, a7, a8, a9, a10, a11, a12, a13, a14, a15⟩) n f k
noncomputable def ha4 (f : H0 → (H0 → QR) → QR) (n : H1) (k : H1 → QR) : QR := N16.rec (motive := fun _ => (H0 → (H0 → QR) → QR) → (H1 → QR) → QR) (fun a0 a1 a2 a3 a4 a5 a6 a7 a8 a9 a10 a11 a12 a13 a14 a15 f k => f a4 fun v => k ⟨a0, a1, a2, a3, v, a5, a6, a7, a8, a9, a10, a11, a12, a13, a14, a15⟩) n f k
noncomputable def ha5 (f : H0 → (H0 → QR) → QR) (n : H1) (k : H1 → QR) : QR := N16.rec (motive := fun _ => (H0 → (H0 → QR) → QR) → (H1 → QR) → QR) (fun a0 a1 a2 a3 a4 a5 a6 a7 a8 a9 a10 a11 a12 a13 a14 a15 f k => f a5 fun v => k ⟨a0, a1, a2, a3, a4, v, a6, a7, a8, a9, a10, a11, a12, a13, a14, a15⟩) n f k
noncomputable def ha6 (f : H0 → (H0 → QR) → QR) (n : H1) (k : H1 → QR) : QR := N16.rec (motive := fun _ => (H0 → (H0 → QR) → QR) → (H1 → QR) → QR) (fun a0 a1 a2 a3 a4 a5 a6 a7 a8 a9 a10 a11 a12 a13 a14 a15 f k => f a6 fun v => k ⟨a0, a1, a2, a3, a4, a5, v, a7, a8, a9, a10, a11, a12, a13, a14, a15⟩) n f k
noncomputable def ha7 (f : H0 → (H0 → QR) → QR) (n : H1) (k : H1 → QR) : QR := N16.rec (motive := fun _ => (H0 → (H0 → QR) → QR) → (H1 → QR) → QR) (fun a0 a1 a2 a3 a4 a5 a6 a7 a8 a9 a10 a11 a12 a13 a14 a15 f k => f a7 fun v => k ⟨a0, a1, a2, a3, a4, a5, a6, v, a8, a9, a10, a11, a12, a13, a14, a15⟩) n f k
noncomputable def ha8 (f : H0 → (H0 → QR) → QR) (n : H1) (k : H1 → QR) : QR := N16.rec (motive := fun _ => (H0 → (H0 → QR) → QR) → (H1 → QR) → QR) (fun a0 a1 a2 a3 a4 a5 a6 a7 a8 a9 a10 a11 a12 a13 a14 a15 f k => f a8 fun v => k ⟨a0, a1, a2, a3, a4, a5, a6, a7, v, a9, a10, a11, a12, a13, a14, a15⟩) n f k
noncomputable def ha9 (f : H0 → (H0 → QR) → QR) (n : H1) (k : H1 → QR) : QR := N16.rec (motive := fun _ => (H0 → (H0 → QR) → QR) → (H1 → QR) → QR) (fun a0 a1 a2 a3 a4 a5 a6 a7 a8 a9 a10 a11 a12 a13 a14 a15 f k => f a9 fun v => k ⟨a0, a1, a2, a3, a4, a5, a6, a7, a8, v, a10, a11, a12, a13, a14, a15⟩) n f k
noncomputable def ha10 (f : H0 → (H0 → QR) → QR) (n : H1) (k : H1 → QR) : QR := N16.rec (motive := fun _ => (H0 → (H0 → QR) → QR) → (H1 → QR) → QR) (fun a0 a1 a2 a3 a4 a5 a6 a7 a8 a9 a10 a11 a12 a13 a14 a15 f k => f a10 fun v => k ⟨a0, a1, a2, a3, a4, a5, a6, a7, a8, a9, v, a11, a12, a13, a14, a15⟩) n f k
noncomputable def ha11 (f : H0 → (H0 → QR) → QR) (n : H1) (k : H1 → QR) : QR := N16.rec (motive := fun _ => (H0 → (H0 → QR) → QR) → (H1 → QR) → QR) (fun a0 a1 a2 a3 a4 a5 a6 a7 a8 a9 a10 a11 a12 a13 a14 a15 f k => f a11 fun v => k ⟨a0, a1, a2, a3, a4, a5, a6, a7, a8, a9, a10, v, a12, a13, a14, a15⟩) n f k
noncomputable def ha12 (f : H0 → (H0 → QR) → QR) (n : H1) (k : H1 → QR) : QR := N16.rec (motive := fun _ => (H0 → (H0 → QR) → QR) → (H1 → QR) → QR) (fun a0 a1 a2 a3 a4 a5 a6 a7 a8 a9 a10 a11 a12 a13 a14 a15 f k => f a12 fun v => k ⟨a0, a1, a2, a3, a4, a5, a6, a7, a8, a9, a10, a11, v, a13, a14, a15⟩) n f k
noncomputable def ha13 (f : H0 → (H0 → QR) → QR) (n : H1) (k : H1 → QR) : QR := N16.rec (motive := fun _ => (H0 → (H0 → QR) → QR) → (H1 → QR) → QR) (fun a0 a1 a2 a3 a4 a5 a6 a7 a8 a9 a10 a11 a12 a13 a14 a15 f k => f a13 fun v => k ⟨a0, a1, a2, a3, a4, a5, a6, a7, a8, a9, a10, a11, a12, v, a14, a15⟩) n f k
noncomputable def ha14 (f : H0 → (H0 → QR) → QR) (n : H1) (k : H1 → QR) : QR := N16.rec (motive := fun _ => (H0 → (H0 → QR) → QR) → (H1 → QR) → QR) (fun a0 a1 a2 a3 a4 a5 a6 a7 a8 a9 a10 a11 a12 a13 a14 a15 f k => f a14 fun v => k ⟨a0, a1, a2, a3, a4, a5, a6, a7, a8, a9, a10, a11, a12, a13, v, a15⟩) n f k
noncomputable def ha15 (f : H0 → (H0 → QR) → QR) (n : H1) (k : H1 → QR) : QR := N16.rec (motive := fun _ => (H0 → (H0 → QR) → QR) → (H1 → QR) → QR) (fun a0 a1 a2 a3 a4 a5 a6 a7 a8 a9 a10 a11 a12 a13 a14 a15 f k => f a15 fun v => k ⟨a0, a1, a2, a3, a4, a5, a6, a7, a8, a9, a10, a11, a12, a13, a14, v⟩) n f k
noncomputable def haU {S : Type} (i : Nat) (K : ((H0 → (H0 → QR) → QR) → H1 → (H1 → QR) → QR) → S) : S := (bif Nat.blt i 8 then (bif Nat.blt i 4 then (bif Nat.blt i 2 then (bif Nat.blt i 1 then K ha0 else K ha1) else (bif Nat.blt i 3 then K ha2 else K ha3)) else (bif Nat.blt i 6 then (bif Nat.blt i 5 then K ha4 else K ha5) else (bif Nat.blt i 7 then K ha6 else K ha7))) else (bif Nat.blt i 12 then (bif Nat.blt i 10 then (bif Nat.blt i 9 then K ha8 else K ha9) else (bif Nat.blt i 11 then K ha10 else K ha11)) else (bif Nat.blt i 14 then (bif Nat.blt i 13 then K ha12 else K ha13) else (bif Nat.blt i 15 then K ha14 else K ha15))))
theorem haU_eq {S : Type} (K : ((H0 → (H0 → QR) → QR) → H1 → (H1 → QR) → QR) → S) : ∀ i, i < 16 → haU i K = K fun f n k => f (N16.get n i) fun v => k (N16.set n i v) := by
 refine lt16 ?_ ?_ ?_ ?_ ?_ ?_ ?_ ?_ ?_ ?_ ?_ ?_ ?_ ?_ ?_ ?_ <;> rfl
noncomputable def hb0 (f : H1 → (H1 → QR) → QR) (n : H2) (k : H2 → QR) : QR := N16.rec (motive := fun _ => (H1 → (H1 → QR) → QR) → (H2 → QR) → QR) (fun a0 a1 a2 a3 a4 a5 a6 a7 a8 a9 a10 a11 a12 a13 a14 a15 f k => f a0 fun v => k ⟨v, a1, a2, a3, a4, a5, a6, a7, a8, a9, a10, a11, a12, a13, a14, a15⟩) n f k
noncomputable def hb1 (f : H1 → (H1 → QR) → QR) (n : H2) (k : H2 → QR) : QR := N16.rec (motive := fun _ => (H1 → (H1 → QR) → QR) → (H2 → QR) → QR) (fun a0 a1 a2 a3 a4 a5 a6 a7 a8 a9 a10 a11 a12 a13 a14 a15 f k => f a1 fun v => k ⟨a0, v, a2, a3, a4, a5, a6, a7, a8, a9, a10, a11, a12, a13, a14, a15⟩) n f k
noncomputable def hb2 (f : H1 → (H1 → QR) → QR) (n : H2) (k : H2 → QR) : QR := N16.rec (motive := fun _ => (H1 → (H1 → QR) → QR) → (H2 → QR) → QR) (fun a0 a1 a2 a3 a4 a5 a6 a7 a8 a9 a10 a11 a12 a13 a14 a15 f k => f a2 fun v => k ⟨a0, a1, v, a3, a4, a5, a6, a7, a8, a9, a10, a11, a12, a13, a14, a15⟩) n f k
noncomputable def hb3 (f : H1 → (H1 → QR) → QR) (n : H2) (k : H2 → QR) : QR := N16.rec (motive := fun _ => (H1 → (H1 → QR) → QR) → (H2 → QR) → QR) (fun a0 a1 a2 a3 a4 a5 a6 a7 a8 a9 a10 a11 a12 a13 a14 a15 f k => f a3 fun v => k ⟨a0, a1, a2, v, a4, a5, a6, a7, a8, a9, a10, a11, a12, a13, a14, a15⟩) n f k
noncomputable def hb4 (f : H1 → (H1 → QR) → QR) (n : H2) (k : H2 → QR) : QR := N16.rec (motive := fun _ => (H1 → (H1 → QR) → QR) → (H2 → QR) → QR) (fun a0 a1 a2 a3 a4 a5 a6 a7 a8 a9 a10 a11 a12 a13 a14 a15 f k => f a4 fun v => k ⟨a0, a1, a2, a3, v, a5, a6, a7, a8, a9, a10, a11, a12, a13, a14, a15⟩) n f k
noncomputable def hb5 (f : H1 → (H1 → QR) → QR) (n : H2) (k : H2 → QR) : QR := N16.rec (motive := fun _ => (H1 → (H1 → QR) → QR) → (H2 → QR) → QR) (fun a0 a1 a2 a3 a4 a5 a6 a7 a8 a9 a10 a11 a12 a13 a14 a15 f k => f a5 fun v => k ⟨a0, a1, a2, a3, a4, v, a6, a7, a8, a9, a10, a11, a12, a13, a14, a15⟩) n f k
noncomputable def hb6 (f : H1 → (H1 → QR) → QR) (n : H2) (k : H2 → QR) : QR := N16.rec (motive := fun _ => (H1 → (H1 → QR) → QR) → (H2 → QR) → QR) (fun a0 a1 a2 a3 a4 a5 a6 a7 a8 a9 a10 a11 a12 a13 a14 a15 f k => f a6 fun v => k ⟨a0, a1, a2, a3, a4, a5, v, a7, a8, a9, a10, a11, a12, a13, a14, a15⟩) n f k
noncomputable def hb7 (f : H1 → (H1 → QR) → QR) (n : H2) (k : H2 → QR) : QR := N16.rec (motive := fun _ => (H1 → (H1 → QR) → QR) → (H2 → QR) → QR) (fun a0 a1 a2 a3 a4 a5 a6 a7 a8 a9 a10 a11 a12 a13 a14 a15 f k => f a7 fun v => k ⟨a0, a1, a2, a3, a4, a5, a6, v, a8, a9, a10, a11, a12, a13, a14, a15⟩) n f k
noncomputable def hb8 (f : H1 → (H1 → QR) → QR) (n : H2) (k : H2 → QR) : QR := N16.rec (motive := fun _ => (H1 → (H1 → QR) → QR) → (H2 → QR) → QR) (fun a0 a1 a2 a3 a4 a5 a6 a7 a8 a9 a10 a11 a12 a13 a14 a15 f k => f a8 fun v => k ⟨a0, a1, a2, a3, a4, a5, a6, a7, v, a9, a10, a11, a12, a13, a14, a15⟩) n f k
noncomputable def hb9 (f : H1 → (H1 → QR) → QR) (n : H2) (k : H2 → QR) : QR := N16.rec (motive := fun _ => (H1 → (H1 → QR) → QR) → (H2 → QR) → QR) (fun a0 a1 a2 a3 a4 a5 a6 a7 a8 a9 a10 a11 a12 a13 a14 a15 f k => f a9 fun v => k ⟨a0, a1, a2, a3, a4, a5, a6, a7, a8, v, a10, a11, a12, a13, a14, a15⟩) n f k
noncomputable def hb10 (f : H1 → (H1 → QR) → QR) (n : H2) (k : H2 → QR) : QR := N16.rec (motive := fun _ => (H1 → (H1 → QR) → QR) → (H2 → QR) → QR) (fun a0 a1 a2 a3 a4 a5 a6 a7 a8 a9 a10 a11 a12 a13 a14 a15 f k => f a10 fun v => k ⟨a0, a1, a2, a3, a4, a5, a6, a7, a8, a9, v, a11, a12, a13, a14, a15⟩) n f k
noncomputable def hb11 (f : H1 → (H1 → QR) → QR) (n : H2) (k : H2 → QR) : QR := N16.rec (motive := fun _ => (H1 → (H1 → QR) → QR) → (H2 → QR) → QR) (fun a0 a1 a2 a3 a4 a5 a6 a7 a8 a9 a10 a11 a12 a13 a14 a15 f k => f a11 fun v => k ⟨a0, a1, a2, a3, a4, a5, a6, a7, a8, a9, a10, v, a12, a13, a14, a15⟩) n f k
noncomputable def hb12 (f : H1 → (H1 → QR) → QR) (n : H2) (k : H2 → QR) : QR := N16.rec (motive := fun _ => (H1 → (H1 → QR) → QR) → (H2 → QR) → QR) (fun a0 a1 a2 a3 a4 a5 a6 a7 a8 a9 a10 a11 a12 a13 a14 a15 f k => f a12 fun v => k ⟨a0, a1, a2, a3, a4, a5, a6, a7, a8, a9, a10, a11, v, a13, a14, a15⟩) n f k
noncomputable def hb13 (f : H1 → (H1 → QR) → QR) (n : H2) (k : H2 → QR) : QR := N16.rec (motive := fun _ => (H1 → (H1 → QR) → QR) → (H2 → QR) → QR) (fun a0 a1 a2 a3 a4 a5 a6 a7 a8 a9 a10 a11 a12 a13 a14 a15 f k => f a13 fun v => k ⟨a0, a1, a2, a3, a4, a5, a6, a7, a8, a9, a10, a11, a12, v, a14, a15⟩) n f k
noncomputable def hb14 (f : H1 → (H1 → QR) → QR) (n : H2) (k : H2 → QR) : QR := N16.rec (motive := fun _ => (H1 → (H1 → QR) → QR) → (H2 → QR) → QR) (fun a0 a1 a2 a3 a4 a5 a6 a7 a8 a9 a10 a11 a12 a13 a14 a15 f k => f a14 fun v => k ⟨a0, a1, a2, a3, a4, a5, a6, a7, a8, a9, a10, a11, a12, a13, v, a15⟩) n f k
noncomputable def hb15 (f : H1 → (H1 → QR) → QR) (n : H2) (k : H2 → QR) : QR := N16.rec (motive := fun _ => (H1 → (H1 → QR) → QR) → (H2 → QR) → QR) (fun a0 a1 a2 a3 a4 a5 a6 a7 a8 a9 a10 a11 a12 a13 a14 a15 f k => f a15 fun v => k ⟨a0, a1, a2, a3, a4, a5, a6, a7, a8, a9, a10, a11, a12, a13, a14, v⟩) n f k
noncomputable def hbU {S : Type} (i : Nat) (K : ((H1 → (H1 → QR) → QR) → H2 → (H2 → QR) → QR) → S) : S := (bif Nat.blt i 8 then (bif Nat.blt i 4 then (bif Nat.blt i 2 then (bif Nat.blt i 1 then K hb0 else K hb1) else (bif Nat.blt i 3 then K hb2 else K hb3)) else (bif Nat.blt i 6 then (bif Nat.blt i 5 then K hb4 else K hb5) else (bif Nat.blt i 7 then K hb6 else K hb7))) else (bif Nat.blt i 12 then (bif Nat.blt i 10 then (bif Nat.blt i 9 then K hb8 else K hb9) else (bif Nat.blt i 11 then K hb10 else K hb11)) else (bif Nat.blt i 14 then (bif Nat.blt i 13 then K hb12 else K hb13) else (bif Nat.blt i 15 then K hb14 else K hb15))))
theorem hbU_eq {S : Type} (K : ((H1 → (H1 → QR) → QR) → H2 → (H2 → QR) → QR) → S) : ∀ i, i < 16 → hbU i K = K fun f n k => f (N16.get n i) fun v => k (N16.set n i v) := by
 refine lt16 ?_ ?_ ?_ ?_ ?_ ?_ ?_ ?_ ?_ ?_ ?_ ?_ ?_ ?_ ?_ ?_ <;> rfl
noncomputable def hc0 (f : H2 → (H2 → QR) → QR) (n : H3) (k : H3 → QR) : QR := N16.rec (motive := fun _ => (H2 → (H2 → QR) → QR) → (H3 → QR) → QR) (fun a0 a1 a2 a3 a4 a5 a6 a7 a8 a9 a10 a11 a12 a13 a14 a15 f k => f a0 fun v => k ⟨v, a1, a2, a3, a4, a5, a6, a7, a8, a9, a10, a11, a12, a13, a14, a15⟩) n f k
noncomputable def hc1 (f : H2 → (H2 → QR) → QR) (n : H3) (k : H3 → QR) : QR := N16.rec (motive := fun _ => (H2 → (H2 → QR) → QR) → (H3 → QR) → QR) (fun a0 a1 a2 a3 a4 a5 a6 a7 a8 a9 a10 a11 a12 a13 a14 a15 f k => f a1 fun v => k ⟨a0, v, a2, a3, a4, a5, a6, a7, a8, a9, a10, a11, a12, a13, a14, a15⟩) n f k
noncomputable def hc2 (f : H2 → (H2 → QR) → QR) (n : H3) (k : H3 → QR) : QR := N16.rec (motive := fun _ => (H2 → (H2 → QR) → QR) → (H3 → QR) → QR) (fun a0 a1 a2 a3 a4 a5 a6 a7 a8 a9 a10 a11 a12 a13 a14 a15 f k => f a2 fun v => k ⟨a0, a1, v, a3, a4, a5, a6, a7, a8, a9, a10, a11, a12, a13, a14, a15⟩) n f k
noncomputable def hc3 (f : H2 → (H2 → QR) → QR) (n : H3) (k : H3 → QR) : QR := N16.rec (motive := fun _ => (H2 → (H2 → QR) → QR) → (H3 → QR) → QR) (fun a0 a1 a2 a3 a4 a5 a6 a7 a8 a9 a10 a11 a12 a13 a14 a15 f k => f a3 fun v => k ⟨a0, a1, a2, v, a4, a5, a6, a7, a8, a9, a10, a11, a12, a13, a14, a15⟩) n f k
noncomputable def hc4 (f : H2 → (H2 → QR) → QR) (n : H3) (k : H3 → QR) : QR := N16.rec (motive := fun _ => (H2 → (H2 → QR) → QR) → (H3 → QR) → QR) (fun a0 a1 a2 a3 a4 a5 a6 a7 a8 a9 a10 a11 a12 a13 a14 a15 f k => f a4 fun v => k ⟨a0, a1, a2, a3, v, a5, a6, a7, a8, a9, a10, a11, a12, a13, a14, a15⟩) n f k
noncomputable def hc5 (f : H2 → (H2 → QR) → QR) (n : H3) (k : H3 → QR) : QR := N16.rec (motive := fun _ => (H2 → (H2 → QR) → QR) → (H3 → QR) → QR) (fun a0 a1 a2 a3 a4 a5 a6 a7 a8 a9 a10 a11 a12 a13 a14 a15 f k => f a5 fun v => k ⟨a0, a1, a2, a3, a4, v, a6, a7, a8, a9, a10, a11, a12, a13, a14, a15⟩) n f k
noncomputable def hc6 (f : H2 → (H2 → QR) → QR) (n : H3) (k : H3 → QR) : QR := N16.rec (motive := fun _ => (H2 → (H2 → QR) → QR) → (H3 → QR) → QR) (fun a0 a1 a2 a3 a4 a5 a6 a7 a8 a9 a10 a11 a12 a13 a14 a15 f k => f a6 fun v => k ⟨a0, a1, a2, a3, a4, a5, v, a7, a8, a9, a10, a11, a12, a13, a14, a15⟩) n f k
noncomputable def hc7 (f : H2 → (H2 → QR) → QR) (n : H3) (k : H3 → QR) : QR := N16.rec (motive := fun _ => (H2 → (H2 → QR) → QR) → (H3 → QR) → QR) (fun a0 a1 a2 a3 a4 a5 a6 a7 a8 a9 a10 a11 a12 a13 a14 a15 f k => f a7 fun v => k ⟨a0, a1, a2, a3, a4, a5, a6, v, a8, a9, a10, a11, a12, a13, a14, a15⟩) n f k
noncomputable def hc8 (f : H2 → (H2 → QR) → QR) (n : H3) (k : H3 → QR) : QR := N16.rec (motive := fun _ => (H2 → (H2 → QR) → QR) → (H3 → QR) → QR) (fun a0 a1 a2 a3 a4 a5 a6 a7 a8 a9 a10 a11 a12 a13 a14 a15 f k => f a8 fun v => k ⟨a0, a1, a2, a3, a4, a5, a6, a7, v, a9, a10, a11, a12, a13, a14, a15⟩) n f k
noncomputable def hc9 (f : H2 → (H2 → QR) → QR) (n : H3) (k : H3 → QR) : QR := N16.rec (motive := fun _ => (H2 → (H2 → QR) → QR) → (H3 → QR) → QR) (fun a0 a1 a2 a3 a4 a5 a6 a7 a8 a9 a10 a11 a12 a13 a14 a15 f k => f a9 fun v => k ⟨a0, a1, a2, a3, a4, a5, a6, a7, a8, v, a10, a11, a12, a13, a14, a15⟩) n f k
noncomputable def hc10 (f : H2 → (H2 → QR) → QR) (n : H3) (k : H3 → QR) : QR := N16.rec (motive := fun _ => (H2 → (H2 → QR) → QR) → (H3 → QR) → QR) (fun a0 a1 a2 a3 a4 a5 a6 a7 a8 a9 a10 a11 a12 a13 a14 a15 f k => f a10 fun v => k ⟨a0, a1, a2, a3, a4, a5, a6, a7, a8, a9, v, a11, a12, a13, a14, a15⟩) n f k
noncomputable def hc11 (f : H2 → (H2 → QR) → QR) (n : H3) (k : H3 → QR) : QR := N16.rec (motive := fun _ => (H2 → (H2 → QR) → QR) → (H3 → QR) → QR) (fun a0 a1 a2 a3 a4 a5 a6 a7 a8 a9 a10 a11 a12 a13 a14 a15 f k => f a11 fun v => k ⟨a0, a1, a2, a3, a4, a5, a6, a7, a8, a9, a10, v, a12, a13, a14, a15⟩) n f k
noncomputable def hc12 (f : H2 → (H2 → QR) → QR) (n : H3) (k : H3 → QR) : QR := N16.rec (motive := fun _ => (H2 → (H2 → QR) → QR) → (H3 → QR) → QR) (fun a0 a1 a2 a3 a4 a5 a6 a7 a8 a9 a10 a11 a12 a13 a14 a15 f k => f a12 fun v => k ⟨a0, a1, a2, a3, a4, a5, a6, a7, a8, a9, a10, a11, v, a13, a14, a15⟩) n f k
noncomputable def hc13 (f : H2 → (H2 → QR) → QR) (n : H3) (k : H3 → QR) : QR := N16.rec (motive := fun _ => (H2 → (H2 → QR) → QR) → (H3 → QR) → QR) (fun a0 a1 a2 a3 a4 a5 a6 a7 a8 a9 a10 a11 a12 a13 a14 a15 f k => f a13 fun v => k ⟨a0, a1, a2, a3, a4, a5, a6, a7, a8, a9, a10, a11, a12, v, a14, a15⟩) n f k
noncomputable def hc14 (f : H2 → (H2 → QR) → QR) (n : H3) (k : H3 → QR) : QR := N16.rec (motive := fun _ => (H2 → (H2 → QR) → QR) → (H3 → QR) → QR) (fun a0 a1 a2 a3 a4 a5 a6 a7 a8 a9 a10 a11 a12 a13 a14 a15 f k => f a14 fun v => k ⟨a0, a1, a2, a3, a4, a5, a6, a7, a8, a9, a10, a11, a12, a13, v, a15⟩) n f k
noncomputable def hc15 (f : H2 → (H2 → QR) → QR) (n : H3) (k : H3 → QR) : QR := N16.rec (motive := fun _ => (H2 → (H2 → QR) → QR) → (H3 → QR) → QR) (fun a0 a1 a2 a3 a4 a5 a6 a7 a8 a9 a10 a11 a12 a13 a14 a15 f k => f a15 fun v => k ⟨a0, a1, a2, a3, a4, a5, a6, a7, a8, a9, a10, a11, a12, a13, a14, v⟩) n f k
noncomputable def hcU {S : Type} (i : Nat) (K : ((H2 → (H2 → QR) → QR) → H3 → (H3 → QR) → QR) → S) : S := (bif Nat.blt i 8 then (bif Nat.blt i 4 then (bif Nat.blt i 2 then (bif Nat.blt i 1 then K hc0 else K hc1) else (bif Nat.blt i 3 then K hc2 else K hc3)) else (bif Nat.blt i 6 then (bif Nat.blt i 5 then K hc4 else K hc5) else (bif Nat.blt i 7 then K hc6 else K hc7))) else (bif Nat.blt i 12 then (bif Nat.blt i 10 then (bif Nat.blt i 9 then K hc8 else K hc9) else (bif Nat.blt i 11 then K hc10 else K hc11)) else (bif Nat.blt i 14 then (bif Nat.blt i 13 then K hc12 else K hc13) else (bif Nat.blt i 15 then K hc14 else K hc15))))
theorem hcU_eq {S : Type} (K : ((H2 → (H2 → QR) → QR) → H3 → (H3 → QR) → QR) → S) : ∀ i, i < 16 → hcU i K = K fun f n k => f (N16.get n i) fun v => k (N16.set n i v) := by
 refine lt16 ?_ ?_ ?_ ?_ ?_ ?_ ?_ ?_ ?_ ?_ ?_ ?_ ?_ ?_ ?_ ?_ <;> rfl
noncomputable def hd0 (f : H3 → (H3 → QR) → QR) (n : H4) (k : H4 → QR) : QR := N16.rec (motive := fun _ => (H3 → (H3 → QR) → QR) → (H4 → QR) → QR) (fun a0 a1 a2 a3 a4 a5 a6 a7 a8 a9 a10 a11 a12 a13 a14 a15 f k => f a0 fun v => k ⟨v, a1, a2, a3, a4, a5, a6, a7, a8, a9, a10, a11, a12, a13, a14, a15⟩) n f k
noncomputable def hd1 (f : H3 → (H3 → QR) → QR) (n : H4) (k : H4 → QR) : QR := N16.rec (motive := fun _ => (H3 → (H3 → QR) → QR) → (H4 → QR) → QR) (fun a0 a1 a2 a3 a4 a5 a6 a7 a8 a9 a10 a11 a12 a13 a14 a15 f k => f a1 fun v => k ⟨a0, v, a2, a3, a4, a5, a6, a7, a8, a9, a10, a11, a12, a13, a14, a15⟩) n f k
noncomputable def hd2 (f : H3 → (H3 → QR) → QR) (n : H4) (k : H4 → QR) : QR := N16.rec (motive := fun _ => (H3 → (H3 → QR) → QR) → (H4 → QR) → QR) (fun a0 a1 a2 a3 a4 a5 a6 a7 a8 a9 a10 a11 a12 a13 a14 a15 f k => f a2 fun v => k ⟨a0, a1, v, a3, a4, a5, a6, a7, a8, a9, a10, a11, a12, a13, a14, a15⟩) n f k
noncomputable def hd3 (f : H3 → (H3 → QR) → QR) (n : H4) (k : H4 → QR) : QR := N16.rec (motive := fun _ => (H3 → (H3 → QR) → QR) → (H4 → QR) → QR) (fun a0 a1 a2 a3 a4 a5 a6 a7 a8 a9 a10 a11 a12 a13 a14 a15 f k => f a3 fun v => k ⟨a0, a1, a2, v, a4, a5, a6, a7, a8, a9, a10, a11, a12, a13, a14, a15⟩) n f k
noncomputable def hd4 (f : H3 → (H3 → QR) → QR) (n : H4) (k : H4 → QR) : QR := N16.rec (motive := fun _ => (H3 → (H3 → QR) → QR) → (H4 → QR) → QR) (fun a0 a1 a2 a3 a4 a5 a6 a7 a8 a9 a10 a11 a12 a13 a14 a15 f k => f a4 fun v => k ⟨a0, a1, a2, a3, v, a5, a6, a7, a8, a9, a10, a11, a12, a13, a14, a15⟩) n f k
noncomputable def hd5 (f : H3 → (H3 → QR) → QR) (n : H4) (k : H4 → QR) : QR := N16.rec (motive := fun _ => (H3 → (H3 → QR) → QR) → (H4 → QR) → QR) (fun a0 a1 a2 a3 a4 a5 a6 a7 a8 a9 a10 a11 a12 a13 a14 a15 f k => f a5 fun v => k ⟨a0, a1, a2, a3, a4, v, a6, a7, a8, a9, a10, a11, a12, a13, a14, a15⟩) n f k
noncomputable def hd6 (f : H3 → (H3 → QR) → QR) (n : H4) (k : H4 → QR) : QR := N16.rec (motive := fun _ => (H3 → (H3 → QR) → QR) → (H4 → QR) → QR) (fun a0 a1 a2 a3 a4 a5 a6 a7 a8 a9 a10 a11 a12 a13 a14 a15 f k => f a6 fun v => k ⟨a0, a1, a2, a3, a4, a5, v, a7, a8, a9, a10, a11, a12, a13, a14, a15⟩) n f k
noncomputable def hd7 (f : H3 → (H3 → QR) → QR) (n : H4) (k : H4 → QR) : QR := N16.rec (motive := fun _ => (H3 → (H3 → QR) → QR) → (H4 → QR) → QR) (fun a0 a1 a2 a3 a4 a5 a6 a7 a8 a9 a10 a11 a12 a13 a14 a15 f k => f a7 fun v => k ⟨a0, a1, a2, a3, a4, a5, a6, v, a8, a9, a10, a11, a12, a13, a14, a15⟩) n f k
noncomputable def hd8 (f : H3 → (H3 → QR) → QR) (n : H4) (k : H4 → QR) : QR := N16.rec (motive := fun _ => (H3 → (H3 → QR) → QR) → (H4 → QR) → QR) (fun a0 a1 a2 a3 a4 a5 a6 a7 a8 a9 a10 a11 a12 a13 a14 a15 f k => f a8 fun v => k ⟨a0, a1, a2, a3, a4, a5, a6, a7, v, a9, a10, a11, a12, a13, a14, a15⟩) n f k
noncomputable def hd9 (f : H3 → (H3 → QR) → QR) (n : H4) (k : H4 → QR) : QR := N16.rec (motive := fun _ => (H3 → (H3 → QR) → QR) → (H4 → QR) → QR) (fun a0 a1 a2 a3 a4 a5 a6 a7 a8 a9 a10 a11 a12 a13 a14 a15 f k => f a9 fun v => k ⟨a0, a1, a2, a3, a4, a5, a6, a7, a8, v, a10, a11, a12, a13, a14, a15⟩) n f k
noncomputable def hd10 (f : H3 → (H3 → QR) → QR) (n : H4) (k : H4 → QR) : QR := N16.rec (motive := fun _ => (H3 → (H3 → QR) → QR) → (H4 → QR) → QR) (fun a0 a1 a2 a3 a4 a5 a6 a7 a8 a9 a10 a11 a12 a13 a14 a15 f k => f a10 fun v => k ⟨a0, a1, a2, a3, a4, a5, a6, a7, a8, a9, v, a11, a12, a13, a14, a15⟩) n f k
noncomputable def hd11 (f : H3 → (H3 → QR) → QR) (n : H4) (k : H4 → QR) : QR := N16.rec (motive := fun _ => (H3 → (H3 → QR) → QR) → (H4 → QR) → QR) (fun a0 a1 a2 a3 a4 a5 a6 a7 a8 a9 a10 a11 a12 a13 a14 a15 f k => f a11 fun v => k ⟨a0, a1, a2, a3, a4, a5, a6, a7, a8, a9, a10, v, a12, a13, a14, a15⟩) n f k
noncomputable def hd12 (f : H3 → (H3 → QR) → QR) (n : H4) (k : H4 → QR) : QR := N16.rec (motive := fun _ => (H3 → (H3 → QR) → QR) → (H4 → QR) → QR) (fun a0 a1 a2 a3 a4 a5 a6 a7 a8 a9 a10 a11 a12 a13 a14 a15 f k => f a12 fun v => k ⟨a0, a1, a2, a3, a4, a5, a6, a7, a8, a9, a10, a11, v, a13, a14, a15⟩) n f k
noncomputable def hd13 (f : H3 → (H3 → QR) → QR) (n : H4) (k : H4 → QR) : QR := N16.rec (motive := fun _ => (H3 → (H3 → QR) → QR) → (H4 → QR) → QR) (fun a0 a1 a2 a3 a4 a5 a6 a7 a8 a9 a10 a11 a12 a13 a14 a15 f k => f a13 fun v => k ⟨a0, a1, a2, a3, a4, a5, a6, a7, a8, a9, a10, a11, a12, v, a14, a15⟩) n f k
noncomputable def hd14 (f : H3 → (H3 → QR) → QR) (n : H4) (k : H4 → QR) : QR := N16.rec (motive := fun _ => (H3 → (H3 → QR) → QR) → (H4 → QR) → QR) (fun a0 a1 a2 a3 a4 a5 a6 a7 a8 a9 a10 a11 a12 a13 a14 a15 f k => f a14 fun v => k ⟨a0, a1, a2, a3, a4, a5, a6, a7, a8, a9, a10, a11, a12, a13, v, a15⟩) n f k
noncomputable def hd15 (f : H3 → (H3 → QR) → QR) (n : H4) (k : H4 → QR) : QR := N16.rec (motive := fun _ => (H3 → (H3 → QR) → QR) → (H4 → QR) → QR) (fun a0 a1 a2 a3 a4 a5 a6 a7 a8 a9 a10 a11 a12 a13 a14 a15 f k => f a15 fun v => k ⟨a0, a1, a2, a3, a4, a5, a6, a7, a8, a9, a10, a11, a12, a13, a14, v⟩) n f k
noncomputable def hdU {S : Type} (i : Nat) (K : ((H3 → (H3 → QR) → QR) → H4 → (H4 → QR) → QR) → S) : S := (bif Nat.blt i 8 then (bif Nat.blt i 4 then (bif Nat.blt i 2 then (bif Nat.blt i 1 then K hd0 else K hd1) else (bif Nat.blt i 3 then K hd2 else K hd3)) else (bif Nat.blt i 6 then (bif Nat.blt i 5 then K hd4 else K hd5) else (bif Nat.blt i 7 then K hd6 else K hd7))) else (bif Nat.blt i 12 then (bif Nat.blt i 10 then (bif Nat.blt i 9 then K hd8 else K hd9) else (bif Nat.blt i 11 then K hd10 else K hd11)) else (bif Nat.blt i 14 then (bif Nat.blt i 13 then K hd12 else K hd13) else (bif Nat.blt i 15 then K hd14 else K hd15))))
theorem hdU_eq {S : Type} (K : ((H3 → (H3 → QR) → QR) → H4 → (H4 → QR) → QR) → S) : ∀ i, i < 16 → hdU i K = K fun f n k => f (N16.get n i) fun v => k (N16.set n i v) := by
 refine lt16 ?_ ?_ ?_ ?_ ?_ ?_ ?_ ?_ ?_ ?_ ?_ ?_ ?_ ?_ ?_ ?_ <;> rfl
noncomputable def slo (u : (KV → (KV → QR) → QR) → S2 → (S2 → QR) → QR) (f : KV → (KV → QR) → QR) (s : Sl) (K : Sl → QR) : QR := Sl.rec (motive := fun _ => ((KV → (KV → QR) → QR) → S2 → (S2 → QR) → QR) → (KV → (KV → QR) → QR) → (Sl → QR) → QR) (fun lo hi u f K => u f lo fun lo => K ⟨lo, hi⟩) s u f K
noncomputable def dS (t : Nat) : Sel Sl KV := bif Nat.blt t 256 then sel16 (α := S1) (t / 16) fun p => sel16 (α := KV) (t % 16) fun q => .mk fun s => q (p s.lo) else .mk fun s => lget s.hi t
noncomputable def dU (t : Nat) : Upd KV Sl := bif Nat.blt t 256 then sbU (t / 16) fun p => saU (t % 16) fun q => .mk fun f s K => slo (fun f => p (q f)) f s K else .mk fun f s K => f (lget s.hi t) fun v => K ⟨s.lo, lput s.hi t v⟩
theorem dS_eq (t : Nat) : dS t = .mk fun s => sget s t := by
 unfold dS sget
 rw [blt_dec, Bool.cond_decide]
 by_cases h : t < 256
 ·simp only [if_pos h]
  rw [sel16_eq _ _ (by omega), sel16_eq _ _ (by omega)]
  rfl
 ·simp only [if_neg h]
theorem dU_eq (t : Nat) : dU t = .mk fun f s K => f (sget s t) fun v => K (sput s t v) := by
 unfold dU sget sput
 rw [blt_dec, Bool.cond_decide]
 by_cases h : t < 256
 ·simp only [if_pos h]
  rw [sbU_eq _ _ (by omega), saU_eq _ _ (by omega)]
  rfl
 ·simp only [if_neg h]
noncomputable def dH (id : Nat) : Sel (N64k KO) (Option KO) := bif Nat.blt id 65536 then sel16 (α := H3) (id / 256 / 16) fun a => sel16 (α := H2) (id / 256 % 16) fun b => sel16 (α := H1) (id % 256 / 16) fun c => sel16 (α := H0) (id % 256 % 16) fun d => .mk fun m => d (c (b (a m))) else .mk fun m => none
noncomputable def uH (id : Nat) : Upd (Option KO) (N64k KO) := bif Nat.blt id 65536 then hdU (id / 256 / 16) fun a => hcU (id / 256 % 16) fun b => hbU (id % 256 / 16) fun c => haU (id % 256 % 16) fun d => .mk fun f m K => a (b (c (d f))) m K else .mk fun f m K => f none fun _ => K m
theorem dH_eq (id : Nat) : dH id = .mk fun m => N64k.get m id := by
 unfold dH N64k.get
 rw [blt_dec, Bool.cond_decide]
 by_cases h : id < 65536
 ·simp only [if_pos h]
  rw [sel16_eq _ _ (by omega), sel16_eq _ _ (by omega), sel16_eq _ _ (by omega), sel16_eq _ _ (by omega)]
  rfl
 ·simp only [if_neg h]
theorem uH_eq (id : Nat) : uH id = .mk fun f m K => f (N64k.get m id) fun v => K (N64k.set m id v) := by
 unfold uH N64k.get N64k.set
 rw [blt_dec, Bool.cond_decide]
 by_cases h : id < 65536
 ·simp only [if_pos h]
  rw [hdU_eq _ _ (by omega), hcU_eq _ _ (by omega), hbU_eq _ _ (by omega), haU_eq _ _ (by omega)]
  rfl
 ·simp only [if_neg h]
noncomputable def ogo (o : Option KO) (K : KO → QR) : QR := Option.rec (motive := fun _ => (KO → QR) → QR) (fun _ => none) (fun o K => K o) o K
noncomputable def hgetK (h : KH) (id : Nat) (K : KO → QR) : QR := Sel.rec (motive := fun _ => KH → (KO → QR) → QR) (fun g h K => ogo (g h.t) K) (dH id) h K
theorem hgetK_eq (h : KH) (id : Nat) (K : KO → QR) : hgetK h id K = (h.get id).elim none K := by
 unfold hgetK
 rw [dH_eq]
 show ogo (h.get id) K = _
 cases h.get id <;> rfl
noncomputable def hputK (u : Upd (Option KO) (N64k KO)) (o : Option KO) (t : N64k KO) (n : Nat) (K : KH → QR) : QR := Upd.rec (motive := fun _ => Option KO → N64k KO → Nat → (KH → QR) → QR) (fun u o t n K => u (fun _ k => k o) t fun t => K ⟨t, n⟩) u o t n K
noncomputable def hsetK (h : KH) (id : Nat) (o : KO) (K : KH → QR) : QR := hputK (uH id) (some o) h.t h.next K
theorem hsetK_eq (h : KH) (id : Nat) (o : KO) (K : KH → QR) : hsetK h id o K = K (h.set id (some o)) := by
 unfold hsetK hputK; rw [uH_eq]; rfl
noncomputable def hdropK (h : KH) (id : Nat) (K : KH → QR) : QR := hputK (uH id) none h.t h.next K
theorem hdropK_eq (h : KH) (id : Nat) (K : KH → QR) : hdropK h id K = K (h.set id none) := by
 unfold hdropK hputK; rw [uH_eq]; rfl
noncomputable def hpush2 (t : N64k KO) (o : KO) (K : Nat → KH → QR) (i : Nat) : QR := bif' (Nat.blt (Nat.succ i) 65000) (nfc (Nat.succ i) fun n => hputK (uH i) (some o) t n (K i)) none
noncomputable def hpushK (h : KH) (o : KO) (K : Nat → KH → QR) : QR := nfc h.next (hpush2 h.t o K)
theorem hpushK_eq (h : KH) (o : KO) (K : Nat → KH → QR) : hpushK h o K = if kroom h = true then K h.next (h.push o) else none := by
 unfold hpushK hpush2 hputK
 simp only [nfc_eq, bif'_eq]
 rw [uH_eq]
 rfl
noncomputable def qnth (l : List KV) (i : Nat) (K : KV → QR) : QR := List.rec (motive := fun _ => Nat → (KV → QR) → QR) (fun _ _ => none) (fun v _ ih i K => Nat.rec (motive := fun _ => QR) (K v) (fun j _ => ih j K) i) l i K
theorem qnth_eq (l : List KV) (i : Nat) (K : KV → QR) : qnth l i K = (l[i]?).elim none K := by
 induction l generalizing i with
 | nil => rfl
 | cons v r ih => cases i with
  | zero => rfl
  | succ i => exact ih i
noncomputable def qdrop (l : List KV) (i : Nat) (K : List KV → QR) : QR := List.rec (motive := fun _ => Nat → (List KV → QR) → QR) (fun _ K => K []) (fun v r ih i K => Nat.rec (motive := fun _ => QR) (K (v :: r)) (fun j _ => ih j K) i) l i K
theorem qdrop_eq (l : List KV) (i : Nat) (K : List KV → QR) : qdrop l i K = K (l.drop i) := by
 induction l generalizing i with
 | nil => simp only [List.drop_nil]; rfl
 | cons v r ih => cases i with
  | zero => rfl
  | succ i => exact ih i
noncomputable def qtake (l : List KV) (n : Nat) (K : List KV → QR) : QR := List.rec (motive := fun _ => Nat → (List KV → QR) → QR) (fun n K => Nat.rec (motive := fun _ => QR) (K []) (fun _ _ => none) n) (fun v _ ih n K => Nat.rec (motive := fun _ => QR) (K []) (fun m _ => ih m fun l => K (v :: l)) n) l n K
theorem qtake_eq (l : List KV) (n : Nat) (K : List KV → QR) : qtake l n K = if (l.take n).length = n then K (l.take n) else none := by
 induction l generalizing n K with
 | nil => cases n with
  | zero => rfl
  | succ n => simp only [List.take_nil, List.length_nil]; rfl
 | cons v r ih => cases n with
  | zero => rfl
  | succ n =>
   have : qtake (v :: r) (n + 1) K = qtake r n fun l => K (v :: l) := rfl
   rw [this, ih]
   simp only [List.take_succ_cons, List.length_cons, Nat.add_right_cancel_iff]
noncomputable def qapp (l r : List KV) (K : List KV → QR) : QR := List.rec (motive := fun _ => List KV → (List KV → QR) → QR) (fun r K => K r) (fun v _ ih r K => ih r fun l => K (v :: l)) l r K
theorem qapp_eq (l r : List KV) (K : List KV → QR) : qapp l r K = K (l ++ r) := by
 induction l generalizing K with
 | nil => rfl
 | cons v l ih => exact ih _
noncomputable def qspl (l : List KV) (off n : Nat) (new : List KV) (K : List KV → QR) : QR :=
 List.rec (motive := fun _ => Nat → Nat → List KV → (List KV → QR) → QR) (fun off n new K => Nat.rec (motive := fun _ => QR) (Nat.rec (motive := fun _ => QR) (K new) (fun _ _ => none) n) (fun _ _ => none) off)
  (fun v r ih off n new K => Nat.rec (motive := fun _ => QR) (qtake (v :: r) n fun _ => qdrop (v :: r) n fun r => qapp new r K) (fun j _ => ih j n new fun l => K (v :: l)) off) l off n new K
theorem qspl_eq (l : List KV) (off n : Nat) (new : List KV) (K : List KV → QR) : qspl l off n new K = if off + n ≤ l.length then K (l.take off ++ new ++ l.drop (off + n)) else none := by
 induction l generalizing off K with
 | nil =>
  cases off with
  | zero => cases n with
   | zero => simp only [Nat.add_zero, List.length_nil, Nat.le_refl, if_true, List.take_nil, List.drop_nil, List.nil_append, List.append_nil]; rfl
   | succ n => rw [if_neg (by simp)]; rfl
  | succ off => rw [if_neg (by simp only [List.length_nil]; omega)]; rfl
 | cons v r ih => cases off with
  | zero =>
   have : qspl (v :: r) 0 n new K = qtake (v :: r) n fun _ => qdrop (v :: r) n fun r => qapp new r K := rfl
   rw [this, qtake_eq]
   simp only [qdrop_eq, qapp_eq, Nat.zero_add, List.take_zero, List.nil_append]
   have e : ((v :: r).take n).length = n ↔ n ≤ (v :: r).length := by rw [List.length_take]; omega
   by_cases h : n ≤ (v :: r).length
   ·rw [if_pos h, if_pos (e.2 h)]
   ·rw [if_neg h, if_neg (fun h' => h (e.1 h'))]
  | succ off =>
   have : qspl (v :: r) (off + 1) n new K = qspl r off n new fun l => K (v :: l) := rfl
   rw [this, ih]
   have e : off + n ≤ r.length ↔ off + 1 + n ≤ (v :: r).length := by simp only [List.length_cons]; omega
   have e2 : off + 1 + n = (off + n) + 1 := by omega
   by_cases h : off + n ≤ r.length
   ·rw [if_pos h, if_pos (e.1 h), e2]; rfl
   ·rw [if_neg h, if_neg (fun h' => h (e.2 h'))]
noncomputable def qlen (l : List KV) (K : Nat → QR) : QR := List.rec (motive := fun _ => Nat → (Nat → QR) → QR) (fun n K => nfc n K) (fun _ _ ih n K => nfc (Nat.succ n) fun n => ih n K) l 0 K
theorem qlen_eq (l : List KV) (K : Nat → QR) : qlen l K = K l.length := by
 have : ∀ n, List.rec (motive := fun _ => Nat → (Nat → QR) → QR) (fun n K => nfc n K) (fun _ _ ih n K => nfc (Nat.succ n) fun n => ih n K) l n K = K (l.length + n) := by
  induction l with
  | nil => intro n; simp [nfc_eq]
  | cons v r ih => intro n; refine (nfc_eq _ _).trans ((ih (Nat.succ n)).trans ?_); congr 1; simp only [List.length_cons]; omega
 exact this 0
noncomputable def qcells (l : List KV) (n : Nat) (K : QR) : QR := List.rec (motive := fun _ => Nat → QR → QR) (fun n K => Nat.rec (motive := fun _ => QR) K (fun _ _ => none) n) (fun v _ ih n K => Nat.rec (motive := fun _ => QR) none (fun m _ => v.onCell (ih m K) none) n) l n K
theorem qcells_eq (l : List KV) (n : Nat) (K : QR) : qcells l n K = if l.length = n ∧ KV.isCells l = true then K else none := by
 induction l generalizing n with
 | nil => cases n with
  | zero => rw [if_pos ⟨rfl, rfl⟩]; rfl
  | succ n => rw [if_neg (by simp)]; rfl
 | cons v r ih => cases n with
  | zero => rw [if_neg (by simp)]; rfl
  | succ n =>
   have : qcells (v :: r) (n + 1) K = v.onCell (qcells r n K) none := rfl
   rw [this, KV.onCell_eq, ih]
   by_cases h : v.isCell = true <;> simp [KV.isCells, h]
noncomputable def qcellsOf (v : KV) (n : Nat) (K : List KV → QR) : QR := KV.rec (motive_1 := fun _ => Nat → (List KV → QR) → QR) (motive_2 := fun _ => Nat → (List KV → QR) → QR) (fun m K => none) (fun b m K => bif' (Nat.beq m 1) (K [(.bool b)]) none) (fun k n m K => bif' (Nat.beq m 1) (K [(.int k n)]) none) (fun n s m K => bif' (Nat.beq m 1) (K [(.str n s)]) none) (fun i o m K => bif' (Nat.beq m 1) (K [(.ptr i o)]) none) (fun m K => bif' (Nat.beq m 1) (K [.nilp]) none) (fun i o l c s m K => bif' (Nat.beq m 1) (K [(.sl i o l c s)]) none) (fun m K => bif' (Nat.beq m 1) (K [.slz]) none) (fun m K => bif' (Nat.beq m 1) (K [.nilsl]) none) (fun fn x y _ _ m K => bif' (Nat.beq m 1) (K [(.func fn x y)]) none) (fun m K => bif' (Nat.beq m 1) (K [.nilfunc]) none) (fun i m K => bif' (Nat.beq m 1) (K [(.yield i)]) none) (fun a _ m K => qcells a m (K a)) (fun _ _ m K => none) (fun i m K => bif' (Nat.beq m 1) (K [(.map i)]) none) (fun m K => bif' (Nat.beq m 1) (K [.nilmap]) none) (fun ty u _ m K => bif' (Nat.beq m 1) (K [(.iface ty u)]) none) (fun m K => bif' (Nat.beq m 1) (K [.niliface]) none) (fun n K => none) (fun _ _ _ _ n K => none) v n K
theorem qcellsOf_eq (v : KV) (n : Nat) (K : List KV → QR) : qcellsOf v n K = if v.cells.length = n ∧ KV.isCells v.cells = true then K v.cells else none := by
 have one : ∀ {v : KV}, v.cells = [v] → v.isCell = true → bif' (Nat.beq n 1) (K [v]) none = if v.cells.length = n ∧ KV.isCells v.cells = true then K v.cells else none := by
  intro v hv h
  rw [bif'_eq, hv]
  simp only [Nat.beq_eq, List.length_cons, List.length_nil, KV.isCells, List.all_cons, List.all_nil, Bool.and_true, Nat.zero_add, eq_comm (a := 1), h, and_true]
 cases v with
 | agg cs => exact qcells_eq _ _ _
 | junk => rw [if_neg (by simp [KV.cells, KV.isCells, KV.isCell])]; rfl
 | tuple l => rw [if_neg (by simp [KV.cells, KV.isCells, KV.isCell])]; rfl
 | bool x0 => exact one (v := .bool x0) rfl rfl
 | int x0 x1 => exact one (v := .int x0 x1) rfl rfl
 | str x0 x1 => exact one (v := .str x0 x1) rfl rfl
 | ptr x0 x1 => exact one (v := .ptr x0 x1) rfl rfl
 | nilp  => exact one (v := .nilp ) rfl rfl
 | sl x0 x1 x2 x3 x4 => exact one (v := .sl x0 x1 x2 x3 x4) rfl rfl
 | slz  => exact one (v := .slz ) rfl rfl
 | nilsl  => exact one (v := .nilsl ) rfl rfl
 | func x0 x1 x2 => exact one (v := .func x0 x1 x2) rfl rfl
 | nilfunc  => exact one (v := .nilfunc ) rfl rfl
 | yield x0 => exact one (v := .yield x0) rfl rfl
 | map x0 => exact one (v := .map x0) rfl rfl
 | nilmap  => exact one (v := .nilmap ) rfl rfl
 | iface x0 x1 => exact one (v := .iface x0 x1) rfl rfl
 | niliface  => exact one (v := .niliface ) rfl rfl
def tb (m i : Nat) : Bool := Nat.beq (Nat.land (Nat.shiftRight m i) 1) 1
theorem tb_eq (m i : Nat) : tb m i = Nat.testBit m i := by
 unfold tb
 have e1 : Nat.land (Nat.shiftRight m i) 1 = (m >>> i) % 2 := Nat.and_one_is_mod (m >>> i)
 rw [e1, Nat.testBit_eq_decide_div_mod_eq, Nat.shiftRight_eq_div_pow]
 rw [beq_dec]
def bt (i : Nat) : Nat := Nat.shiftLeft 1 i
theorem tb_bt (i k : Nat) : tb (bt i) k = decide (k = i) := by
 rw [tb_eq]
 show Nat.testBit (1 <<< i) k = _
 rw [Nat.one_shiftLeft, Nat.testBit_two_pow]
 by_cases h : i = k
 ·subst h; simp
 ·simp [h, Ne.symm h]
theorem tb_or (a b i : Nat) : tb (Nat.lor a b) i = (tb a i || tb b i) := by rw [tb_eq, tb_eq, tb_eq]; exact Nat.testBit_or a b i
theorem tb_and (a b i : Nat) : tb (Nat.land a b) i = (tb a i && tb b i) := by rw [tb_eq, tb_eq, tb_eq]; exact Nat.testBit_and a b i
theorem tb_zero (i : Nat) : tb 0 i = false := by rw [tb_eq]; exact Nat.zero_testBit i
def sub? (a b : Nat) : Bool := Nat.beq (Nat.land a b) a
theorem sub_tb {a b : Nat} (h : sub? a b = true) {i : Nat} (hi : tb a i = true) : tb b i = true := by
 have e := Nat.eq_of_beq_eq_true h
 have : tb (Nat.land a b) i = true := by rw [e]; exact hi
 rw [tb_and, Bool.and_eq_true] at this
 exact this.2
structure OI where
 d : Nat
 dst : Option Nat
 r : Nat
 still : Bool
 al : Bool
noncomputable def dmask (l : List Edge) : Nat := List.rec (motive := fun _ => Nat) 0 (fun e _ ih => bif Region.binds .any e then Nat.lor (bt e.on) ih else ih) l
theorem dmask_tb (l : List Edge) (k : Nat) : tb (dmask l) k = true ↔ k ∈ (l.filter fun e => Region.binds .any e).map (·.on) := by
 induction l with
 | nil => simp [dmask, tb_zero]
 | cons e l ih =>
  have e1 : dmask (e :: l) = bif Region.binds .any e then Nat.lor (bt e.on) (dmask l) else dmask l := rfl
  rw [e1]
  cases hb : Region.binds .any e with
  | true =>
   simp only [cond_true, tb_or, tb_bt, List.filter_cons, hb, if_true, List.map_cons, List.mem_cons, Bool.or_eq_true, decide_eq_true_eq, ih]
  | false => simp only [cond_false, List.filter_cons, hb, Bool.false_eq_true, if_false, ih]
noncomputable def smask (l : List Operand) : Nat := List.rec (motive := fun _ => Nat) 0 (fun x _ ih => Operand.rec (motive := fun _ => Nat) (fun t => Nat.lor (bt t) ih) (fun _ => ih) (fun _ => ih) (fun _ => ih) x) l
theorem smask_tb (l : List Operand) (k : Nat) : tb (smask l) k = true ↔ k ∈ l.filterMap fun | .tmp t => some t | _ => none := by
 induction l with
 | nil => simp [smask, tb_zero]
 | cons x l ih =>
  cases x with
  | tmp t =>
   have e1 : smask (.tmp t :: l) = Nat.lor (bt t) (smask l) := rfl
   rw [e1, tb_or, Bool.or_eq_true, tb_bt, ih]
   simp
  | const v => have e1 : smask (.const v :: l) = smask l := rfl; rw [e1, ih]; simp
  | global v => have e1 : smask (.global v :: l) = smask l := rfl; rw [e1, ih]; simp
  | func v => have e1 : smask (.func v :: l) = smask l := rfl; rw [e1, ih]; simp
noncomputable def oinfo (T : TypeId → TI) (ops : Array Oper) (o : Oper) : OI where
 d := dmask o.after.toList
 dst := o.dst
 r := match o.guard with
  | some (g, _) => (match dstOf ops g with | some d => Nat.lor (bt d) (smask o.op.operands.toList) | none => smask o.op.operands.toList)
  | none => smask o.op.operands.toList
 still := kpure T o.op
 al := kisAl o.op && o.guard.isNone
theorem oinfo_r {T : TypeId → TI} {ops : Array Oper} {j : Nat} {o : Oper} (ho : ops[j]? = some o) (t : Nat) : tb (oinfo T ops o).r t = true ↔ t ∈ readsOf ops j := by
 unfold oinfo readsOf slotsOf
 rw [ho]
 simp only
 cases hg : o.guard with
 | none => simp only [smask_tb, List.append_nil]; rfl
 | some g =>
  obtain ⟨g, want⟩ := g
  simp only
  cases hd : dstOf ops g with
  | none => simp only [smask_tb, List.append_nil]; rfl
  | some d =>
   simp only [tb_or, tb_bt, Bool.or_eq_true, decide_eq_true_eq, smask_tb, List.mem_append, List.mem_singleton]
   exact Or.comm
theorem oinfo_d {T : TypeId → TI} {ops : Array Oper} {j : Nat} {o : Oper} (ho : ops[j]? = some o) (k : Nat) : tb (oinfo T ops o).d k = true ↔ k ∈ dp ops j := by
 unfold oinfo dp
 rw [ho]
 exact dmask_tb _ _
def full : Nat := 18446744073709551615
def rowOf (M i : Nat) : Nat := Nat.land (Nat.shiftRight M (Nat.mul 64 i)) full
theorem full_tb (k : Nat) : tb full k = decide (k < 64) := by
 rw [tb_eq, show full = 2 ^ 64 - 1 by decide, Nat.testBit_two_pow_sub_one]
theorem shr_tb (M i k : Nat) : tb (Nat.shiftRight M i) k = tb M (i + k) := by
 rw [tb_eq, tb_eq]; exact Nat.testBit_shiftRight M
theorem shl_tb (M i k : Nat) : tb (Nat.shiftLeft M i) k = (decide (i ≤ k) && tb M (k - i)) := by
 rw [tb_eq, tb_eq]; exact Nat.testBit_shiftLeft M
theorem rowOf_tb (M i k : Nat) : tb (rowOf M i) k = (tb M (64 * i + k) && decide (k < 64)) := by
 unfold rowOf
 rw [tb_and, shr_tb, full_tb]; rfl
noncomputable def pack (l : List Nat) : Nat := List.rec (motive := fun _ => Nat) 0 (fun x _ ih => Nat.lor (Nat.land x full) (Nat.shiftLeft ih 64)) l
theorem pack_tb : ∀ (l : List Nat) (i k : Nat), k < 64 → tb (pack l) (64 * i + k) = tb (l.getD i 0) k
 | [], i, k, hk => by simp [pack, tb_zero]
 | x :: l, i, k, hk => by
  have e : pack (x :: l) = Nat.lor (Nat.land x full) (Nat.shiftLeft (pack l) 64) := rfl
  rw [e, tb_or, tb_and, full_tb, shl_tb]
  cases i with
  | zero => simp [hk, show ¬ 64 ≤ k by omega]
  | succ i =>
   have h1 : ¬ 64 * (i + 1) + k < 64 := by omega
   have h2 : 64 ≤ 64 * (i + 1) + k := by omega
   rw [show 64 * (i + 1) + k - 64 = 64 * i + k by omega, pack_tb l i k hk]
   simp [h1, h2]
section
variable (N DD : Nat)
noncomputable def ckOrder (l : List Nat) (m : Nat) : Bool := List.rec (motive := fun _ => Nat → Bool) (fun m => Nat.beq m (Nat.sub (bt N) 1)) (fun i _ ih m => bif' (Nat.blt i N) (bif' (tb m i) false (bif' (sub? (rowOf DD i) m) (ih (Nat.lor (bt i) m)) false)) false) l m
end
theorem ckOrder_ok {N DD : Nat} : ∀ {l : List Nat} {m : Nat}, ckOrder N DD l m = true → (∀ i ∈ l, i < N) ∧ l.Nodup ∧ (∀ i ∈ l, tb m i = false) ∧ (∀ i, i < N → tb m i = true ∨ i ∈ l) ∧ ∀ p (h : p < l.length), ∀ k, k < 64 → tb DD (64 * l[p] + k) = true → tb m k = true ∨ k ∈ l.take p
 | [], m, e => by
  refine ⟨by simp, .nil, by simp, fun i hi => .inl ?_, fun p h => by simp at h⟩
  have e := Nat.eq_of_beq_eq_true e
  rw [e, tb_eq]
  show Nat.testBit (1 <<< N - 1) i = true
  rw [Nat.one_shiftLeft, Nat.testBit_two_pow_sub_one]
  simp [hi]
 | x :: l, m, e => by
  have e : bif' (Nat.blt x N) (bif' (tb m x) false (bif' (sub? (rowOf DD x) m) (ckOrder N DD l (Nat.lor (bt x) m)) false)) false = true := e
  simp only [bif'_eq] at e
  split at e
  ·rename_i h1
   split at e
   ·cases e
   ·rename_i h2
    split at e
    ·rename_i h3
     obtain ⟨q1, q2, q3, q4, q5⟩ := ckOrder_ok e
     have h1 : x < N := by simpa [blt_dec] using h1
     have h2 : tb m x = false := by simpa using h2
     have hx : x ∉ l := fun hm => by
      have := q3 x hm
      rw [tb_or, tb_bt] at this; simp at this
     refine ⟨?_, List.nodup_cons.2 ⟨hx, q2⟩, ?_, ?_, ?_⟩
     ·intro i hi
      rcases List.mem_cons.1 hi with rfl | hi
      ·exact h1
      ·exact q1 i hi
     ·intro i hi
      rcases List.mem_cons.1 hi with rfl | hi
      ·exact h2
      ·have := q3 i hi
       rw [tb_or, Bool.or_eq_false_iff] at this; exact this.2
     ·intro i hi
      rcases q4 i hi with h | h
      ·rw [tb_or, tb_bt, Bool.or_eq_true, decide_eq_true_eq] at h
       rcases h with rfl | h
       ·exact .inr (by simp)
       ·exact .inl h
      ·exact .inr (List.mem_cons_of_mem _ h)
     ·intro p hp k hk hd
      cases p with
      | zero => exact .inl (sub_tb h3 (by rw [rowOf_tb]; simp only [List.getElem_cons_zero] at hd; simp [hd, hk]))
      | succ p =>
       simp only [List.getElem_cons_succ] at hd
       rcases q5 p (by simpa using hp) k hk hd with h | h
       ·rw [tb_or, tb_bt, Bool.or_eq_true, decide_eq_true_eq] at h
        rcases h with rfl | h
        ·exact .inr (by simp)
        ·exact .inl h
       ·exact .inr (by simp [h])
    ·cases e
  ·cases e
noncomputable def umask (BB : Nat) (l : List Edge) : Nat := List.rec (motive := fun _ => Nat) 0 (fun e _ ih => bif Region.binds .any e then Nat.lor (Nat.lor (bt e.on) (rowOf BB e.on)) ih else ih) l
theorem umask_tb (BB : Nat) (l : List Edge) (k : Nat) : tb (umask BB l) k = true → ∃ on ∈ (l.filter fun e => Region.binds .any e).map (·.on), k = on ∨ (k < 64 ∧ tb BB (64 * on + k) = true) := by
 induction l with
 | nil => intro h; simp [umask, tb_zero] at h
 | cons e l ih =>
  have e1 : umask BB (e :: l) = bif Region.binds .any e then Nat.lor (Nat.lor (bt e.on) (rowOf BB e.on)) (umask BB l) else umask BB l := rfl
  rw [e1]
  intro h
  cases hb : Region.binds .any e with
  | true =>
   rw [hb] at h
   simp only [cond_true, tb_or, tb_bt, rowOf_tb, Bool.or_eq_true, decide_eq_true_eq, Bool.and_eq_true] at h
   rcases h with (h | h) | h
   ·exact ⟨e.on, by simp [hb], .inl h⟩
   ·exact ⟨e.on, by simp [hb], .inr ⟨h.2, h.1⟩⟩
   ·obtain ⟨on, h1, h2⟩ := ih h
    exact ⟨on, by simp only [List.filter_cons, hb, if_true, List.map_cons, List.mem_cons]; exact .inr h1, h2⟩
  | false =>
   rw [hb] at h
   obtain ⟨on, h1, h2⟩ := ih h
   exact ⟨on, by simp only [List.filter_cons, hb, Bool.false_eq_true, if_false]; exact h1, h2⟩
noncomputable def ckClos (BB : Nat) (l : List Oper) (j : Nat) : Bool := List.rec (motive := fun _ => Nat → Bool) (fun _ => true) (fun o _ ih j => bif' (sub? (rowOf BB j) (umask BB o.after.toList)) (ih (Nat.succ j)) false) l j
theorem ckClos_ok {BB : Nat} : ∀ {l : List Oper} {j : Nat}, ckClos BB l j = true → ∀ (i : Nat) o, l[i]? = some o → ∀ k, k < 64 → tb BB (64 * (j + i) + k) = true → ∃ on ∈ (o.after.toList.filter fun e => Region.binds .any e).map (·.on), k = on ∨ (k < 64 ∧ tb BB (64 * on + k) = true)
 | [], j, e, i, o, ho, k, hk, h => by simp at ho
 | x :: l, j, e, i, o, ho, k, hk, h => by
  have e : bif' (sub? (rowOf BB j) (umask BB x.after.toList)) (ckClos BB l (Nat.succ j)) false = true := e
  rw [bif'_eq] at e
  split at e
  ·rename_i h1
   cases i with
   | zero =>
    simp only [List.getElem?_cons_zero, Option.some.injEq] at ho
    subst ho
    exact umask_tb BB _ k (sub_tb h1 (by rw [rowOf_tb]; simp only [Nat.add_zero] at h; simp [h, hk]))
   | succ i =>
    refine ckClos_ok e i o (by simpa using ho) k hk ?_
    rw [show Nat.succ j + i = j + (i + 1) by omega]; exact h
  ·cases e
noncomputable def ckDst (n : Nat) (l : List OI) (m : Nat) : Bool := List.rec (motive := fun _ => Nat → Bool) (fun _ => true) (fun x _ ih m => Option.rec (motive := fun _ => Bool) (ih m) (fun d => bif' (Nat.blt d n) (bif' (tb m d) false (ih (Nat.lor (bt d) m))) false) x.dst) l m
theorem ckDst_ok {n : Nat} : ∀ {l : List OI} {m : Nat}, ckDst n l m = true → (∀ (i : Nat) (x : OI) d, l[i]? = some x → x.dst = some d → d < n ∧ tb m d = false) ∧ ∀ (i j : Nat) (x y : OI) d, l[i]? = some x → l[j]? = some y → x.dst = some d → y.dst = some d → i = j
 | [], m, e => ⟨fun i x d h => by simp at h, fun i j x y d h => by simp at h⟩
 | z :: l, m, e => by
  have e : Option.rec (motive := fun _ => Bool) (ckDst n l m) (fun d => bif' (Nat.blt d n) (bif' (tb m d) false (ckDst n l (Nat.lor (bt d) m))) false) z.dst = true := e
  cases hz : z.dst with
  | none =>
   rw [hz] at e
   obtain ⟨q1, q2⟩ := ckDst_ok e
   refine ⟨fun i x d h hd => ?_, fun i j x y d h1 h2 d1 d2 => ?_⟩
   ·cases i with
    | zero => simp at h; subst h; rw [hz] at hd; cases hd
    | succ i => exact q1 i x d (by simpa using h) hd
   ·cases i with
    | zero => simp at h1; subst h1; rw [hz] at d1; cases d1
    | succ i => cases j with
     | zero => simp at h2; subst h2; rw [hz] at d2; cases d2
     | succ j => rw [q2 i j x y d (by simpa using h1) (by simpa using h2) d1 d2]
  | some dz =>
   rw [hz] at e
   simp only [bif'_eq] at e
   split at e
   ·rename_i hlt
    split at e
    ·cases e
    ·rename_i hm
     obtain ⟨q1, q2⟩ := ckDst_ok e
     have q1' : ∀ (i : Nat) (x : OI) d, l[i]? = some x → x.dst = some d → d < n ∧ tb m d = false ∧ d ≠ dz := fun i x d h hd => by
      obtain ⟨a, b⟩ := q1 i x d h hd
      rw [tb_or, tb_bt, Bool.or_eq_false_iff] at b
      exact ⟨a, b.2, by simpa using b.1⟩
     refine ⟨fun i x d h hd => ?_, fun i j x y d h1 h2 d1 d2 => ?_⟩
     ·cases i with
      | zero => simp at h; subst h; rw [hz] at hd; cases hd; exact ⟨by simpa [blt_dec] using hlt, by simpa using hm⟩
      | succ i => have := q1' i x d (by simpa using h) hd; exact ⟨this.1, this.2.1⟩
     ·cases i with
      | zero => cases j with
       | zero => rfl
       | succ j => simp at h1; subst h1; rw [hz] at d1; cases d1; exact absurd rfl (q1' j y _ (by simpa using h2) d2).2.2
      | succ i => cases j with
       | zero => simp at h2; subst h2; rw [hz] at d2; cases d2; exact absurd rfl (q1' i x _ (by simpa using h1) d1).2.2
       | succ j => rw [q2 i j x y d (by simpa using h1) (by simpa using h2) d1 d2]
   ·cases e
noncomputable def ckAll {α : Type} (f : Nat → α → Bool) (l : List α) (j : Nat) : Bool := List.rec (motive := fun _ => Nat → Bool) (fun _ => true) (fun x _ ih j => bif' (f j x) (ih (Nat.succ j)) false) l j
theorem ckAll_ok {α : Type} {f : Nat → α → Bool} : ∀ {l : List α} {j : Nat}, ckAll f l j = true → ∀ (i : Nat) x, l[i]? = some x → f (j + i) x = true
 | [], j, e, i, x, h => by simp at h
 | y :: l, j, e, i, x, h => by
  have e : bif' (f j y) (ckAll f l (Nat.succ j)) false = true := e
  rw [bif'_eq] at e
  split at e
  ·rename_i h1
   cases i with
   | zero => simp at h; subst h; exact h1
   | succ i =>
    have := ckAll_ok e i x (by simpa using h)
    rw [show Nat.succ j + i = j + (i + 1) by omega] at this; exact this
  ·cases e
noncomputable def ckRead (EM BB i r k : Nat) (d : Nat) : Bool := bif' (tb r d) (bif' (tb BB (Nat.add (Nat.mul 64 i) k)) true (bif' (tb EM k) (bif' (Nat.beq k i) true (tb BB (Nat.add (Nat.mul 64 k) i))) false)) true
noncomputable def ckReads (EM BB : Nat) (info : List OI) : Bool := ckAll (fun i x => ckAll (fun k y => Option.rec (motive := fun _ => Bool) true (fun d => ckRead EM BB i x.r k d) y.dst) info 0) info 0
theorem ckReads_ok {EM BB : Nat} {info : List OI} (e : ckReads EM BB info = true) {i k d : Nat} {x y : OI} (hx : info[i]? = some x) (hy : info[k]? = some y) (hd : y.dst = some d) (hr : tb x.r d = true) : tb BB (64 * i + k) = true ∨ (tb EM k = true ∧ (k = i ∨ tb BB (64 * k + i) = true)) := by
 have := ckAll_ok (ckAll_ok e i x hx) k y hy
 simp only [Nat.zero_add, hd, ckRead, bif'_eq, hr, if_true] at this
 split at this
 ·rename_i h; exact .inl h
 ·split at this
  ·rename_i h
   right
   refine ⟨h, ?_⟩
   split at this
   ·rename_i h2; exact .inl (Nat.eq_of_beq_eq_true h2)
   ·exact .inr this
  ·cases this
noncomputable def accA (LM BB : Nat) (l : List Nat) : Nat := List.rec (motive := fun _ => Nat) full (fun x _ ih => bif' (tb LM x) ih (Nat.land (rowOf BB x) ih)) l
theorem accA_tb {LM BB : Nat} : ∀ {l : List Nat} {y : Nat}, tb (accA LM BB l) y = true → y < 64 ∧ ∀ j ∈ l, tb LM j = false → tb BB (64 * j + y) = true
 | [], y, h => by
  have h : tb full y = true := h
  rw [full_tb] at h
  exact ⟨by simpa using h, by simp⟩
 | x :: l, y, h => by
  have h : tb (bif' (tb LM x) (accA LM BB l) (Nat.land (rowOf BB x) (accA LM BB l))) y = true := h
  rw [bif'_eq] at h
  split at h
  ·rename_i hx
   obtain ⟨q1, q2⟩ := accA_tb h
   refine ⟨q1, fun j hj hL => ?_⟩
   rcases List.mem_cons.1 hj with rfl | hj
   ·rw [hx] at hL; cases hL
   ·exact q2 j hj hL
  ·rw [tb_and, Bool.and_eq_true, rowOf_tb, Bool.and_eq_true] at h
   obtain ⟨q1, q2⟩ := accA_tb h.2
   refine ⟨q1, fun j hj hL => ?_⟩
   rcases List.mem_cons.1 hj with rfl | hj
   ·exact h.1.1
   ·exact q2 j hj hL
noncomputable def ckWaits (EM LM BB : Nat) (l : List Nat) : Bool := List.rec (motive := fun _ => Bool) true (fun x r ih => bif' (bif' (tb EM x) true (tb LM x)) (bif' (tb (accA LM BB r) x) ih false) ih) l
theorem ckWaits_ok {EM LM BB : Nat} : ∀ {l : List Nat}, ckWaits EM LM BB l = true → ∀ p (h : p < l.length), (tb EM l[p] = true ∨ tb LM l[p] = true) → ∀ j ∈ l.drop (p + 1), tb LM j = false → l[p] < 64 ∧ tb BB (64 * j + l[p]) = true
 | [], e, p, h => by simp at h
 | x :: l, e, p, h => by
  have e : bif' (bif' (tb EM x) true (tb LM x)) (bif' (tb (accA LM BB l) x) (ckWaits EM LM BB l) false) (ckWaits EM LM BB l) = true := e
  intro hE j hj hL
  cases p with
  | zero =>
   simp only [List.getElem_cons_zero] at hE ⊢
   simp only [Nat.zero_add, List.drop_succ_cons, List.drop_zero] at hj
   simp only [bif'_eq] at e
   rw [if_pos (by
    split
    ·rfl
    ·rename_i hn; exact hE.resolve_left hn)] at e
   split at e
   ·rename_i ha
    obtain ⟨q1, q2⟩ := accA_tb ha
    exact ⟨q1, q2 j hj hL⟩
   ·cases e
  | succ p =>
   have e2 : ckWaits EM LM BB l = true := by
    revert e
    simp only [bif'_eq]
    repeat' split
    all_goals (intro e; first | exact e | (exact absurd e (by simp)))
   simp only [List.getElem_cons_succ] at hE ⊢
   exact ckWaits_ok e2 p (by simpa using h) hE j (by simpa using hj) hL
noncomputable def lslots (LM : Nat) (l : List OI) (j : Nat) : Nat := List.rec (motive := fun _ => Nat → Nat) (fun _ => 0) (fun x _ ih j => Option.rec (motive := fun _ => Nat) (ih (Nat.succ j)) (fun d => bif' (tb LM j) (Nat.lor (bt d) (ih (Nat.succ j))) (ih (Nat.succ j))) x.dst) l j
theorem lslots_tb {LM : Nat} : ∀ {l : List OI} {j i d : Nat} {x : OI}, l[i]? = some x → x.dst = some d → tb LM (j + i) = true → tb (lslots LM l j) d = true
 | [], j, i, d, x, h, _, _ => by simp at h
 | y :: l, j, i, d, x, h, hd, hL => by
  have e : lslots LM (y :: l) j = Option.rec (motive := fun _ => Nat) (lslots LM l (Nat.succ j)) (fun d => bif' (tb LM j) (Nat.lor (bt d) (lslots LM l (Nat.succ j))) (lslots LM l (Nat.succ j))) y.dst := rfl
  rw [e]
  cases i with
  | zero =>
   simp at h; subst h
   rw [hd]
   simp only [Nat.add_zero] at hL
   simp only [bif'_eq, hL, if_true, tb_or, tb_bt, decide_true, Bool.true_or]
  | succ i =>
   have ih := lslots_tb (LM := LM) (l := l) (j := Nat.succ j) (i := i) (by simpa using h) hd (by rw [show Nat.succ j + i = j + (i + 1) by omega]; exact hL)
   cases y.dst with
   | none => exact ih
   | some d' =>
    simp only [bif'_eq]
    split
    ·rw [tb_or, ih, Bool.or_true]
    ·exact ih
noncomputable def ckLate (EM LM : Nat) (info : List OI) : Bool := ckAll (fun i x => bif' (tb LM i) (bif' (tb EM i) false (bif' x.al (Nat.beq (Nat.land x.r (lslots LM info 0)) 0) false)) true) info 0
noncomputable def ldm (l : List OI) : List Nat := List.rec (motive := fun _ => List Nat) [] (fun x _ ih => x.d :: ih) l
theorem ldm_eq : ∀ l : List OI, ldm l = l.map (·.d)
 | [] => rfl
 | x :: l => by
  have : ldm (x :: l) = x.d :: ldm l := rfl
  rw [this, ldm_eq l]; rfl
noncomputable def ckPlan (ops : Array Oper) (n : Nat) (info : List OI) (order : List Nat) (EM LM BB : Nat) : Bool :=
 bif' (Nat.ble ops.size 64) (bif' (ckAll (fun _ x => sub? x.d full) info 0) (bif' (ckOrder ops.size (pack (ldm info)) order 0) (bif' (ckClos BB ops.toList 0) (bif' (ckDst n info 0) (bif' (ckReads EM BB info) (bif' (ckWaits EM LM BB order) (ckLate EM LM info) false) false) false) false) false) false) false
def bmem (M N : Nat) : List Nat := (List.range N).filter fun k => tb M k
theorem bmem_iff {M N k : Nat} : k ∈ bmem M N ↔ k < N ∧ tb M k = true := by simp [bmem]
def brow (BB N : Nat) : List (List Nat) := (List.range N).map fun j => (List.range N).filter fun k => tb BB (64 * j + k)
theorem brow_iff {BB N j k : Nat} : k ∈ (brow BB N).getD j [] ↔ j < N ∧ k < N ∧ tb BB (64 * j + k) = true := by
 unfold brow
 by_cases hj : j < N
 ·simp [hj]
 ·simp [hj, Nat.le_of_not_lt hj]
theorem bif_and {a b : Bool} (h : bif' a b false = true) : a = true ∧ b = true := by cases a <;> cases b <;> simp_all [bif']
theorem ckPlan_ok {T : TypeId → TI} {ops : Array Oper} {n : Nat} {order : List Nat} {EM LM BB : Nat} (e : ckPlan ops n (ops.toList.map (oinfo T ops)) order EM LM BB = true) :
  Chk2 ops n order (bmem EM ops.size) (bmem LM ops.size) (brow BB ops.size) ∧ ops.size ≤ 64 := by
 unfold ckPlan at e
 obtain ⟨hN, e⟩ := bif_and e
 obtain ⟨h0, e⟩ := bif_and e
 obtain ⟨h1, e⟩ := bif_and e
 obtain ⟨h2, e⟩ := bif_and e
 obtain ⟨h3, e⟩ := bif_and e
 obtain ⟨h4, e⟩ := bif_and e
 obtain ⟨h5, h6⟩ := bif_and e
 have hN : ops.size ≤ 64 := Nat.le_of_ble_eq_true hN
 have get : ∀ {i : Nat} {o : Oper}, ops[i]? = some o → (ops.toList.map (oinfo T ops))[i]? = some (oinfo T ops o) := fun {i o} h => by rw [List.getElem?_map, Array.getElem?_toList, h]; rfl
 have getl : ∀ {i : Nat}, i < ops.size → ops[i]? = some ops[i]! := fun {i} h => by simp [h]
 rw [ldm_eq] at h1
 obtain ⟨a1, a2, _, a4, a5⟩ := ckOrder_ok h1
 obtain ⟨b1, b2⟩ := ckDst_ok h3
 have dsto : ∀ {i d : Nat}, dstOf ops i = some d → ∃ o, ops[i]? = some o ∧ o.dst = some d := fun {i d} h => by
  unfold dstOf at h
  exact Option.bind_eq_some_iff.1 h
 have dpd : ∀ {i k : Nat}, i < ops.size → k < 64 → (tb (pack ((ops.toList.map (oinfo T ops)).map (·.d))) (64 * i + k) = true ↔ k ∈ dp ops i) := fun {i k} hi hk => by
  rw [pack_tb _ _ _ hk, ← oinfo_d (T := T) (getl hi)]
  have : ((ops.toList.map (oinfo T ops)).map (·.d)).getD i 0 = (oinfo T ops ops[i]!).d := by
   rw [List.getD_eq_getElem?_getD, List.getElem?_map, get (getl hi)]; rfl
  rw [this]
 have hall : ∀ i, i < ops.size → i ∈ order := fun i hi => (a4 i hi).resolve_left (by rw [tb_zero]; simp)
 have d64 : ∀ {i k : Nat}, i < ops.size → k ∈ dp ops i → k < 64 := fun {i k} hi hk => by
  have h := (oinfo_d (T := T) (getl hi) k).2 hk
  have := sub_tb (ckAll_ok h0 i _ (get (getl hi))) h
  rw [full_tb] at this; simpa using this
 have topo : ∀ p (h : p < order.length), ∀ k ∈ dp ops order[p], k ∈ order.take p := fun p h k hk => by
  have hi := a1 _ (List.getElem_mem h)
  have h64 := d64 hi hk
  exact (a5 p h k h64 ((dpd hi h64).2 hk)).resolve_left (by rw [tb_zero]; simp)
 have dplt : ∀ {i k : Nat}, i < ops.size → k ∈ dp ops i → k < ops.size := fun {i k} hi hk => by
  obtain ⟨p, hp, he⟩ := List.getElem_of_mem (hall i hi)
  exact a1 k (List.mem_of_mem_take (topo p hp k (by rw [he]; exact hk)))
 have len : order.length = ops.size := by
  have p1 : order.Perm (List.range ops.size) := (List.perm_ext_iff_of_nodup a2 List.nodup_range).2 fun x => ⟨fun h => List.mem_range.2 (a1 x h), fun h => hall x (List.mem_range.1 h)⟩
  rw [p1.length_eq, List.length_range]
 refine ⟨{ nodup := a2, len := len, all := hall, lt := a1, topo := topo, clos := ?_, dlt := ?_, uniq := ?_, reads := ?_, waits := ?_, late := ?_ }, hN⟩
 ·intro j hj i hi
  obtain ⟨_, hi1, hi2⟩ := brow_iff.1 hi
  have hl : ops.toList[j]? = some ops[j]! := by rw [Array.getElem?_toList]; exact getl hj
  obtain ⟨on, ho, h⟩ := ckClos_ok h2 j _ hl i (by omega) (by rw [Nat.zero_add]; exact hi2)
  have ho' : on ∈ dp ops j := by unfold dp; rw [getl hj]; exact ho
  rcases h with rfl | h
  ·exact .inl ho'
  ·exact .inr ⟨on, ho', brow_iff.2 ⟨dplt hj ho', hi1, h.2⟩⟩
 ·intro i hi d hd
  obtain ⟨o, ho, hod⟩ := dsto hd
  exact (b1 i _ d (get ho) hod).1
 ·intro i j hi hj hne d hd hd'
  obtain ⟨o, ho, hod⟩ := dsto hd
  obtain ⟨o', ho', hod'⟩ := dsto hd'
  exact hne (b2 i j _ _ d (get ho) (get ho') hod hod')
 ·intro i hi t ht k hk hd
  obtain ⟨o, ho, hod⟩ := dsto hd
  rcases ckReads_ok h4 (get (getl hi)) (get ho) hod ((oinfo_r (T := T) (getl hi) t).2 ht) with h | ⟨h, h'⟩
  ·exact .inl (brow_iff.2 ⟨hi, hk, h⟩)
  ·refine .inr ⟨bmem_iff.2 ⟨hk, h⟩, h'.imp id fun h' => brow_iff.2 ⟨hk, hi, h'⟩⟩
 ·intro p h hE j hj hjL
  have hjm : j < ops.size := a1 j (List.mem_of_mem_drop hj)
  have hp := a1 _ (List.getElem_mem h)
  have hw := ckWaits_ok h5 p h (hE.imp (fun x => (bmem_iff.1 x).2) fun x => (bmem_iff.1 x).2) j hj (by
   cases hL : tb LM j with
   | false => rfl
   | true => exact absurd (bmem_iff.2 ⟨hjm, hL⟩) hjL)
  exact brow_iff.2 ⟨hjm, hp, hw.2⟩
 ·intro i hiL hi
  have hL := (bmem_iff.1 hiL).2
  have := ckAll_ok h6 i _ (get (getl hi))
  simp only [Nat.zero_add, bif'_eq, hL, if_true] at this
  split at this
  ·cases this
  ·rename_i hE
   split at this
   ·rename_i hal
    have hz := Nat.eq_of_beq_eq_true this
    refine ⟨fun h => hE (bmem_iff.1 h).2, fun o ho => ?_, fun t ht k hk hd => ?_⟩
    ·have : o = ops[i]! := by rw [getl hi] at ho; exact (Option.some.inj ho).symm
     subst this
     have hal : (kisAl ops[i]!.op && ops[i]!.guard.isNone) = true := hal
     rw [Bool.and_eq_true, Option.isNone_iff_eq_none] at hal
     exact hal.2
    ·obtain ⟨o, ho, hod⟩ := dsto hd
     have h1 := lslots_tb (LM := LM) (j := 0) (get ho) hod (by rw [Nat.zero_add]; exact (bmem_iff.1 hk).2)
     have h2 := (oinfo_r (T := T) (getl hi) t).2 ht
     have : tb (Nat.land (oinfo T ops ops[i]!).r (lslots LM (ops.toList.map (oinfo T ops)) 0)) t = true := by rw [tb_and, h1, h2]; rfl
     rw [hz, tb_zero] at this; cases this
   ·cases this
theorem bmem_both {EM LM N j : Nat} (hj : j < N) : (bmem EM N ++ bmem LM N).contains j = tb (Nat.lor EM LM) j := by
 rw [tb_or, Bool.eq_iff_iff]
 simp only [List.contains_iff_mem, List.mem_append, bmem_iff, Bool.or_eq_true, hj, true_and]
theorem bmem_one {M N j : Nat} (hj : j < N) : (bmem M N).contains j = tb M j := by
 rw [Bool.eq_iff_iff]
 simp only [List.contains_iff_mem, bmem_iff, hj, true_and]
theorem brow_one {BB N i j : Nat} (hi : i < N) (hj : j < N) : ((brow BB N).getD i []).contains j = tb BB (64 * i + j) := by
 rw [Bool.eq_iff_iff]
 simp only [List.contains_iff_mem, brow_iff, hi, hj, true_and]
noncomputable def linfo (T : TypeId → TI) (ops : Array Oper) (l : List Oper) : List OI := List.rec (motive := fun _ => List OI) [] (fun o _ ih => oinfo T ops o :: ih) l
theorem linfo_eq (T : TypeId → TI) (ops : Array Oper) : ∀ l, linfo T ops l = l.map (oinfo T ops)
 | [] => rfl
 | o :: l => by
  have : linfo T ops (o :: l) = oinfo T ops o :: linfo T ops l := rfl
  rw [this, linfo_eq T ops l]; rfl
noncomputable def pBB (l : List Oper) (j BB : Nat) : Nat := List.rec (motive := fun _ => Nat → Nat → Nat) (fun _ BB => BB) (fun o _ ih j BB => nfc (Nat.lor BB (Nat.shiftLeft (umask BB o.after.toList) (Nat.mul 64 j))) fun BB => ih (Nat.succ j) BB) l j BB
noncomputable def pEarlyK (l : List OI) (k i r row acc : Nat) : Nat := List.rec (motive := fun _ => Nat → Nat → Nat → Nat → Nat → Nat) (fun _ _ _ _ acc => acc) (fun y _ ih k i r row acc => Option.rec (motive := fun _ => Nat) (ih (Nat.succ k) i r row acc) (fun d => bif' (tb r d) (bif' (Nat.beq k i) (ih (Nat.succ k) i r row (Nat.lor (bt k) acc)) (bif' (tb row k) (ih (Nat.succ k) i r row acc) (ih (Nat.succ k) i r row (Nat.lor (bt k) acc)))) (ih (Nat.succ k) i r row acc)) y.dst) l k i r row acc
noncomputable def pEarly (info : List OI) (l : List OI) (i BB acc : Nat) : Nat := List.rec (motive := fun _ => Nat → Nat → Nat → Nat) (fun _ _ acc => acc) (fun x _ ih i BB acc => bif' (Nat.beq x.r 0) (ih (Nat.succ i) BB acc) (nfc (pEarlyK info 0 i x.r (rowOf BB i) acc) fun acc => ih (Nat.succ i) BB acc)) l i BB acc
noncomputable def pTurn (l : List OI) (i acc : Nat) : Nat := List.rec (motive := fun _ => Nat → Nat → Nat) (fun _ acc => acc) (fun x _ ih i acc => bif' x.still (ih (Nat.succ i) acc) (ih (Nat.succ i) (Nat.lor (bt i) acc))) l i acc
noncomputable def pCol (l : List OI) (j BB i acc : Nat) : Nat := List.rec (motive := fun _ => Nat → Nat → Nat → Nat → Nat) (fun _ _ _ acc => acc) (fun _ _ ih j BB i acc => bif' (tb BB (Nat.add (Nat.mul 64 j) i)) (ih (Nat.succ j) BB i (Nat.lor (bt j) acc)) (ih (Nat.succ j) BB i acc)) l j BB i acc
noncomputable def pLate (info : List OI) (l : List OI) (i BB TM acc : Nat) : Nat := List.rec (motive := fun _ => Nat → Nat → Nat → Nat → Nat) (fun _ _ _ acc => acc) (fun x _ ih i BB TM acc => bif' (bif' x.al (tb TM i) false) (bif' (sub? TM (Nat.lor (bt i) (Nat.lor (rowOf BB i) (pCol info 0 BB i 0)))) (ih (Nat.succ i) BB TM acc) (ih (Nat.succ i) BB TM (Nat.lor (bt i) acc))) (ih (Nat.succ i) BB TM acc)) l i BB TM acc
noncomputable def pPick (l : List OI) (i C m : Nat) (K : Nat → Nat → List Nat) (F : List Nat) : List Nat := List.rec (motive := fun _ => Nat → Nat → Nat → (Nat → Nat → List Nat) → List Nat → List Nat) (fun _ _ _ _ F => F) (fun x _ ih i C m K F => bif' (bif' (tb C i) (bif' (tb m i) false (sub? x.d m)) false) (K i (Nat.lor (bt i) m)) (ih (Nat.succ i) C m K F)) l i C m K F
noncomputable def pFirst (l : List OI) (j EM BB i : Nat) : Nat := List.rec (motive := fun _ => Nat → Nat → Nat → Nat → Nat) (fun _ _ _ _ => 1000) (fun _ _ ih j EM BB i => bif' (bif' (tb EM j) (tb BB (Nat.add (Nat.mul 64 j) i)) false) j (ih (Nat.succ j) EM BB i)) l j EM BB i
noncomputable def pPickL (info : List OI) (l : List OI) (i EM LM BB m best bf : Nat) (K : Nat → Nat → List Nat) : List Nat := List.rec (motive := fun _ => Nat → Nat → Nat → Nat → Nat → Nat → Nat → (Nat → Nat → List Nat) → List Nat) (fun _ _ _ _ m best _ K => bif' (Nat.beq best 1000) [] (K best (Nat.lor (bt best) m)))
 (fun x _ ih i EM LM BB m best bf K => bif' (bif' (tb LM i) (bif' (tb m i) false (sub? x.d m)) false) (nfc (pFirst info 0 EM BB i) fun f => bif' (bif' (Nat.beq best 1000) true (Nat.blt f bf)) (ih (Nat.succ i) EM LM BB m i f K) (ih (Nat.succ i) EM LM BB m best bf K)) (ih (Nat.succ i) EM LM BB m best bf K)) l i EM LM BB m best bf K
noncomputable def pOrder (info : List OI) (n SM EM LM BB m : Nat) : List Nat := Nat.rec (motive := fun _ => Nat → Nat → Nat → Nat → Nat → List Nat) (fun _ _ _ _ _ => []) (fun _ ih SM EM LM BB m => pPick info 0 SM m (fun i m => nfc i fun i => nfc m fun m => i :: ih SM EM LM BB m) (pPick info 0 EM m (fun i m => nfc i fun i => nfc m fun m => i :: ih SM EM LM BB m) (pPickL info info 0 EM LM BB m 1000 1000 fun i m => nfc i fun i => nfc m fun m => i :: ih SM EM LM BB m))) n SM EM LM BB m
noncomputable def lfc {R : Type} (l : List Nat) (K : List Nat → R) : R := List.rec (motive := fun _ => (List Nat → R) → R) (fun K => K []) (fun x _ ih K => nfc x fun x => ih fun l => K (x :: l)) l K
theorem lfc_eq {R : Type} : ∀ (l : List Nat) (K : List Nat → R), lfc l K = K l
 | [], K => rfl
 | x :: l, K => by
  have : lfc (x :: l) K = nfc x fun x => lfc l fun l => K (x :: l) := rfl
  rw [this, nfc_eq, lfc_eq l]
section
variable {R : Type}
noncomputable def qplan (T : TypeId → TI) (ops : Array Oper) (n : Nat) (K : List Nat → Nat → Nat → Nat → R) (F : R) : R :=
 nfc (pBB ops.toList 0 0) fun BB =>
 nfc (pEarly (linfo T ops ops.toList) (linfo T ops ops.toList) 0 BB (pTurn (linfo T ops ops.toList) 0 0)) fun TM =>
 nfc (pLate (linfo T ops ops.toList) (linfo T ops ops.toList) 0 BB TM 0) fun LM =>
 nfc (Nat.sub TM LM) fun EM =>
 lfc (pOrder (linfo T ops ops.toList) ops.size (Nat.sub full (Nat.land TM full)) EM LM BB 0) fun order =>
 bif' (ckPlan ops n (linfo T ops ops.toList) order EM LM BB) (K order EM LM BB) F
theorem qplan_ok (T : TypeId → TI) (ops : Array Oper) (n : Nat) (K : List Nat → Nat → Nat → Nat → R) (F : R) : qplan T ops n K F = F ∨ ∃ order EM LM BB, (Chk2 ops n order (bmem EM ops.size) (bmem LM ops.size) (brow BB ops.size) ∧ ops.size ≤ 64) ∧ qplan T ops n K F = K order EM LM BB := by
 unfold qplan
 simp only [nfc_eq, lfc_eq, bif'_eq, linfo_eq]
 split
 ·rename_i h
  exact .inr ⟨_, _, _, _, ckPlan_ok h, rfl⟩
 ·exact .inl rfl
end
end Go.K
end
