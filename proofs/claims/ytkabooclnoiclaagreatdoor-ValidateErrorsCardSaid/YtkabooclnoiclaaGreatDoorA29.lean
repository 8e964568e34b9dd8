/- The layer of abstract values: a part. No condition beyond each statement's own. -/
import Derived.Test.YtkabooclnoiclaaGreatDoorA28
set_option linter.unusedVariables false
set_option linter.unusedSimpArgs false
set_option linter.unnecessarySimpa false
section
namespace Go.Abs
open Go.RowKit (Below)
abbrev qi (n : Int) : V := .int .i64 n
abbrev qb (b : Bool) : V := .bool b
abbrev qs (s : List UInt8) : V := .str s
abbrev qn : V := .nilsl
abbrev qp (k : Nat) : V := .ptr k 0
abbrev ql {α : Type} (sz : Nat) (c : α → List V) (l : List α) : V := .sl sz (l.map c) .none
def carL (l : List (Nat × V)) : List Nat → List (Nat × V) → List (Nat × V)
 | [], new => new
 | k :: ks, new => (k, lget l k) :: carL l ks new
def carF (fr : AFr) (ks : List Nat) (new : List (Nat × V)) : AFr := ⟨fr.n, carL fr.l ks new⟩
theorem bE {α β : Type} {x : Option α} {f : α → Option β} {y : β} {Q : Prop} (h : x.bind f = some y) (k : ∀ a, x = some a → f a = some y → Q) : Q := by
 obtain ⟨a, h1, h2⟩ := bindE h; exact k a h1 h2
theorem sI {α : Type} {a b : α} (h : some a = some b) : b = a := (Option.some.inj h).symm
section
variable {P : Program} {gl : Nat → List V} {s0 : St} {c : Code} {cs : List Code} {AQ : Exit → AFr → St → Prop} {fr : AFr} {st : St}
theorem cuEN0 {Y Z : Type} {o : Option Y} {f : Y → Option Z} {r : Z} (h : o.bind f = some r) (hcl : Cl s0 (BCodes P gl s0 cs AQ)) (F : Y → AFr) (S : Y → St)
  (h1 : ∀ y, o = some y → BCodes P gl s0 [c] (thenK (loopW s0 F S (fun z => y = z)) AQ) fr st) (h2 : ∀ y, f y = some r → BCodes P gl s0 cs AQ (F y) (S y)) : BCodes P gl s0 (c :: cs) AQ fr st := by
 obtain ⟨y, hy, h⟩ := bindE h
 refine b_cutE F S (fun z => y = z) (h1 y hy) hcl (fun z hz => ?_)
 subst hz; exact h2 _ h
theorem blEN0 {Y Z : Type} {id : Nat} {o : Option Y} {f : Y → Option Z} {r : Z} (h : o.bind f = some r) (hcl : Cl s0 (BCodes P gl s0 cs AQ)) (F : Y → AFr) (S : Y → St)
  (h1 : ∀ y, o = some y → BCodes P gl s0 [c] (blockL s0 id F S (fun z => y = z) AQ) fr st) (h2 : ∀ y, f y = some r → BCodes P gl s0 cs AQ (F y) (S y)) : BCodes P gl s0 (.block id c :: cs) AQ fr st := by
 obtain ⟨y, hy, h⟩ := bindE h
 refine b_blockE F S (fun z => y = z) (h1 y hy) hcl (fun z hz => ?_)
 subst hz; exact h2 _ h
variable {d : Code}
theorem cuE {Y Z : Type} {o : Option Y} {f : Y → Option Z} {r : Z} (h : o.bind f = some r) (F : Y → AFr) (S : Y → St)
  (h1 : ∀ y, o = some y → BCodes P gl s0 [c] (thenK (loopW s0 F S (fun z => y = z)) AQ) fr st) (h2 : ∀ y, f y = some r → BCodes P gl s0 (d :: cs) AQ (F y) (S y)) : BCodes P gl s0 (c :: d :: cs) AQ fr st := cuEN0 h cl_cons F S h1 h2
theorem blE {Y Z : Type} {id : Nat} {o : Option Y} {f : Y → Option Z} {r : Z} (h : o.bind f = some r) (F : Y → AFr) (S : Y → St)
  (h1 : ∀ y, o = some y → BCodes P gl s0 [c] (blockL s0 id F S (fun z => y = z) AQ) fr st) (h2 : ∀ y, f y = some r → BCodes P gl s0 (d :: cs) AQ (F y) (S y)) : BCodes P gl s0 (.block id c :: d :: cs) AQ fr st := blEN0 h cl_cons F S h1 h2
end
end Go.Abs
namespace Go.Abs
section
variable {P : Program} {T : TypeId → TI} {gl : Nat → List V} {ops : Array Oper} {K : AFr → St → Prop}
end
section
variable {P : Program} {gl : Nat → List V} {s0 : St} {c : Code} {cs : List Code} {AQ : Exit → AFr → St → Prop} {fr : AFr} {st : St}
end
end Go.Abs
end
section
namespace Go.Abs
def endC (T : TypeId → TI) (gl : Nat → List V) (ops : Array Oper) (i : Nat) (x : Cfg) : Cfg := endK T gl ops i x (⟨0, []⟩, ⟨[], []⟩) fun fr st => (fr, st)
def endOk (T : TypeId → TI) (gl : Nat → List V) (ops : Array Oper) (i : Nat) (x : Cfg) : Bool := endK T gl ops i x false fun _ _ => true
section
variable {P : Program} {T : TypeId → TI} {gl : Nat → List V} {ops : Array Oper} {s0 : St} {cs : List Code} {AQ : Exit → AFr → St → Prop} {id : Nat}
theorem c_stop (hT : T = ti P) {i : Nat} {x : Cfg} (hb : endOk T gl ops i x = true) : aOpsC P gl ops i x (toW s0 (endC T gl ops i x).1 (endC T gl ops i x).2) := by
 rw [endOk, endK_eq] at hb
 cases hr : aRun T gl ops (ops.toList.drop i) x.1 x.2 with
 | none => rw [hr] at hb; cases hb
 | some z =>
  obtain ⟨fr1, st1⟩ := z
  have he : endC T gl ops i x = (fr1, st1) := by rw [endC, endK_eq, hr]
  have := aRun_sound (K := toW s0 fr1 st1) hT (ops.toList.drop i) [] x.1 x.2 fr1 st1 hr (Wk.refl _ _ _)
  rw [List.append_nil] at this
  rw [he]
  unfold aOpsC
  exact this
theorem c_regY {c : Code} {y y' : Cfg} (h : aOpsC P gl ops 0 y (toW s0 y'.1 y'.2)) (h2 : BCodes P gl s0 (c :: cs) AQ y'.1 y'.2) : BCodes P gl s0 (.region id ops false :: c :: cs) AQ y.1 y.2 := c_reg y'.1 y'.2 cl_cons h h2
theorem c_regYN {y y' : Cfg} (hcl : Cl s0 (AQ .normal)) (h : aOpsC P gl ops 0 y (toW s0 y'.1 y'.2)) (h2 : AQ .normal y'.1 y'.2) : BCodes P gl s0 [.region id ops false] AQ y.1 y.2 := c_reg y'.1 y'.2 (cl_nil hcl) h h2
end
attribute [irreducible] endC
def flat : Code → List Code → List Code
 | .seq a b, cs => flat a (flat b cs)
 | .skip, cs => cs
 | c, cs => c :: cs
section
variable {P : Program} {gl : Nat → List V} {s0 : St} {c : Code} {cs : List Code} {AQ : Exit → AFr → St → Prop} {fr : AFr} {st : St}
theorem b_cong {X Y : List Code} (k : ∀ fr st, BCodes P gl s0 X AQ fr st → BCodes P gl s0 Y AQ fr st) (h : BCodes P gl s0 (c :: X) AQ fr st) : BCodes P gl s0 (c :: Y) AQ fr st :=
 BCode.mono h fun e fr st h' => by
  cases e <;> first | exact k _ _ h' | exact h'
theorem b_flat : ∀ (c : Code) {cs : List Code} {fr : AFr} {st : St}, BCodes P gl s0 (flat c cs) AQ fr st → BCodes P gl s0 (c :: cs) AQ fr st
 | .seq a b, cs, fr, st, h => b_seq (b_cong (fun _ _ => b_flat b) (b_flat a (show BCodes P gl s0 (flat a (flat b cs)) AQ fr st from h)))
 | .skip, cs, fr, st, h => b_skip h
 | .region _ _ _, _, _, _, h | .ret, _, _, _, h | .exit _, _, _, _, h | .cond _ _ _, _, _, _, h | .loop _, _, _, _, h | .block _ _, _, _, _, h | .label _, _, _, _, h | .scope _, _, _, _, h | .goto _, _, _, _, h | .rangeFunc _ _ _ _, _, _, _, h | .refuse _, _, _, _, h => h
end
end Go.Abs
end
