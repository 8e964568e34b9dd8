/- The layer of abstract values: a part. No condition beyond each statement's own. -/
import Derived.Test.YtkabooclnoiclaaGreatDoorA11
set_option linter.unusedVariables false
set_option linter.unusedSimpArgs false
set_option linter.unnecessarySimpa false
section
namespace Go.Abs
open Go.RowKit (Below)
def callOk (P : Program) (f : FuncId) : Bool :=
 match P.funcs[f]? with
 | some fn => fn.body.isSome && !(fn.name == "runtime.NumGoroutine")
 | none => false
def ACalls (P : Program) (gl : Nat → List V) (f : FuncId) (args : List V) (st : St) (Q : V → St → Prop) : Prop :=
 callOk P f = true ∧ ∀ (w0 : Base) (G : Gh) (w : World) (cargs : Array Value), Rel gl w0 G st w → VRs G args cargs → V.scs st args →
  Calls P f cargs w fun e w' => ∃ r c st' G', e = .returned c ∧ Q r st' ∧ VR G' r c ∧ V.sc st' r ∧ Rel gl w0 G' st' w' ∧ Ext st G G' ∧ st.le st'
theorem ACalls.mono {P : Program} {gl : Nat → List V} {f : FuncId} {args : List V} {st : St} {Q Q' : V → St → Prop} (h : ACalls P gl f args st Q) (hq : ∀ r st', Q r st' → Q' r st') : ACalls P gl f args st Q' :=
 ⟨h.1, fun w0 G w cargs h1 h2 h3 => (h.2 w0 G w cargs h1 h2 h3).mono fun e w' ⟨r, c, st', G', g1, g2, g3⟩ => ⟨r, c, st', G', g1, hq _ _ g2, g3⟩⟩
def LQ (gl : Nat → List V) (w0 : Base) (st0 : St) (G0 : Gh) (AQ : Exit → AFr → St → Prop) : Exit → Act → World → Prop :=
 fun e a w => ∃ fr st G, AQ e fr st ∧ Rel gl w0 G st w ∧ FrRel G st fr a ∧ Ext st0 G0 G ∧ st0.le st
def ACode (P : Program) (gl : Nat → List V) (c : Code) (AQ : Exit → AFr → St → Prop) (fr : AFr) (st : St) : Prop :=
 ∀ (w0 : Base) (G : Gh) (w : World) (a : Act), Rel gl w0 G st w → FrRel G st fr a → c.wp P (LQ gl w0 st G AQ) a w
section
variable {P : Program} {gl : Nat → List V} {st : St} {fr : AFr} {AQ : Exit → AFr → St → Prop}
def thenK (K : AFr → St → Prop) (AQ : Exit → AFr → St → Prop) : Exit → AFr → St → Prop
 | .normal, fr, st => K fr st
 | e, fr, st => AQ e fr st
def blockK (id : Nat) (AQ : Exit → AFr → St → Prop) : Exit → AFr → St → Prop
 | .exit id', fr, st => if id' = id then AQ .normal fr st else AQ (.exit id') fr st
 | e, fr, st => AQ e fr st
theorem exists_least {p : Nat → Prop} (h : ∃ n, p n) : ∃ n, p n ∧ ∀ m, p m → n ≤ m := by
 obtain ⟨n, hn⟩ := h
 induction n using Nat.strongRecOn with
 | _ n ih =>
  by_cases hm : ∃ m, m < n ∧ p m
  ·obtain ⟨m, h1, h2⟩ := hm; exact ih m h1 h2
  ·refine ⟨n, hn, fun m hm' => ?_⟩
   rcases Nat.lt_or_ge m n with h1 | h1
   ·exact absurd ⟨m, h1, hm'⟩ hm
   ·exact h1
open Classical in
noncomputable def leastOf (p : Nat → Prop) : Nat := if h : ∃ n, p n then Classical.choose (exists_least h) else 0
theorem leastOf_spec {p : Nat → Prop} (h : ∃ n, p n) : p (leastOf p) := by
 unfold leastOf; rw [dif_pos h]; exact (Classical.choose_spec (exists_least h)).1
theorem leastOf_le {p : Nat → Prop} {m : Nat} (h : p m) : leastOf p ≤ m := by
 have hx : ∃ n, p n := ⟨m, h⟩
 unfold leastOf; rw [dif_pos hx]; exact (Classical.choose_spec (exists_least hx)).2 m h
end
end Go.Abs
end
