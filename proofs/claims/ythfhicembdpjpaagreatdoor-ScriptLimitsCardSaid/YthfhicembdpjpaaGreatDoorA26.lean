/- Abstract values: a part. No condition beyond each statement's own. -/
import Derived.Test.YthfhicembdpjpaaGreatDoorA25
set_option linter.unusedVariables false
set_option linter.unusedSimpArgs false
set_option linter.unnecessarySimpa false
section
namespace Go.Abs
open Go.RowKit (Below)
def aOpsC (P : Program) (gl : Nat → List V) (ops : Array Oper) (i : Nat) (x : Cfg) (K : AFr → St → Prop) : Prop := aOps P gl ops (ops.toList.drop i) x.1 x.2 K
def putX (x : Cfg) (d : Option Tmp) (v : V) : Cfg := match x with | (⟨n, l⟩, st) => v.fc fun v' => putK n l d v' fun l' => (⟨n, l'⟩, st)
theorem putX_eq (x : Cfg) (d : Option Tmp) (v : V) : putX x d v = (x.1.put d v, x.2) := by
 obtain ⟨⟨n, l⟩, st⟩ := x
 simp only [putX]
 rw [V.fc_eq, putK_eq]
 cases d with
 | none => rfl
 | some d => simp only [AFr.put]; split <;> rfl
def setX (x : Cfg) (d : Option Tmp) (v : V) (F : St → St) : Cfg := match x with | (⟨n, l⟩, st) => v.fc fun v' => putK n l d v' fun l' => (F st).fc fun st' => (⟨n, l'⟩, st')
theorem setX_eq (x : Cfg) (d : Option Tmp) (v : V) (F : St → St) : setX x d v F = (x.1.put d v, F x.2) := by
 obtain ⟨⟨n, l⟩, st⟩ := x
 simp only [setX]
 rw [V.fc_eq, putK_eq, St.fc_eq]
 cases d with
 | none => rfl
 | some d => simp only [AFr.put]; split <;> rfl
section
variable {P : Program} {T : TypeId → TI} {gl : Nat → List V} {ops : Array Oper} {K : AFr → St → Prop}
theorem c_pure (hT : T = ti P) {i : Nat} {x : Cfg} (k : Nat) {q : Option V} {v : V} (hq : q = some v) (hik : Nat.ble i k = true) (he : stepX T gl ops i k x = withSt q (runX T gl ops i k x).2)
  (h : aOpsC P gl ops (k + 1) (putX (runX T gl ops i k x) (dstAt ops k) v) K) : aOpsC P gl ops i x K := by
 rw [runX_eq, stepX_eq] at he
 rw [runX_eq, putX_eq] at h
 exact st_pure hT k hq hik he h
theorem c_guard (hT : T = ti P) {i : Nat} {x : Cfg} (k d : Nat) (b : Bool) (hik : Nat.ble i k = true) (he : guardX T gl ops i k x = some (d, .bool b))
  (ht : b = true → aOpsC P gl ops k (putX (runX T gl ops i k x) (some d) (.bool true)) K)
  (hf : b = false → aOpsC P gl ops k (putX (runX T gl ops i k x) (some d) (.bool false)) K) : aOpsC P gl ops i x K := by
 rw [guardX_eq] at he
 simp only [runX_eq, putX_eq] at ht hf
 exact st_guard hT k d b hik he ht hf
def goB (T : TypeId → TI) (gl : Nat → List V) (ops : Array Oper) (i k : Nat) (x : Cfg) (R : Ren) (f : FuncId) (args1 : List V) (st1 : St) : Bool := match callX T gl ops i k x, runX T gl ops i k x with
 | some (f', args), (_, st) => Nat.ble i k && Nat.beq f' f && callB R st1 st args1 args
 | none, _ => false
def goR (T : TypeId → TI) (gl : Nat → List V) (ops : Array Oper) (i k : Nat) (x : Cfg) (R : Ren) (args1 : List V) (st1 : St) : List (List V) × List (Option Nat) × List V := match callX T gl ops i k x, runX T gl ops i k x with
 | some (_, args), (_, st) => callR R st1 st args1 args
 | none, _ => ([], [], [])
theorem c_go (hT : T = ti P) {i : Nat} {x : Cfg} (k : Nat) (R : Ren) {f : FuncId} {args1 : List V} {st1 st1' : St} {r : V} (hc : ACalls P gl f args1 st1 (Out r st1'))
  (hb : goB T gl ops i k x R f args1 st1 = true) (he : callL R st1 args1 = goR T gl ops i k x R args1 st1)
  (h : aOpsC P gl ops (k + 1) (setX (runX T gl ops i k x) (dstAt ops k) (V.ren R r) (fun st => St.after R st st1')) K) : aOpsC P gl ops i x K := by
 cases hq : callX T gl ops i k x with
 | none => simp only [goB, hq] at hb; cases hb
 | some y =>
  obtain ⟨f', args⟩ := y
  simp only [goB, goR, hq, Bool.and_eq_true] at hb he
  obtain ⟨⟨h1, h2⟩, h3⟩ := hb
  rw [callX_eq] at hq
  rw [runX_eq, setX_eq] at h
  rw [runX_eq] at h3 he
  refine st_go hT k R hc ?_ ?_ h
  ·simp only [callI, callF, callA, hq, h1, h2, h3, Option.isSome_some, Bool.and_self]
  ·simp only [callA, hq]; exact he
theorem c_app (hT : T = ti P) {i : Nat} {x : Cfg} (k t : Nat) {α : Type} (c : α → List V) {l l2 l' : List α} {e e2 : TypeId} {sz bytes b2 : Nat} {tok2 : Tok} (h1 : lapp bytes l l2 = some l')
  (hb : (Nat.ble i k && appOk T e sz bytes) = true) (he : ((runX T gl ops i k x).2.fams[t]?, stepX T gl ops i k x) = (some l.length, aappendT T (runX T gl ops i k x).2 (.slice e sz bytes) (.slice e2 sz b2) (.sl sz (l.map c) (.fam t l.length)) (.sl sz (l2.map c) tok2)))
  (h : aOpsC P gl ops (k + 1) (setX (runX T gl ops i k x) (dstAt ops k) (.sl sz (l'.map c) (.fam t l'.length)) (fun st => st.setFam t l'.length)) K) : aOpsC P gl ops i x K := by
 rw [runX_eq, stepX_eq] at he
 rw [runX_eq, setX_eq] at h
 exact st_app hT k t c h1 hb he h
theorem c_s2b (hT : T = ti P) {i : Nat} {x : Cfg} (k : Nat) (s : List UInt8) (hik : Nat.ble i k = true) (he : stepX T gl ops i k x = withSt (some (.sl 1 (byteRow s) .none)) (runX T gl ops i k x).2)
  (h : aOpsC P gl ops (k + 1) (putX (runX T gl ops i k x) (dstAt ops k) (.sl 1 ((s2b s).map (cI .u8)) .none)) K) : aOpsC P gl ops i x K :=
 c_pure hT k (q := some (.sl 1 (byteRow s) .none)) (by rw [byteRow_s2b]) hik he h
theorem c_b2s (hT : T = ti P) {i : Nat} {x : Cfg} (k : Nat) (l : List Int) (hik : Nat.ble i k = true) (he : stepX T gl ops i k x = withSt (match toBytes (l.map (cI .u8)) with | some b => some (.str b) | none => none) (runX T gl ops i k x).2)
  (h : aOpsC P gl ops (k + 1) (putX (runX T gl ops i k x) (dstAt ops k) (.str (b2s l))) K) : aOpsC P gl ops i x K :=
 c_pure hT k (v := .str (b2s l)) (by rw [toBytes_cI]) hik he h
def endK {R : Type} (T : TypeId → TI) (gl : Nat → List V) (ops : Array Oper) (i : Nat) (x : Cfg) (F : R) (K : AFr → St → R) : R := match x with
 | (⟨n, l⟩, st) => eRun T gl ops F (fun l' st' => K ⟨n, l'⟩ st') (ops.toList.drop i) n l st
theorem endK_eq {R : Type} (T : TypeId → TI) (gl : Nat → List V) (ops : Array Oper) (i : Nat) (x : Cfg) (F : R) (K : AFr → St → R) :
  endK T gl ops i x F K = (match aRun T gl ops (ops.toList.drop i) x.1 x.2 with | some (fr1, st1) => K fr1 st1 | none => F) := by
 obtain ⟨⟨n, l⟩, st⟩ := x
 simp only [endK]
 rw [eRun_aRun]
 cases h : aRun T gl ops (ops.toList.drop i) ⟨n, l⟩ st with
 | none => rfl
 | some y =>
  obtain ⟨fr, st'⟩ := y
  have hn := (eRun_eq T gl ops () (fun _ _ => ()) (ops.toList.drop i) n l st).2 fr st' h
  obtain ⟨n', l'⟩ := fr
  simp only at hn; subst hn; rfl
def endB (T : TypeId → TI) (gl : Nat → List V) (ops : Array Oper) (i : Nat) (x : Cfg) (s0 : St) (R : Ren) (fr' : AFr) (st' : St) : Bool := endK T gl ops i x false fun fr st => wkB s0 R fr st fr' st'
def endR (T : TypeId → TI) (gl : Nat → List V) (ops : Array Oper) (i : Nat) (x : Cfg) (R : Ren) (fr' : AFr) (st' : St) : List (List V) × List (Option Nat) × List V := endK T gl ops i x ([], [], []) fun fr st => wkR R fr st fr' st'
theorem c_end (hT : T = ti P) {s0 : St} {i : Nat} {x : Cfg} {fr' : AFr} {st' : St} (R : Ren) (hb : endB T gl ops i x s0 R fr' st' = true) (he : wkL R fr' st' = endR T gl ops i x R fr' st') :
  aOpsC P gl ops i x (toW s0 fr' st') := by
 rw [endB, endK_eq] at hb
 rw [endR, endK_eq] at he
 cases hr : aRun T gl ops (ops.toList.drop i) x.1 x.2 with
 | none => rw [hr] at hb; cases hb
 | some y =>
  obtain ⟨fr1, st1⟩ := y
  rw [hr] at hb he
  have := aRun_sound (K := toW s0 fr' st') hT (ops.toList.drop i) [] x.1 x.2 fr1 st1 hr (Wk.gen R hb he)
  rw [List.append_nil] at this; exact this
theorem c_reg {s0 : St} {cs : List Code} {AQ : Exit → AFr → St → Prop} {id : Nat} {ops : Array Oper} {fr : AFr} {st : St} (fr' : AFr) (st' : St) (hcl : Cl s0 (BCodes P gl s0 cs AQ)) (h : aOpsC P gl ops 0 (fr, st) (toW s0 fr' st'))
  (h2 : BCodes P gl s0 cs AQ fr' st') : BCodes P gl s0 (.region id ops false :: cs) AQ fr st := b_reg fr' st' hcl h h2
end
section
variable {s0 : St} {AQ : Exit → AFr → St → Prop} {K : AFr → St → Prop} {fr : AFr} {st : St}
end
attribute [irreducible] aOpsC
end Go.Abs
end
