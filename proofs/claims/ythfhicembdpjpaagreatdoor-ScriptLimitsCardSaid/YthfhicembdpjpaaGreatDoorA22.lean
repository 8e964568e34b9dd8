/- Abstract values: a part. No condition beyond each statement's own. -/
import Derived.Test.YthfhicembdpjpaaGreatDoorA21
set_option linter.unusedVariables false
set_option linter.unusedSimpArgs false
set_option linter.unnecessarySimpa false
section
namespace Go.Abs
open Go.RowKit (Below)
def aRun (T : TypeId → TI) (gl : Nat → List V) (ops : Array Oper) : List Oper → AFr → St → Option (AFr × St)
 | [], fr, st => some (fr, st)
 | o :: r, fr, st => match o.guard with
  | none => match aexecT T gl fr st o.op with
   | some (v, st') => aRun T gl ops r (fr.put o.dst v) st'
   | none => none
  | some (j, want) => match aYield ops fr j with
   | some b => if b = some want then (match aexecT T gl fr st o.op with
     | some (v, st') => aRun T gl ops r (fr.put o.dst v) st'
     | none => none) else aRun T gl ops r (fr.put o.dst (.tuple [])) st
   | none => none
section
variable {P : Program} {T : TypeId → TI} {gl : Nat → List V} {ops : Array Oper} {K : AFr → St → Prop}
theorem aexec_value {f : Operand} {args : Array Operand} {tys : Array TypeId} {fr : AFr} {st : St} : aexec P gl fr st (.call ⟨.value f, args, tys⟩) = none := by simp [aexec]
theorem aOpV_of {o : Oper} {fr : AFr} {st : St} {v : V} {st' : St} {K : V → St → Prop} (h : aexec P gl fr st o.op = some (v, st')) (k : K v st') : aOpV P gl o fr st K := by
 unfold aOpV
 split
 ·rename_i f args tys he
  rw [he, aexec_value] at h; cases h
 ·rw [h]; exact .inl k
theorem aRun_sound0 : ∀ (l : List Oper) (rest : List Oper) (fr : AFr) (st : St) (fr' : AFr) (st' : St), aRun (ti P) gl ops l fr st = some (fr', st') → aOps P gl ops rest fr' st' K → aOps P gl ops (l ++ rest) fr st K
 | [], rest, fr, st, fr', st', h, k => by simp only [aRun] at h; injection h with h; injection h with h1 h2; subst h1 h2; exact k
 | o :: r, rest, fr, st, fr', st', h, k => by
  simp only [aRun, aexecT_eq] at h
  simp only [List.cons_append, aOps]
  split at h
  ·rename_i hg
   rw [hg]
   split at h
   ·rename_i v st1 he
    exact aOpV_of (K := fun v st' => aOps P gl ops (r ++ rest) (fr.put o.dst v) st' K) he (aRun_sound0 r rest _ _ _ _ h k)
   ·cases h
  ·rename_i j want hg
   rw [hg]
   split at h
   ·rename_i b hb
    simp only [hb]
    split at h
    ·rename_i hw
     split at h
     ·rename_i v st1 he
      exact ⟨fun _ => aOpV_of (K := fun v st' => aOps P gl ops (r ++ rest) (fr.put o.dst v) st' K) he (aRun_sound0 r rest _ _ _ _ h k), fun hn => absurd hw hn⟩
     ·cases h
    ·rename_i hw
     exact ⟨fun hn => absurd hn hw, fun _ => aRun_sound0 r rest _ _ _ _ h k⟩
   ·cases h
theorem aRun_sound (hT : T = ti P) (l rest : List Oper) (fr : AFr) (st : St) (fr' : AFr) (st' : St) (h : aRun T gl ops l fr st = some (fr', st')) (k : aOps P gl ops rest fr' st' K) : aOps P gl ops (l ++ rest) fr st K := by
 subst hT; exact aRun_sound0 l rest fr st fr' st' h k
def seg (ops : Array Oper) (i k : Nat) : List Oper := (ops.toList.drop i).take (k - i)
def runF (T : TypeId → TI) (gl : Nat → List V) (ops : Array Oper) (i k : Nat) (fr : AFr) (st : St) : AFr × St := (aRun T gl ops (seg ops i k) fr st).getD (⟨0, []⟩, ⟨[], []⟩)
def dstAt (ops : Array Oper) (k : Nat) : Option Tmp := match ops.toList[k]? with | some o => o.dst | none => none
def runsB (ops : Array Oper) (o : Oper) (fr : AFr) : Bool := match o.guard with
 | none => true
 | some (j, want) => match aYield ops fr j with | some b => decide (b = some want) | none => false
def stepQ (T : TypeId → TI) (gl : Nat → List V) (ops : Array Oper) (i k : Nat) (fr : AFr) (st : St) : Option (V × St) :=
 match aRun T gl ops (seg ops i k) fr st with
 | some (fr1, st1) => match ops.toList[k]? with
  | some o => match runsB ops o fr1 with | true => aexecT T gl fr1 st1 o.op | false => none
  | none => none
 | none => none
theorem drop_split {ops : Array Oper} {i k : Nat} {o : Oper} (hk : ops.toList[k]? = some o) (hik : i ≤ k) : ops.toList.drop i = seg ops i k ++ o :: ops.toList.drop (k + 1) := by
 have hlt := lt_of_get hk
 have h1 : ops.toList.drop i = (ops.toList.drop i).take (k - i) ++ (ops.toList.drop i).drop (k - i) := (List.take_append_drop _ _).symm
 rw [h1, List.drop_drop, show i + (k - i) = k by omega, List.drop_eq_getElem_cons hlt]
 rw [List.getElem?_eq_getElem hlt] at hk; injection hk with hk; rw [hk]
 rfl
theorem aOps_runs {o : Oper} {rest : List Oper} {fr : AFr} {st : St} (h : runsB ops o fr = true) (k : aOpV P gl o fr st fun v st' => aOps P gl ops rest (fr.put o.dst v) st' K) : aOps P gl ops (o :: rest) fr st K := by
 simp only [aOps]
 unfold runsB at h
 split at h
 ·rename_i hg; rw [hg]; exact k
 ·rename_i j want hg
  rw [hg]
  simp only
  split at h
  ·rename_i b hb
   rw [hb]
   exact ⟨fun _ => k, fun hn => absurd (of_decide_eq_true h) hn⟩
  ·cases h
theorem st_eff (hT : T = ti P) {i : Nat} {fr : AFr} {st : St} (k : Nat) {q : Option (V × St)} {v : V} {st' : St} (hq : q = some (v, st')) (hik : Nat.ble i k = true) (he : stepQ T gl ops i k fr st = q)
  (h : aOps P gl ops (ops.toList.drop (k + 1)) ((runF T gl ops i k fr st).1.put (dstAt ops k) v) st' K) : aOps P gl ops (ops.toList.drop i) fr st K := by
 subst hq
 unfold stepQ at he
 split at he
 ·rename_i fr1 st1 hr
  split at he
  ·rename_i o ho
   split at he
   ·rename_i hb
    rw [drop_split ho (Nat.le_of_ble_eq_true hik)]
    have he' : aexec P gl fr1 st1 o.op = some (v, st') := by rw [← aexecT_eq, ← hT]; exact he
    refine aRun_sound hT _ _ _ _ _ _ hr (aOps_runs hb (aOpV_of he' ?_))
    simp only [runF, hr, Option.getD_some, dstAt, ho] at h
    exact h
   ·cases he
  ·cases he
 ·cases he
def withSt (q : Option V) (st : St) : Option (V × St) := match q with | some v => some (v, st) | none => none
theorem st_pure (hT : T = ti P) {i : Nat} {fr : AFr} {st : St} (k : Nat) {q : Option V} {v : V} (hq : q = some v) (hik : Nat.ble i k = true) (he : stepQ T gl ops i k fr st = withSt q (runF T gl ops i k fr st).2)
  (h : aOps P gl ops (ops.toList.drop (k + 1)) ((runF T gl ops i k fr st).1.put (dstAt ops k) v) (runF T gl ops i k fr st).2 K) : aOps P gl ops (ops.toList.drop i) fr st K :=
 st_eff hT k (q := some (v, (runF T gl ops i k fr st).2)) rfl hik (by rw [he, hq]; rfl) h
def guardQ (T : TypeId → TI) (gl : Nat → List V) (ops : Array Oper) (i k : Nat) (fr : AFr) (st : St) : Option (Nat × V) :=
 match aRun T gl ops (seg ops i k) fr st with
 | some (fr1, st1) => match ops.toList[k]? with
  | some o => match o.guard with
   | some (j, _) => match dstAt ops j with
    | some d => some (d, lget fr1.l d)
    | none => none
   | none => none
  | none => none
 | none => none
theorem lput_same (l : List (Nat × V)) (d : Nat) (h : lget l d ≠ .junk) : lput l d (lget l d) = l := by
 induction l with
 | nil => simp [lget] at h
 | cons x r ih =>
  obtain ⟨k, v⟩ := x
  simp only [lget, lput] at *
  by_cases e : k = d
  ·simp [e]
  ·simp only [e, if_false] at *
   rw [ih h]
theorem st_guard (hT : T = ti P) {i : Nat} {fr : AFr} {st : St} (k d : Nat) (b : Bool) (hik : Nat.ble i k = true) (he : guardQ T gl ops i k fr st = some (d, .bool b))
  (ht : b = true → aOps P gl ops (ops.toList.drop k) ((runF T gl ops i k fr st).1.put (some d) (.bool true)) (runF T gl ops i k fr st).2 K)
  (hf : b = false → aOps P gl ops (ops.toList.drop k) ((runF T gl ops i k fr st).1.put (some d) (.bool false)) (runF T gl ops i k fr st).2 K) : aOps P gl ops (ops.toList.drop i) fr st K := by
 unfold guardQ at he
 split at he
 ·rename_i fr1 st1 hr
  split at he
  ·rename_i o ho
   split at he
   ·split at he
    ·rename_i dd hdd
     injection he with he; injection he with he1 he2
     subst he1
     rw [drop_split ho (Nat.le_of_ble_eq_true hik)]
     have hlt := lt_of_get ho
     have e1 : ops.toList.drop k = o :: ops.toList.drop (k + 1) := by
      rw [List.drop_eq_getElem_cons hlt]
      rw [List.getElem?_eq_getElem hlt] at ho; injection ho with ho; rw [ho]
     rw [e1] at ht hf
     simp only [runF, hr, Option.getD_some] at ht hf
     refine aRun_sound hT _ _ _ _ _ _ hr ?_
     have same : ∀ b', b = b' → fr1.put (some dd) (.bool b') = fr1 := by
      rintro b' rfl
      simp only [AFr.put]
      split
      ·rw [← he2, lput_same _ _ (by rw [he2]; simp)]
      ·rfl
     cases b with
     | true => have := ht rfl; rw [same true rfl] at this; exact this
     | false => have := hf rfl; rw [same false rfl] at this; exact this
    ·cases he
   ·cases he
  ·cases he
 ·cases he
def callQ (T : TypeId → TI) (gl : Nat → List V) (ops : Array Oper) (i k : Nat) (fr : AFr) (st : St) : Option (FuncId × List V) :=
 match aRun T gl ops (seg ops i k) fr st with
 | some (fr1, st1) => match ops.toList[k]? with
  | some o => match runsB ops o fr1 with
   | true => match o.op with
    | .call ⟨.value f, args, _⟩ => atarget (fr1.eval f) (args.toList.map fr1.eval)
    | _ => none
   | false => none
  | none => none
 | none => none
theorem st_callQ (hT : T = ti P) {i : Nat} {fr : AFr} {st : St} (k : Nat) {f : FuncId} {args : List V} {Q : V → St → Prop} (hik : Nat.ble i k = true) (he : callQ T gl ops i k fr st = some (f, args))
  (hc : ACalls P gl f args (runF T gl ops i k fr st).2 Q)
  (h : ∀ r st', Q r st' → aOps P gl ops (ops.toList.drop (k + 1)) ((runF T gl ops i k fr st).1.put (dstAt ops k) r) st' K) : aOps P gl ops (ops.toList.drop i) fr st K := by
 unfold callQ at he
 split at he
 ·rename_i fr1 st1 hr
  split at he
  ·rename_i o ho
   split at he
   ·rename_i hb
    split at he
    ·rename_i fo cargs tys hop
     rw [drop_split ho (Nat.le_of_ble_eq_true hik)]
     refine aRun_sound hT _ _ _ _ _ _ hr (aOps_runs hb ?_)
     simp only [runF, hr, Option.getD_some, dstAt, ho] at h hc
     unfold aOpV
     rw [hop]
     simp only
     rw [he]
     exact hc.mono h
    ·cases he
   ·cases he
  ·cases he
 ·cases he
def Out (r : V) (s : St) : V → St → Prop := fun r' s' => r' = r ∧ s' = s
end
section
variable {st : St}
theorem Emb.pure (n m : Nat) (h1 : n = st.vars.length) (h2 : m = st.fams.length) : Emb ⟨[], n, [], m⟩ ⟨[], []⟩ st :=
 ⟨rfl, h1, rfl, h2, .nil, .nil, fun k cs h => by simp at h, fun k p h => by simp at h⟩
def EmbV (R : Ren) (st1 st : St) : List Nat → List (List V) → Prop
 | i :: σ, cs :: r => V.scs st1 cs ∧ (∃ d, st.vars[i]? = some d ∧ VLes (V.rens R cs) d) ∧ EmbV R st1 st σ r
 | [], [] => True
 | _, _ => False
theorem EmbV.get {R : Ren} {st1 st : St} : ∀ {σ : List Nat} {l : List (List V)}, EmbV R st1 st σ l → ∀ (k : Nat) (cs : List V), l[k]? = some cs → V.scs st1 cs ∧ ∃ i d, σ[k]? = some i ∧ st.vars[i]? = some d ∧ VLes (V.rens R cs) d
 | i :: σ, c :: r, h, 0, cs, hk => by
  simp at hk; subst hk
  obtain ⟨h1, ⟨d, h2, h3⟩, _⟩ := h
  exact ⟨h1, i, d, rfl, h2, h3⟩
 | i :: σ, c :: r, h, k + 1, cs, hk => by simpa using EmbV.get h.2.2 k cs (by simpa using hk)
 | [], [], _, k, cs, hk => by simp at hk
 | [], _ :: _, h, _, _, _ => h.elim
 | _ :: _, [], h, _, _, _ => h.elim
def embS (R : Ren) (st1 st : St) : Bool :=
 (R.σ.length == st1.vars.length) && (R.n == st.vars.length) && (R.τ.length == st1.fams.length) && (R.m == st.fams.length) && decide R.σ.Nodup && decide R.τ.Nodup
theorem Emb.vs {R : Ren} {st1 st : St} (h1 : embS R st1 st = true) (h2 : EmbV R st1 st R.σ st1.vars) (h3 : R.τ.map (fun i => st.fams[i]?) = st1.fams.map some) : Emb R st1 st := by
 simp only [embS, Bool.and_eq_true, beq_iff_eq, decide_eq_true_eq] at h1
 obtain ⟨⟨⟨⟨⟨a1, a2⟩, a3⟩, a4⟩, a5⟩, a6⟩ := h1
 refine ⟨a1, a2, a3, a4, a5, a6, fun k cs h => h2.get k cs h, ?_⟩
 intro k p hp
 have hk : k < R.τ.length := by rw [a3]; exact lt_of_get hp
 have := congrArg (fun l => l[k]?) h3
 simp only [List.getElem?_map, hp, List.getElem?_eq_getElem hk, Option.map_some, Option.some.injEq] at this
 exact ⟨_, List.getElem?_eq_getElem hk, this⟩
end
end Go.Abs
end
