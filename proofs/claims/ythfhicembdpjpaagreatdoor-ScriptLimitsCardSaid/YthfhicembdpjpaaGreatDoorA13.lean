/- Abstract values: a part. No condition beyond each statement's own. -/
import Derived.Test.YthfhicembdpjpaaGreatDoorA12
set_option linter.unusedVariables false
set_option linter.unusedSimpArgs false
set_option linter.unnecessarySimpa false
section
namespace Go.Abs
open Go.RowKit (Below)
def atarget (v : V) (args : List V) : Option (FuncId × List V) :=
 match v with
 | .func (.func f) first captured => some (f, first ++ args ++ captured)
 | _ => none
def bldT (P : Program) (e : TypeId) : Prop := ∃ i, P.info? e = some i ∧ i.zero = some (.agg #[.pointer none, .slice none 0 0])
def aOpO (P : Program) (o : Op) (fr : AFr) (st : St) (K : V → St → Prop) : Prop :=
 match o with
 | .buildSlice t len parts => match abuildSliceO P st (ti P t).d len (parts.toList.map fun (i, x) => (i, fr.eval x)) with
  | some (v, st') => K v st'
  | none => False
 | .alloc e => bldT P e ∧ ∃ eb, K (.ptr (st.vars.length + 1) 0) ((st.push [.bbuf eb []]).push [.bobj (st.vars.length + 1) st.vars.length e []])
 | _ => False
def aOpV (P : Program) (gl : Nat → List V) (o : Oper) (fr : AFr) (st : St) (K : V → St → Prop) : Prop :=
 match o.op with
 | .call ⟨.value f, args, _⟩ =>
  match atarget (fr.eval f) (args.toList.map fr.eval) with
  | some (g, vs) => ACalls P gl g vs st K
  | none => False
 | op => match aexec P gl fr st op with
  | some (v, st') => K v st' ∨ aOpO P op fr st K
  | none => False
def aOp (P : Program) (gl : Nat → List V) (o : Oper) (fr : AFr) (st : St) (K : AFr → St → Prop) : Prop :=
 aOpV P gl o fr st fun v st' => K (fr.put o.dst v) st'
def aYield (ops : Array Oper) (fr : AFr) (j : Nat) : Option (Option Bool) :=
 match ops[j]? with
 | some o => match o.dst with
  | some d => match lget fr.l d with
   | .bool b => some (some b)
   | .tuple [] => some none
   | _ => none
  | none => none
 | none => none
def Both (p A B : Prop) : Prop := (p → A) ∧ (¬p → B)
def aOps (P : Program) (gl : Nat → List V) (ops : Array Oper) : List Oper → AFr → St → (AFr → St → Prop) → Prop
 | [], fr, st, K => K fr st
 | o :: rest, fr, st, K =>
  match o.guard with
  | none => aOp P gl o fr st fun fr st => aOps P gl ops rest fr st K
  | some (j, want) => match aYield ops fr j with
   | some b => Both (b = some want) (aOp P gl o fr st fun fr st => aOps P gl ops rest fr st K) (aOps P gl ops rest (fr.put o.dst (.tuple [])) st K)
   | none => False
section
variable {P : Program} {gl : Nat → List V} {w0 : Base} {G : Gh} {st : St} {w : World} {a : Act} {fr : AFr}
theorem run_callFunc {f : FuncId} (h : callOk P f = true) (args : Array Value) (w : World) : (callFunc f args).run P w = .ok (.enter f args) w := by
 unfold callOk at h
 unfold callFunc
 simp only [Sem.run_bind, run_program, Result.andThen_ok]
 split at h
 ·rename_i fn hfn
  rw [hfn]
  simp only [Bool.and_eq_true, Bool.not_eq_true'] at h
  have hb : fn.body.isNone = false := by
   cases hq : fn.body with
   | none => rw [hq] at h; simp at h
   | some c => rfl
  simp only [h.2, hb, Bool.false_eq_true, if_false, Sem.run_pure]
 ·cases h
theorem Rel.newBld (h : Rel gl w0 G st w) {e : TypeId} (eb : TypeId) : ∃ w' G', w' = w.alloc (.cells #[.pointer none, .slice none 0 0] e) ∧ G'.var (st.vars.length + 1) = some w.heap.size ∧
  Rel gl w0 G' ((st.push [.bbuf eb []]).push [.bobj (st.vars.length + 1) st.vars.length e []]) w' ∧ Ext st G G' := by
 have h1 := h.nilVarG (cells := [.bbuf eb []]) rfl
 have x1 := Gh.setNone_ext G st
 obtain ⟨h2, x2⟩ := h1.newVar [.nilp, .nilsl] #[.pointer none, .slice none 0 0] e ⟨rfl, fun i v c hv hc => by
  match i with
  | 0 => simp at hv hc; subst hv hc; exact .nilp
  | 1 => simp at hv hc; subst hv hc; exact .nilsl
  | i + 2 => simp at hv⟩ (by simp [V.scs, V.sc])
 have hl : (st.push [V.bbuf eb []]).vars.length = st.vars.length + 1 := by simp [St.push]
 rw [hl] at h2 x2
 have hb : (Gh.setVar { G with var := fun k => if k = st.vars.length then none else G.var k } (st.vars.length + 1) w.heap.size).var (st.vars.length + 1) = some w.heap.size := by simp [Gh.setVar]
 have h3 := h2.storeO (id := st.vars.length + 1) (b := w.heap.size) (w' := w.alloc (.cells #[.pointer none, .slice none 0 0] e)) (cells0 := [.nilp, .nilsl]) (cells := [.bobj (st.vars.length + 1) st.vars.length e []])
  (by simp [St.push]) rfl hb ⟨rfl, rfl, rfl, rfl, alloc_at w _, fun _ _ => rfl⟩ (.bobj (.inl rfl) (.inl ⟨rfl, rfl⟩)) (by simp [V.scs, V.sc, St.push])
 refine ⟨_, _, rfl, hb, ?_, x1.trans (St.le_push _ _) x2⟩
 have e1 : (((st.push [V.bbuf eb []]).push [.nilp, .nilsl]).put (st.vars.length + 1) [.bobj (st.vars.length + 1) st.vars.length e []]) = ((st.push [.bbuf eb []]).push [.bobj (st.vars.length + 1) st.vars.length e []]) := by
  simp only [St.put, St.push]
  rw [List.set_append_right _ _ (by simp)]
  simp
 rw [← e1]
 exact h3
theorem aOpV_sound {Q : Exit → Act → World → Prop} {next : Act → World → Prop} {o : Oper} {K : V → St → Prop} (h : aOpV P gl o fr st K) (hr : Rel gl w0 G st w) (hf : FrRel G st fr a)
  (hK : ∀ v c st' G' w', K v st' → VR G' v c → V.sc st' v → Rel gl w0 G' st' w' → Ext st G G' → st.le st' → next (a.put o.dst c) w') : o.wp P a w next Q := by
 have plain : ∀ {v st'}, aexec P gl fr st o.op = some (v, st') → K v st' → o.wp P a w next Q := by
  intro v st' he hk
  obtain ⟨c, w', G', h1, h2, h3, h4, h5, h6⟩ := aexec_sound hr hf o he
  rcases h1 with h1 | ⟨h1, rfl⟩
  ·simp only [Oper.wp, h1, Oper.upon]
   exact hK _ _ _ _ _ hk h2 h3 h4 h5 h6
  ·simp only [Oper.wp, h1, Oper.upon]
   exact hK _ _ _ _ _ hk h2 h3 h4 h5 h6
 have own : aOpO P o.op fr st K → o.wp P a w next Q := by
  intro h
  unfold aOpO at h
  split at h
  ·rename_i t len parts hop
   split at h
   ·rename_i v st' hv
    obtain ⟨h1, h2, h3⟩ := parts_rel hf parts
    obtain ⟨c, w', G', k1, k2, k3, k4, k5, k6⟩ := abuildSliceO_run hr h1 h2 hv
    have he : (execOp a.eval o).run P w = .ok (.value c) w' := by
     simp only [execOp, hop, Sem.run_bind, k1, Result.andThen_ok, Sem.run_pure]
    simp only [Oper.wp, he, Oper.upon]
    exact hK _ _ _ _ _ h k2 k3 k4 k5 k6
   ·exact h.elim
  ·rename_i e hop
   obtain ⟨⟨i, hi, hz⟩, eb, hk⟩ := h
   obtain ⟨w', G', k1, k2, k3, k4⟩ := hr.newBld (e := e) eb
   have he : (execOp a.eval o).run P w = .ok (.value (.pointer (some ⟨w.heap.size, 0, none⟩))) w' := by
    simp only [execOp, hop, Instr.alloc, Sem.run_bind, run_zeroValue' hi hz, Result.andThen_ok]
    rw [k1]; rfl
   simp only [Oper.wp, he, Oper.upon]
   exact hK _ _ _ _ _ hk (.ptr k2) (by simp [V.sc, St.push]) k3 k4 ((St.le_push _ _).trans (St.le_push _ _))
  ·exact h.elim
 unfold aOpV at h
 split at h
 ·rename_i f args tys hop
  split at h
  ·rename_i g vs htg
   obtain ⟨hok, hcalls⟩ := h
   have hfv := hf.eval f
   generalize hq : a.eval f = q at hfv
   obtain ⟨hfs, hfv⟩ := hfv
   unfold atarget at htg
   split at htg
   ·rename_i f' first captured heq
    injection htg with htg; injection htg with ht1 ht2; subst ht1 ht2
    rw [heq] at hfv hfs
    cases hfv with
    | func l1 r1 l2 r2 =>
     rename_i c1 c2
     obtain ⟨as_, av⟩ := hf.evals args.toList
     have e1 : (args.toList.map a.eval).toArray = args.map a.eval := by rw [← Array.toList_map, Array.toArray_toList]
     rw [e1] at av
     simp only [V.sc] at hfs
     have hrun : (execOp a.eval o).run P w = .ok (.enter f' (c1 ++ args.map a.eval ++ c2)) w := by
      simp only [execOp, hop, resolve, hq, Deferred.ofValue, Sem.run_bind, Sem.run_pure, Result.andThen_ok, invoke]
      exact run_callFunc hok _ w
     simp only [Oper.wp, hrun, Oper.upon]
     have happ : ∀ {x y : List V} {cx cy : Array Value}, VRs G x cx → VRs G y cy → VRs G (x ++ y) (cx ++ cy) := by
      intro x y cx cy hx hy
      refine ⟨by simp [hx.1, hy.1], ?_⟩
      intro i v c hv hc
      rcases Nat.lt_or_ge i x.length with hi | hi
      ·rw [List.getElem?_append_left hi] at hv
       rw [Array.getElem?_append_left (by rw [← hx.1]; exact hi)] at hc
       exact hx.2 i v c hv hc
      ·rw [List.getElem?_append_right hi] at hv
       rw [Array.getElem?_append_right (by rw [← hx.1]; exact hi), ← hx.1] at hc
       exact hy.2 _ v c hv hc
     have hscs : V.scs st (first ++ args.toList.map fr.eval ++ captured) := by
      rw [V.scs_iff]
      intro v hv
      rcases List.mem_append.1 hv with hv | hv
      ·rcases List.mem_append.1 hv with hv | hv
       ·exact (V.scs_iff st _).1 hfs.1 v hv
       ·exact (V.scs_iff st _).1 as_ v hv
      ·exact (V.scs_iff st _).1 hfs.2 v hv
     refine (hcalls w0 G w (c1 ++ args.map a.eval ++ c2) hr (happ (happ ⟨l1, r1⟩ av) ⟨l2, r2⟩) hscs).mono ?_
     rintro e w' ⟨r, c, st', G', rfl, hk, hv, hs, hr', hx, hl⟩
     exact hK _ _ _ _ _ hk hv hs hr' hx hl
   ·cases htg
  ·exact h.elim
 ·split at h
  ·rename_i v st' he
   rcases h with h | h
   ·exact plain he h
   ·exact own h
  ·exact h.elim
theorem aOp_sound {Q : Exit → Act → World → Prop} {next : Act → World → Prop} {o : Oper} {K : AFr → St → Prop} (h : aOp P gl o fr st K) (hr : Rel gl w0 G st w) (hf : FrRel G st fr a)
  (hK : ∀ fr' st' G' a' w', K fr' st' → Rel gl w0 G' st' w' → FrRel G' st' fr' a' → Ext st G G' → st.le st' → next a' w') : o.wp P a w next Q :=
 aOpV_sound (K := fun v st' => K (fr.put o.dst v) st') h hr hf fun v c st' G' w' hk hv hs hr' hx hl => hK _ _ _ _ _ hk hr' ((hf.ext hx hl).put o.dst hs hv) hx hl
theorem VR.undef_eq {G : Gh} {c : Value} (h : VR G (.tuple []) c) : c = undef := by
  cases h with
  | tuple h1 h2 => rename_i c; have : c = #[] := by apply Array.eq_empty_of_size_eq_zero; simpa using h1.symm
                   subst this; rfl
theorem VR.undef (G : Gh) : VR G (.tuple []) Go.undef := .tuple rfl (by intro i v x h; simp at h)
theorem aYield_sound {ops : Array Oper} {j : Nat} {y : Option Bool} (hf : FrRel G st fr a) (h : aYield ops fr j = some y) : yielded ops a.tmps j = y := by
 unfold aYield at h
 split at h
 ·rename_i o ho
  split at h
  ·rename_i d hd
   have hv := (hf.slot d).2
   split at h
   ·rename_i b' hb
    injection h with h; subst h
    rw [hb] at hv
    generalize hq : a.tmps.getD d undef = q at hv
    cases hv
    unfold yielded
    simp only [ho, Option.bind_some, hd]
    rw [Array.getD_eq_getD_getElem?] at hq
    cases hx : a.tmps[d]? with
    | none => rw [hx] at hq; simp [Go.undef] at hq
    | some x => rw [hx] at hq; simp at hq; subst hq; rfl
   ·rename_i hb
    injection h with h; subst h
    rw [hb] at hv
    have hq := hv.undef_eq
    unfold yielded
    simp only [ho, Option.bind_some, hd]
    rw [Array.getD_eq_getD_getElem?] at hq
    cases hx : a.tmps[d]? with
    | none => rfl
    | some x => rw [hx] at hq; simp at hq; subst hq; rfl
   ·cases h
  ·cases h
 ·cases h
theorem aOps_sound {ops : Array Oper} {Q : Exit → Act → World → Prop} {K : AFr → St → Prop} : ∀ (l : List Oper) (k : Nat) (fr : AFr) (st : St) (G : Gh) (w : World) (a : Act), ops.toList.drop k = l → aOps P gl ops l fr st K → Rel gl w0 G st w → FrRel G st fr a →
  (∀ fr' st' G' a' w', K fr' st' → Rel gl w0 G' st' w' → FrRel G' st' fr' a' → Ext st G G' → st.le st' → Q .normal a' w') → wpOps P ops Q (List.range' k l.length) a w
 | [], k, fr, st, G, w, a, hd, h, hr, hf, hK => hK fr st G a w h hr hf (.refl _ _) (.refl _)
 | o :: rest, k, fr, st, G, w, a, hd, h, hr, hf, hK => by
  have ho : ops[k]? = some o := by
   have : (ops.toList.drop k)[0]? = some o := by rw [hd]; rfl
   rw [List.getElem?_drop, Nat.add_zero, Array.getElem?_toList] at this
   exact this
  have hd' : ops.toList.drop (k + 1) = rest := by
   have := congrArg (List.drop 1) hd
   rw [List.drop_drop] at this
   simpa using this
  simp only [List.length_cons, List.range'_succ, wpOps, ho]
  simp only [aOps] at h
  have cont : ∀ fr' st' G' a' w', aOps P gl ops rest fr' st' K → Rel gl w0 G' st' w' → FrRel G' st' fr' a' → Ext st G G' → st.le st' → wpOps P ops Q (List.range' (k + 1) rest.length) a' w' :=
   fun fr' st' G' a' w' h1 h2 h3 h4 h5 => aOps_sound rest (k + 1) fr' st' G' w' a' hd' h1 h2 h3 (fun fr2 st2 G2 a2 w2 m1 m2 m3 m4 m5 => hK fr2 st2 G2 a2 w2 m1 m2 m3 (h4.trans h5 m4) (h5.trans m5))
  split at h
  ·rename_i hg
   rw [if_pos (by simp [Region.wanted, hg])]
   exact .inl (aOp_sound h hr hf cont)
  ·rename_i j want hg
   split at h
   ·rename_i b hb
    have hy := aYield_sound hf hb
    by_cases hbw : b = some want
    ·rw [if_pos (by simp [Region.wanted, hg, hy, hbw])]
     exact .inl (aOp_sound (h.1 hbw) hr hf cont)
    ·rw [if_neg (by simp [Region.wanted, hg, hy, hbw])]
     exact cont _ _ G _ _ (h.2 hbw) hr (hf.put o.dst (by simp [V.sc, V.scs]) (.undef _)) (.refl _ _) (.refl _)
   ·exact h.elim
theorem ACode.region {id : Nat} {ops : Array Oper} {AQ : Exit → AFr → St → Prop} (h : aOps P gl ops ops.toList fr st (AQ .normal)) : ACode P gl (.region id ops false) AQ fr st := by
 intro w0 G w a h1 h2
 refine wp_region ?_
 have := aOps_sound (P := P) (gl := gl) (w0 := w0) (ops := ops) (Q := LQ gl w0 st G AQ) ops.toList 0 fr st G w a rfl h h1 h2 (fun fr' st' G' a' w' m1 m2 m3 m4 m5 => ⟨fr', st', G', m1, m2, m3, m4, m5⟩)
 rw [List.range_eq_range']
 simpa using this
end
def St.ok (st : St) : Prop := ∀ (id : Nat) (cs : List V), st.vars[id]? = some cs → V.scs st cs
theorem ACode.ok {P : Program} {gl : Nat → List V} {c : Code} {AQ : Exit → AFr → St → Prop} {fr : AFr} {st : St} (h : st.ok → ACode P gl c AQ fr st) : ACode P gl c AQ fr st :=
 fun w0 G w a h1 h2 => h h1.sc w0 G w a h1 h2
def VLe (v u : V) : Prop := ∀ (G : Gh) (c : Value), VR G u c → VR G v c
theorem VLe.refl (v : V) : VLe v v := fun _ _ h => h
theorem VLe.junk (v : V) : VLe .junk v := fun _ _ _ => .junk _
theorem VLe.sl (sz : Nat) (es : List (List V)) (tok : Tok) : VLe (.sl sz es .none) (.sl sz es tok) := fun _ _ h => by
 cases h with
 | sl a b c => exact .sl a trivial c
 | slnil => exact .slnil _ _
 | slz => exact .slz _ _
theorem VLe.nil (sz : Nat) (tok : Tok) : VLe (.sl sz [] tok) .nilsl := fun _ _ h => by cases h; exact .slnil _ _
theorem VLe.exact (sz : Nat) (es : List (List V)) : VLe (.sl sz es .none) (.sl sz es .exact) := VLe.sl _ _ _
theorem VLe.trans {a b c : V} (h : VLe a b) (k : VLe b c) : VLe a c := fun G x hx => h G x (k G x hx)
theorem VLe.agg {a b : List V} (h : a.length = b.length) (hv : ∀ (i : Nat) (u v : V), a[i]? = some u → b[i]? = some v → VLe u v) : VLe (.agg a) (.agg b) := fun G c h' => by
 cases h' with
 | agg h1 h2 =>
  refine .agg (by rw [h, h1]) ?_
  intro i u x hu hx
  have hi : i < b.length := by
   rw [← h]
   rcases Nat.lt_or_ge i a.length with h' | h'
   ·exact h'
   ·rw [List.getElem?_eq_none h'] at hu; cases hu
  exact hv i u _ hu (List.getElem?_eq_getElem hi) G x (h2 i _ x (List.getElem?_eq_getElem hi) hx)
theorem VLe.tuple {a b : List V} (h : a.length = b.length) (hv : ∀ (i : Nat) (u v : V), a[i]? = some u → b[i]? = some v → VLe u v) : VLe (.tuple a) (.tuple b) := fun G c h' => by
 cases h' with
 | tuple h1 h2 =>
  refine .tuple (by rw [h, h1]) ?_
  intro i u x hu hx
  have hi : i < b.length := by
   rw [← h]
   rcases Nat.lt_or_ge i a.length with h' | h'
   ·exact h'
   ·rw [List.getElem?_eq_none h'] at hu; cases hu
  exact hv i u _ hu (List.getElem?_eq_getElem hi) G x (h2 i _ x (List.getElem?_eq_getElem hi) hx)
structure WeakerSt (st st' : St) : Prop where
 vars : st'.vars.length ≤ st.vars.length
 fams : ∀ (t p : Nat), st'.fams[t]? = some p → st.fams[t]? = some p
 cells : ∀ (id : Nat) (cs : List V), st'.vars[id]? = some cs → V.scs st' cs ∧ st.vars[id]? = some cs
def aresult (P : Program) (gl : Nat → List V) (fr : AFr) (st : St) : ResultVar → Option V
 | .tmp t => some (lget fr.l t)
 | .cell a t => match aload gl st (lget fr.l a) (ti P t).sz (ti P t).d.agg with
  | some v => if (ti P t).ok = true ∧ (ti P t).d ≠ .other then some v else none
  | none => none
def aresults (P : Program) (gl : Nat → List V) (fr : AFr) (st : St) : List ResultVar → Option (List V)
 | [] => some []
 | r :: rs => match aresult P gl fr st r, aresults P gl fr st rs with
  | some v, some vs => some (v :: vs)
  | _, _ => none
def aret : List V → V
 | [v] => v
 | vs => .tuple vs
def bodyA (P : Program) (gl : Nat → List V) (fn : Func) (st0 : St) (Q : V → St → Prop) : Exit → AFr → St → Prop := fun e fr st =>
 (e = .normal ∨ e = .ret) ∧ ∃ vs r st', aresults P gl fr st fn.results.toList = some vs ∧ VLe r (aret vs) ∧ V.sc st' r ∧ WeakerSt st st' ∧ st0.le st' ∧ Q r st'
def argFr (n : Nat) (args : List V) : AFr := ⟨n, args.zipIdx.map fun (v, i) => (i, v)⟩
theorem lget_args (args : List V) : ∀ (k t : Nat), lget ((args.zipIdx k).map fun (v, i) => (i, v)) t = if k ≤ t then (args[t - k]?).getD .junk else .junk := by
 induction args with
 | nil => intro k t; simp [lget]
 | cons v r ih =>
  intro k t
  simp only [List.zipIdx_cons, List.map_cons, lget, ih]
  by_cases h : k = t
  ·subst h; simp
  ·rw [if_neg h]
   by_cases h1 : k + 1 ≤ t
   ·rw [if_pos h1, if_pos (by omega), show t - k = (t - (k + 1)) + 1 by omega, List.getElem?_cons_succ]
   ·rw [if_neg h1, if_neg (by omega)]
section
variable {P : Program} {gl : Nat → List V} {w0 : Base} {G : Gh} {st : St} {w : World} {a : Act} {fr : AFr}
theorem aresult_run (h : Rel gl w0 G st w) (hf : FrRel G st fr a) {r : ResultVar} {v : V} (hv : aresult P gl fr st r = some v) :
  ∃ c, ((match r with | .tmp t => (pure (a.tmps.getD t undef) : Sem Value) | .cell x t => do loadVar t (← asAddr (a.tmps.getD x undef))).run P w = .ok c w) ∧ VR G v c ∧ V.sc st v := by
 cases r with
 | tmp t => simp only [aresult] at hv; injection hv with hv; subst hv; exact ⟨_, rfl, (hf.slot t).2, (hf.slot t).1⟩
 | cell x t =>
  simp only [aresult] at hv
  split at hv
  ·rename_i v' hl
   split at hv
   ·rename_i hc
    injection hv with hv; subst hv
    have hs := hf.slot x
    obtain ⟨c, h1, h2, h3⟩ := aload_same h hc.1 hc.2 hs.2 hs.1 hl
    have hptr : ∃ ad, a.tmps.getD x undef = .pointer (some ad) := by
     generalize a.tmps.getD x undef = q at hs
     generalize lget fr.l x = y at hs hl
     cases hs.2 with
     | ptr _ => exact ⟨_, rfl⟩
     | eptr _ => exact ⟨_, rfl⟩
     | gptr => exact ⟨_, rfl⟩
     | _ => simp [aload] at hl
    obtain ⟨ad, had⟩ := hptr
    rw [had] at h1
    refine ⟨c, ?_, h2, h3⟩
    simp only [had, Sem.run_bind, asAddr, Sem.run_pure, Result.andThen_ok]
    simpa [Instr.loadAt, Instr.sureAddr] using h1
   ·cases hv
  ·cases hv
theorem aresults_run (h : Rel gl w0 G st w) (hf : FrRel G st fr a) : ∀ (l : List ResultVar) (vs : List V), aresults P gl fr st l = some vs →
  ∃ cs : List Value, (l.mapM (m := Sem) fun r => match r with | .tmp t => pure (a.tmps.getD t undef) | .cell x t => do loadVar t (← asAddr (a.tmps.getD x undef))).run P w = .ok cs w ∧ VRs G vs cs.toArray ∧ V.scs st vs
 | [], vs, hv => by simp only [aresults] at hv; injection hv with hv; subst hv; exact ⟨[], rfl, ⟨rfl, by simp⟩, trivial⟩
 | r :: l, vs, hv => by
  simp only [aresults] at hv
  split at hv
  ·rename_i v vs' h1 h2
   injection hv with hv; subst hv
   obtain ⟨c, g1, g2, g3⟩ := aresult_run h hf h1
   obtain ⟨cs, k1, k2, k3⟩ := aresults_run h hf l vs' h2
   refine ⟨c :: cs, ?_, ⟨by simpa using k2.1, ?_⟩, g3, k3⟩
   ·simp only [List.mapM_cons, Sem.run_bind, Sem.run_pure] at *
    cases r with
    | tmp t => simp only [Sem.run_pure, Result.andThen_ok, k1] at g1 ⊢; injection g1 with g1; rw [g1]
    | cell x t => simp only [Sem.run_bind] at g1 ⊢; simp only [g1, k1, Result.andThen_ok, Sem.run_pure]
   ·intro i u x hu hx
    cases i with
    | zero => simp at hu hx; subst hu hx; exact g2
    | succ i => exact k2.2 i u x (by simpa using hu) (by simpa using hx)
  ·cases hv
theorem results_run (h : Rel gl w0 G st w) (hf : FrRel G st fr a) {fn : Func} {vs : List V} (hv : aresults P gl fr st fn.results.toList = some vs) : ∃ c, (results fn a.tmps).run P w = .ok c w ∧ VR G (aret vs) c ∧ V.sc st (aret vs) := by
 obtain ⟨cs, h1, h2, h3⟩ := aresults_run h hf fn.results.toList vs hv
 have hm : (fn.results.mapM (m := Sem) fun r => match r with | .tmp t => pure (a.tmps.getD t undef) | .cell x t => do loadVar t (← asAddr (a.tmps.getD x undef))).run P w = .ok cs.toArray w := by
  rw [Array.mapM_eq_mapM_toList]
  simp only [Sem.run_map, h1, Result.andThen_ok]
 have hl : vs.length = cs.length := by simpa using h2.1
 have fin : (results fn a.tmps).run P w = .ok (if h : cs.toArray.size = 1 then cs.toArray[0] else .tuple cs.toArray) w := by
  unfold results
  rw [Sem.run_bind]
  erw [hm]
  rfl
 cases vs with
 | nil =>
  have : cs = [] := List.eq_nil_of_length_eq_zero hl.symm
  subst this
  exact ⟨.tuple #[], by rw [fin]; rfl, .tuple rfl (by simp), by simp [aret, V.sc, V.scs]⟩
 | cons v1 vs =>
  cases cs with
  | nil => simp at hl
  | cons c1 cs =>
   cases vs with
   | nil =>
    have : cs = [] := List.eq_nil_of_length_eq_zero (by simpa using hl.symm)
    subst this
    exact ⟨c1, by rw [fin]; rfl, h2.2 0 v1 c1 rfl rfl, h3.1⟩
   | cons v2 r =>
    cases cs with
    | nil => simp at hl
    | cons c2 cr =>
     refine ⟨.tuple (c1 :: c2 :: cr).toArray, ?_, .tuple h2.1 h2.2, h3⟩
     rw [fin, dif_neg (by simp)]
theorem ACalls.of_body {f : FuncId} {fn : Func} {c : Code} {args : List V} {Q : V → St → Prop} (hf : P.funcs[f]? = some fn) (hb : fn.body = some c) (hn : (fn.name == "runtime.NumGoroutine") = false) (hl : args.length ≤ fn.ntmps)
  (h : st.ok → ACode P gl c (bodyA P gl fn st Q) (argFr fn.ntmps args) st) : ACalls P gl f args st Q := by
 refine ⟨by simp [callOk, hf, hb, hn], ?_⟩
 intro w0 G w cargs hr hv hs
 refine calls_of_wp hf hb ?_
 have hsz : args.length = cargs.size := hv.1
 have hfr : FrRel G st (argFr fn.ntmps args) { tmps := cargs ++ Array.replicate (fn.ntmps - cargs.size) undef, defers := [] } := by
  refine ⟨rfl, by simp [argFr]; omega, ?_⟩
  intro t
  simp only [argFr, lget_args args 0 t, Nat.zero_le, if_true, Nat.sub_zero]
  cases hq : args[t]? with
  | none => simp [V.sc]; exact .junk _
  | some v =>
   have ht : t < cargs.size := by
    rw [← hsz]
    rcases Nat.lt_or_ge t args.length with h' | h'
    ·exact h'
    ·rw [List.getElem?_eq_none h'] at hq; cases hq
   refine ⟨(V.scs_iff st _).1 hs v (List.mem_of_getElem? hq), ?_⟩
   simp only [Option.getD_some, Array.getD_eq_getD_getElem?]
   rw [Array.getElem?_append_left ht]
   simp only [ht, getElem?_pos, Option.getD_some]
   exact hv.2 t v _ hq (by simp [ht])
 refine wp_mono (h hr.sc w0 G w _ hr hfr) ?_
 rintro e a' w' ⟨fr', st', G', ⟨he, vs, r, st2, k1, k2, k3, k4, k5, k6⟩, m2, m3, m4, m5⟩
 obtain ⟨c', h1, h2, h3⟩ := results_run m2 m3 k1
 have hrel : Rel gl w0 G' st2 w' := m2.forget k4.vars k4.fams (by
  intro id cs hcs
  obtain ⟨q1, q2⟩ := k4.cells id cs hcs
  exact ⟨q1, fun hn => ⟨cs, q2, hn, fun _ _ x => x⟩⟩)
 have fin : ∃ v, (results fn a'.tmps).run P w' = .ok v w' ∧ (∃ r c st' G', Ending.returned v = .returned c ∧ Q r st' ∧ VR G' r c ∧ V.sc st' r ∧ Rel gl w0 G' st' w' ∧ Ext st G G' ∧ st.le st') :=
  ⟨c', h1, r, c', st2, G', rfl, k6, k2 _ _ h2, k3, hrel, m4, k5⟩
 rcases he with rfl | rfl
 ·exact ⟨m3.defers, fin⟩
 ·exact ⟨m3.defers, fin⟩
end
@[congr] theorem Both.congr {p p' A A' B B' : Prop} (hp : p = p') (ha : p' → A = A') (hb : ¬p' → B = B') : Both p A B = Both p' A' B' := by
 subst hp
 apply propext
 exact ⟨fun h => ⟨fun x => (ha x) ▸ h.1 x, fun x => (hb x) ▸ h.2 x⟩, fun h => ⟨fun x => (ha x).symm ▸ h.1 x, fun x => (hb x).symm ▸ h.2 x⟩⟩
theorem Both.posE {p A B : Prop} (h : p) : Both p A B = A := propext ⟨fun x => x.1 h, fun x => ⟨fun _ => x, fun y => absurd h y⟩⟩
theorem Both.negE {p A B : Prop} (h : ¬p) : Both p A B = B := propext ⟨fun x => x.2 h, fun x => ⟨fun y => absurd y h, fun _ => x⟩⟩
@[simp] theorem Both.true_ (A B : Prop) : Both True A B = A := Both.posE trivial
@[simp] theorem Both.false_ (A B : Prop) : Both False A B = B := Both.negE id
@[simp] theorem Both.not_ (p A B : Prop) : Both (¬p) A B = Both p B A := by
 by_cases h : p
 ·rw [Both.negE (by simpa using h), Both.posE h]
 ·rw [Both.posE h, Both.negE h]
@[simp] theorem Both.same (p A : Prop) : Both p A A = A := by
 by_cases h : p
 ·rw [Both.posE h]
 ·rw [Both.negE h]
@[simp] theorem Both.in1 (p A B C : Prop) : Both p (Both p A B) C = Both p A C := by
 by_cases h : p
 ·simp only [Both.posE h]
 ·simp only [Both.negE h]
@[simp] theorem Both.in2 (p A B C : Prop) : Both p A (Both p B C) = Both p A C := by
 by_cases h : p
 ·simp only [Both.posE h]
 ·simp only [Both.negE h]
@[simp] theorem Both.meet (p : Prop) [Decidable p] (K : AFr → St → Prop) (x x' : AFr) (y y' : St) : Both p (K x y) (K x' y') = K (if p then x else x') (if p then y else y') := by
 by_cases h : p
 ·rw [Both.posE h, if_pos h, if_pos h]
 ·rw [Both.negE h, if_neg h, if_neg h]
@[simp] theorem Both.exL {α : Type} (p : Prop) [Decidable p] (x y : α) (R : α → Prop) : (∃ v, Both p (x = v) (v = y) ∧ R v) = R (if p then x else y) := by
 apply propext
 by_cases h : p
 ·simp only [Both.posE h, if_pos h]
  exact ⟨fun ⟨v, hv, hr⟩ => hv ▸ hr, fun hr => ⟨_, rfl, hr⟩⟩
 ·simp only [Both.negE h, if_neg h]
  exact ⟨fun ⟨v, hv, hr⟩ => hv ▸ hr, fun hr => ⟨_, rfl, hr⟩⟩
@[simp] theorem Both.eqL {α : Type} (p : Prop) [Decidable p] (x y : α) : Both p (x = if p then x else y) ((if p then x else y) = y) = True := by
 by_cases h : p
 ·simp only [Both.posE h, if_pos h]
 ·simp only [Both.negE h, if_neg h]
@[simp] theorem ite_then1 {α : Type} (p : Prop) [Decidable p] (a b c : α) : (if p then (if p then a else b) else c) = if p then a else c := by
 by_cases h : p <;> simp [h]
@[simp] theorem ite_else1 {α : Type} (p : Prop) [Decidable p] (a b c : α) : (if p then a else if p then b else c) = if p then a else c := by
 by_cases h : p <;> simp [h]
@[simp] theorem ite_AFr (p : Prop) [Decidable p] (n : Nat) (l l' : List (Nat × V)) : (if p then (⟨n, l⟩ : AFr) else ⟨n, l'⟩) = ⟨n, if p then l else l'⟩ := by
 by_cases h : p <;> simp [h]
@[simp] theorem ite_slot (p : Prop) [Decidable p] (k : Nat) (v v' : V) (r r' : List (Nat × V)) : (if p then (k, v) :: r else (k, v') :: r') = (k, if p then v else v') :: (if p then r else r') := by
 by_cases h : p <;> simp [h]
@[simp] theorem ite_Vbool (p : Prop) [Decidable p] (a b : Bool) : (if p then V.bool a else V.bool b) = V.bool (if p then a else b) := by
 by_cases h : p <;> simp [h]
@[simp] theorem ite_Vint (p : Prop) [Decidable p] (k : IntKind) (a b : Int) : (if p then V.int k a else V.int k b) = V.int k (if p then a else b) := by
 by_cases h : p <;> simp [h]
@[simp] theorem ite_Vstr (p : Prop) [Decidable p] (a b : List UInt8) : (if p then V.str a else V.str b) = V.str (if p then a else b) := by
 by_cases h : p <;> simp [h]
theorem Both.callL {P : Program} {gl : Nat → List V} {p B : Prop} {f : FuncId} {args : List V} {st : St} {v : V} {Q : V → St → Prop} (h : p → ACalls P gl f args st fun r s => s = st ∧ r = v) (h2 : Both p (Q v st) B) : Both p (ACalls P gl f args st Q) B :=
 ⟨fun hp => (h hp).mono (by rintro r s ⟨rfl, rfl⟩; exact h2.1 hp), h2.2⟩
theorem Both.callR {P : Program} {gl : Nat → List V} {p A : Prop} {f : FuncId} {args : List V} {st : St} {v : V} {Q : V → St → Prop} (h : ¬p → ACalls P gl f args st fun r s => s = st ∧ r = v) (h2 : Both p A (Q v st)) : Both p A (ACalls P gl f args st Q) :=
 ⟨h2.1, fun hp => (h hp).mono (by rintro r s ⟨rfl, rfl⟩; exact h2.2 hp)⟩
@[congr] theorem ACalls.congrArgs {P : Program} {gl : Nat → List V} {f f' : FuncId} {args args' : List V} {st st' : St} {Q : V → St → Prop} (hf : f = f') (ha : args = args') (hs : st = st') : ACalls P gl f args st Q = ACalls P gl f' args' st' Q := by
 subst hf ha hs; rfl
attribute [simp ↓] aOps aOp aOpV
attribute [simp] aYield atarget aexec AFr.eval AFr.put lget lput abuiltin abin aint astr aun alen aindexAddr aconv aload astore rd TD.agg V.isCells V.isCell V.cells V.of V.ofCell V.add V.isNil thenK blockK aresults aresult aret aslice asrc aappend amin V.pure V.pures V.pcell V.pcells V.sc V.scs argFr
attribute [simp] List.getElem?_cons_zero List.getElem?_cons_succ List.getElem?_nil IntKind.bits
def St.ext (st : St) (xs : List (List V)) (ys : List Nat) : St := ⟨st.vars ++ xs, st.fams ++ ys⟩
theorem St.ext_nil (st : St) : st.ext [] [] = st := by simp [St.ext]
@[simp] theorem St.ext_push (st : St) (xs : List (List V)) (ys : List Nat) (c : List V) : (st.ext xs ys).push c = st.ext (xs ++ [c]) ys := by simp [St.ext, St.push]
@[simp] theorem St.ext_pushFam (st : St) (xs : List (List V)) (ys : List Nat) (p : Nat) : (st.ext xs ys).pushFam p = st.ext xs (ys ++ [p]) := by simp [St.ext, St.pushFam]
@[simp] theorem St.ext_vars_length (st : St) (xs : List (List V)) (ys : List Nat) : (st.ext xs ys).vars.length = st.vars.length + xs.length := by simp [St.ext]
@[simp] theorem St.ext_fams_length (st : St) (xs : List (List V)) (ys : List Nat) : (st.ext xs ys).fams.length = st.fams.length + ys.length := by simp [St.ext]
@[simp high] theorem St.ext_get (st : St) (xs : List (List V)) (ys : List Nat) (k : Nat) : (st.ext xs ys).vars[st.vars.length + k]? = xs[k]? := by simp only [St.ext]; rw [List.getElem?_append_right (by omega)]; congr 1; omega
@[simp high] theorem St.ext_get0 (st : St) (xs : List (List V)) (ys : List Nat) : (st.ext xs ys).vars[st.vars.length]? = xs[0]? := by simp only [St.ext]; rw [List.getElem?_append_right (by omega)]; congr 1; omega
@[simp high] theorem St.ext_fam (st : St) (xs : List (List V)) (ys : List Nat) (k : Nat) : (st.ext xs ys).fams[st.fams.length + k]? = ys[k]? := by simp only [St.ext]; rw [List.getElem?_append_right (by omega)]; congr 1; omega
@[simp high] theorem St.ext_fam0 (st : St) (xs : List (List V)) (ys : List Nat) : (st.ext xs ys).fams[st.fams.length]? = ys[0]? := by simp only [St.ext]; rw [List.getElem?_append_right (by omega)]; congr 1; omega
@[simp high] theorem St.ext_put (st : St) (xs : List (List V)) (ys : List Nat) (k : Nat) (c : List V) : (st.ext xs ys).put (st.vars.length + k) c = st.ext (xs.set k c) ys := by simp [St.ext, St.put]
@[simp high] theorem St.ext_put0 (st : St) (xs : List (List V)) (ys : List Nat) (c : List V) : (st.ext xs ys).put st.vars.length c = st.ext (xs.set 0 c) ys := by
 have := St.ext_put st xs ys 0 c; simpa using this
@[simp high] theorem St.ext_setFam (st : St) (xs : List (List V)) (ys : List Nat) (k p : Nat) : (st.ext xs ys).setFam (st.fams.length + k) p = st.ext xs (ys.set k p) := by simp [St.ext, St.setFam]
@[simp high] theorem St.ext_setFam0 (st : St) (xs : List (List V)) (ys : List Nat) (p : Nat) : (st.ext xs ys).setFam st.fams.length p = st.ext xs (ys.set 0 p) := by
 have := St.ext_setFam st xs ys 0 p; simpa using this
@[simp] theorem St.ext_ext (st : St) (xs xs' : List (List V)) (ys ys' : List Nat) : (st.ext xs ys).ext xs' ys' = st.ext (xs ++ xs') (ys ++ ys') := by simp [St.ext]
theorem get_lt {α : Type} {l : List α} {i : Nat} {x : α} (h : l[i]? = some x) : i < l.length := by
 rcases Nat.lt_or_ge i l.length with h' | h'
 ·exact h'
 ·rw [List.getElem?_eq_none h'] at h; cases h
theorem St.ext_old (st : St) (xs : List (List V)) (ys : List Nat) {id : Nat} {c : List V} (h : st.vars[id]? = some c) : (st.ext xs ys).vars[id]? = some c := by
 simp [St.ext, List.getElem?_append_left (get_lt h), h]
theorem St.ext_oldFam (st : St) (xs : List (List V)) (ys : List Nat) {t p : Nat} (h : st.fams[t]? = some p) : (st.ext xs ys).fams[t]? = some p := by
 simp [St.ext, List.getElem?_append_left (get_lt h), h]
@[simp] theorem St.put_vars_length (st : St) (id : Nat) (c : List V) : (st.put id c).vars.length = st.vars.length := by simp [St.put]
@[simp] theorem St.put_fams (st : St) (id : Nat) (c : List V) : (st.put id c).fams = st.fams := rfl
theorem St.le_ext (st : St) (xs : List (List V)) (ys : List Nat) : st.le (st.ext xs ys) :=
 ⟨by simp, fun t p h => ⟨p, St.ext_oldFam st xs ys h, Nat.le_refl _⟩⟩
theorem WeakerSt.pop {st : St} (h : st.ok) (xs : List (List V)) (ys : List Nat) : WeakerSt (st.ext xs ys) st :=
 ⟨by simp, fun t p hp => St.ext_oldFam st xs ys hp, fun id cs hc => ⟨h id cs hc, St.ext_old st xs ys hc⟩⟩
theorem WeakerSt.refl {st : St} (h : st.ok) : WeakerSt st st := ⟨Nat.le_refl _, fun t p hp => hp, fun id cs hc => ⟨h id cs hc, hc⟩⟩
theorem bodyA.ends {P : Program} {gl : Nat → List V} {fn : Func} {st : St} {Q : V → St → Prop} {e : Exit} {fr : AFr} {xs : List (List V)} {ys : List Nat} {vs : List V} (he : e = .normal ∨ e = .ret) (hok : st.ok)
  (hv : aresults P gl fr (st.ext xs ys) fn.results.toList = some vs) (hs : V.sc st (aret vs)) (hq : Q (aret vs) st) : bodyA P gl fn st Q e fr (st.ext xs ys) :=
 ⟨he, vs, aret vs, st, hv, .refl _, hs, WeakerSt.pop hok xs ys, .refl _, hq⟩
theorem ACalls.body {P : Program} {gl : Nat → List V} {f : FuncId} {fn : Func} {c : Code} {args : List V} {st : St} {Q : V → St → Prop} (hf : P.funcs[f]? = some fn) (hb : fn.body = some c) (hn : (fn.name == "runtime.NumGoroutine") = false) (hl : args.length ≤ fn.ntmps)
  (h : st.ok → ACode P gl c (bodyA P gl fn st Q) (argFr fn.ntmps args) (st.ext [] [])) : ACalls P gl f args st Q :=
 ACalls.of_body hf hb hn hl (by rw [St.ext_nil] at h; exact h)
end Go.Abs
end
