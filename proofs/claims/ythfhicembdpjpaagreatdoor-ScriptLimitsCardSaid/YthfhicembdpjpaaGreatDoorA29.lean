/- Abstract values: a part. No condition beyond each statement's own. -/
import Derived.Test.YthfhicembdpjpaaGreatDoorA28
set_option linter.unusedVariables false
set_option linter.unusedSimpArgs false
set_option linter.unnecessarySimpa false
section
namespace Go.Abs
open Go.RowKit (Below)
abbrev qi (n : Int) : V := .int .i64 n
abbrev qu (n : Int) : V := .int .u8 n
abbrev qb (b : Bool) : V := .bool b
abbrev qs (s : List UInt8) : V := .str s
abbrev qn : V := .nilsl
abbrev qp (k : Nat) : V := .ptr k 0
abbrev ql {α : Type} (sz : Nat) (c : α → List V) (l : List α) : V := .sl sz (l.map c) .none
def onl {α : Type} (sz : Nat) (c : α → List V) (r : Option (List α)) : V := match r with | none => .nilsl | some l => .sl sz (l.map c) .none
def onE {α β : Type} (r : Option β) (a : Option α) (b : β → Option α) : Option α := match r with | none => a | some x => b x
theorem onN {α β : Type} {a : Option α} {b : β → Option α} {r : α} (h : onE none a b = some r) : a = some r := h
theorem onS {α β : Type} {a : Option α} {b : β → Option α} {r : α} {x : β} (h : onE (some x) a b = some r) : b x = some r := h
def carL (l : List (Nat × V)) : List Nat → List (Nat × V) → List (Nat × V)
 | [], new => new
 | k :: ks, new => (k, lget l k) :: carL l ks new
def carF (fr : AFr) (ks : List Nat) (new : List (Nat × V)) : AFr := ⟨fr.n, carL fr.l ks new⟩
theorem bE {α β : Type} {x : Option α} {f : α → Option β} {y : β} {Q : Prop} (h : x.bind f = some y) (k : ∀ a, x = some a → f a = some y → Q) : Q := by
 obtain ⟨a, h1, h2⟩ := bindE h; exact k a h1 h2
theorem sI {α : Type} {a b : α} (h : some a = some b) : b = a := (Option.some.inj h).symm
theorem kF {α : Type} {t : Bool} {A B : Option α} {r : α} {Q : Prop} (h : (if t = true then A else B) = some r) (h1 : t = true → A = some r → Q) (h2 : t = false → B = some r → Q) : Q :=
 kIf t (fun hb => h1 hb (ite_t hb h)) (fun hb => h2 hb (ite_f hb h))
section
variable {P : Program} {gl : Nat → List V} {s0 : St} {c : Code} {cs : List Code} {AQ : Exit → AFr → St → Prop} {fr : AFr} {st : St}
theorem cuEN0 {Y Z : Type} {o : Option Y} {f : Y → Option Z} {r : Z} (h : o.bind f = some r) (hcl : Cl s0 (BCodes P gl s0 cs AQ)) (F : Y → AFr) (S : Y → St)
  (h1 : ∀ y, o = some y → BCodes P gl s0 [c] (thenK (loopW s0 F S (fun z => y = z)) AQ) fr st) (h2 : ∀ y, f y = some r → BCodes P gl s0 cs AQ (F y) (S y)) : BCodes P gl s0 (c :: cs) AQ fr st := by
 obtain ⟨y, hy, h⟩ := bindE h
 refine b_cutE F S (fun z => y = z) (h1 y hy) hcl (fun z hz => ?_)
 subst hz; exact h2 _ h
theorem blEN0 {Y Z : Type} {id : Nat} {o : Option Y} {f : Y → Option Z} {r : Z} (h : o.bind f = some r) (hcl : Cl s0 (BCodes P gl s0 cs AQ)) (F : Y → AFr) (S : Y → St)
  (h1 : ∀ y, o = some y → BCodes P gl s0 [c] (blockL s0 id F S (fun z => y = z) AQ) fr st) (h2 : ∀ y, f y = some r → BCodes P gl s0 cs AQ (F y) (S y)) : BCodes P gl s0 (.block id c :: cs) AQ fr st := by
 obtain ⟨y, hy, h⟩ := bindE h
 refine b_blockE F S (fun z => y = z) (h1 y hy) hcl (fun z hz => ?_)
 subst hz; exact h2 _ h
theorem blEN {Y Z : Type} {id : Nat} {o : Option Y} {f : Y → Option Z} {r : Z} (h : o.bind f = some r) (hcl : Cl s0 (AQ .normal)) (F : Y → AFr) (S : Y → St)
  (h1 : ∀ y, o = some y → BCodes P gl s0 [c] (blockL s0 id F S (fun z => y = z) AQ) fr st) (h2 : ∀ y, f y = some r → BCodes P gl s0 [] AQ (F y) (S y)) : BCodes P gl s0 [.block id c] AQ fr st := blEN0 h (cl_nil hcl) F S h1 h2
theorem blCN0 {R Y Z : Type} {id : Nat} {o : Option (Ctl R Y)} {g : R → Option Z} {f : Y → Option Z} {r : Z} (h : ctlB o g f = some r) (hcl : Cl s0 (BCodes P gl s0 cs AQ)) (F : Y → AFr) (S : Y → St)
  (h1 : ∀ y, o = some y → (∀ x, y = .ret x → g x = some r) → BCodes P gl s0 [c] (blockL s0 id F S (fun z => y = .nxt z) AQ) fr st) (h2 : ∀ y, f y = some r → BCodes P gl s0 cs AQ (F y) (S y)) : BCodes P gl s0 (.block id c :: cs) AQ fr st := by
 obtain ⟨y, hy, hr, h⟩ := ctlE h
 exact b_blockE F S (fun z => y = .nxt z) (h1 y hy hr) hcl (fun z hz => h2 _ (h _ hz))
theorem blCN {R Y Z : Type} {id : Nat} {o : Option (Ctl R Y)} {g : R → Option Z} {f : Y → Option Z} {r : Z} (h : ctlB o g f = some r) (hcl : Cl s0 (AQ .normal)) (F : Y → AFr) (S : Y → St)
  (h1 : ∀ y, o = some y → (∀ x, y = .ret x → g x = some r) → BCodes P gl s0 [c] (blockL s0 id F S (fun z => y = .nxt z) AQ) fr st) (h2 : ∀ y, f y = some r → BCodes P gl s0 [] AQ (F y) (S y)) : BCodes P gl s0 [.block id c] AQ fr st := blCN0 h (cl_nil hcl) F S h1 h2
variable {d : Code}
theorem cuE {Y Z : Type} {o : Option Y} {f : Y → Option Z} {r : Z} (h : o.bind f = some r) (F : Y → AFr) (S : Y → St)
  (h1 : ∀ y, o = some y → BCodes P gl s0 [c] (thenK (loopW s0 F S (fun z => y = z)) AQ) fr st) (h2 : ∀ y, f y = some r → BCodes P gl s0 (d :: cs) AQ (F y) (S y)) : BCodes P gl s0 (c :: d :: cs) AQ fr st := cuEN0 h cl_cons F S h1 h2
theorem blE {Y Z : Type} {id : Nat} {o : Option Y} {f : Y → Option Z} {r : Z} (h : o.bind f = some r) (F : Y → AFr) (S : Y → St)
  (h1 : ∀ y, o = some y → BCodes P gl s0 [c] (blockL s0 id F S (fun z => y = z) AQ) fr st) (h2 : ∀ y, f y = some r → BCodes P gl s0 (d :: cs) AQ (F y) (S y)) : BCodes P gl s0 (.block id c :: d :: cs) AQ fr st := blEN0 h cl_cons F S h1 h2
theorem blC {R Y Z : Type} {id : Nat} {o : Option (Ctl R Y)} {g : R → Option Z} {f : Y → Option Z} {r : Z} (h : ctlB o g f = some r) (F : Y → AFr) (S : Y → St)
  (h1 : ∀ y, o = some y → (∀ x, y = .ret x → g x = some r) → BCodes P gl s0 [c] (blockL s0 id F S (fun z => y = .nxt z) AQ) fr st) (h2 : ∀ y, f y = some r → BCodes P gl s0 (d :: cs) AQ (F y) (S y)) : BCodes P gl s0 (.block id c :: d :: cs) AQ fr st := blCN0 h cl_cons F S h1 h2
end
end Go.Abs
namespace Go.Abs
section
variable {P : Program} {T : TypeId → TI} {gl : Nat → List V} {ops : Array Oper} {K : AFr → St → Prop}
def litT (T : TypeId → TI) (d : TD) (len : Nat) (parts : List (Nat × V)) (nv : Nat) : Option (V × List V) :=
 match d with
 | .slice e sz _ =>
  if len * sz ≤ 16777216 ∧ (T e).zok = true ∧ (T e).zero.cells.length = sz ∧ 0 < sz ∧ 0 < len then
   match afillT (fun i => some (i * sz, sz)) (zeroRow len (T e).zero.cells) (parts.map fun p => (p.1, V.pur p.2)) with
   | some cells => if V.pcells cells = true then some (.own nv len sz, cells) else none
   | none => none
  else none
 | _ => none
theorem litT_eq {st : St} {d : TD} {len : Nat} {parts : List (Nat × V)} {v : V} {cells : List V} (h : litT (ti P) d len parts st.vars.length = some (v, cells)) : abuildSliceO P st d len parts = some (v, st.push [.buf cells]) := by
 unfold litT at h
 unfold abuildSliceO
 split at h
 ·split at h
  ·rename_i hc
   simp only
   rw [if_pos hc]
   rw [afillT_eq] at h
   split at h
   ·rename_i cells' hf
    rw [hf]
    simp only
    split at h
    ·rename_i hp
     injection h with h; injection h with h1 h2; subst h1 h2
     rw [if_pos hp]
    ·cases h
   ·cases h
  ·cases h
 ·cases h
def litX (T : TypeId → TI) (gl : Nat → List V) (ops : Array Oper) (i k : Nat) (x : Cfg) : Option (V × List V) := atX T gl ops i k x none fun o fr1 st1 => match runsB ops o fr1 with
 | true => (match aexecT T gl fr1 st1 o.op with
  | some _ => (match o.op with
   | .buildSlice t len parts => litT T (T t).d len (parts.toList.map fun (i, x) => (i, fr1.eval x)) st1.vars.length
   | _ => none)
  | none => none)
 | false => none
theorem c_lit (hT : T = ti P) {i : Nat} {x : Cfg} (k : Nat) {v : V} {cells : List V} (hik : Nat.ble i k = true) (he : litX T gl ops i k x = some (v, cells))
  (h : aOpsC P gl ops (k + 1) (setX (runX T gl ops i k x) (dstAt ops k) v (fun st => st.push [.buf cells])) K) : aOpsC P gl ops i x K := by
 rw [runX_eq, setX_eq] at h
 rw [litX, atX_eq] at he
 unfold aOpsC at h ⊢
 cases hr : aRun T gl ops (seg ops i k) x.1 x.2 with
 | none => rw [hr] at he; cases he
 | some y =>
  obtain ⟨fr1, st1⟩ := y
  rw [hr] at he
  simp only at he
  cases ho : ops.toList[k]? with
  | none => rw [ho] at he; cases he
  | some o =>
   rw [ho] at he
   simp only at he
   cases hb : runsB ops o fr1 with
   | false => rw [hb] at he; cases he
   | true =>
    rw [hb] at he
    simp only at he
    cases hx : aexecT T gl fr1 st1 o.op with
    | none => rw [hx] at he; cases he
    | some z =>
     rw [hx] at he
     simp only at he
     rw [drop_split ho (Nat.le_of_ble_eq_true hik)]
     refine aRun_sound hT _ _ _ _ _ _ hr (aOps_runs hb ?_)
     simp only [runF, hr, Option.getD_some, dstAt, ho] at h
     split at he
     ·rename_i t len parts hop
      rw [hT] at he
      have h2 := litT_eq he
      have hx' : aexec P gl fr1 st1 o.op = some z := by rw [← aexecT_eq, ← hT]; exact hx
      unfold aOpV
      rw [hop] at hx' ⊢
      simp only
      rw [hx']
      refine .inr ?_
      unfold aOpO
      simp only
      rw [h2]
      exact h
     ·cases he
theorem x_appXE {α : Type} {T : TypeId → TI} {c : α → List V} {l l2 : List α} {id m f : Nat} {cell : Option (List V)} {e e2 : TypeId} {sz bytes b2 : Nat} {tok tok2 : Tok} (ho : appOk T e sz bytes = true) (h : List.isEmpty l2 = true) :
  ∀ st : St, st.vars.length = m → st.fams.length = f → st.vars[id]? = cell →
   aappendT T st (.slice e sz bytes) (.slice e2 sz b2) (.sl sz (l.map c) tok) (.sl sz (l2.map c) tok2) = some (.sl sz (l.map c) tok, st) := by
 intro st _ _ _
 simp only [appOk, Bool.and_eq_true, beq_iff_eq, decide_eq_true_eq] at ho
 obtain ⟨⟨⟨h1, h2⟩, h3⟩, h4⟩ := ho
 have : l2 = [] := by simpa using h
 subst this
 simp only [aappendT, h1, h2, h3, asrc, and_self, if_true, List.map_nil, List.length_nil]
theorem x_oappE {α : Type} {T : TypeId → TI} {c : α → V} {l2 : List α} {n id id0 m f : Nat} {cell : Option (List V)} {e e2 : TypeId} {bytes b2 : Nat} {tok2 : Tok} (ho : appOk T e 1 bytes = true) (h : List.isEmpty l2 = true) :
  ∀ st : St, st.vars.length = m → st.fams.length = f → st.vars[id0]? = cell →
   aappendT T st (.slice e 1 bytes) (.slice e2 1 b2) (.own id n 1) (.sl 1 (l2.map fun x => [c x]) tok2) = some (.own id n 1, st) := by
 intro st _ _ _
 simp only [appOk, Bool.and_eq_true, beq_iff_eq, decide_eq_true_eq] at ho
 obtain ⟨⟨⟨h1, h2⟩, h3⟩, h4⟩ := ho
 have : l2 = [] := by simpa using h
 subst this
 simp only [aappendT, h1, h2, h3, asrc, and_self, if_true, List.map_nil, List.length_nil]
end
section
variable {P : Program} {gl : Nat → List V} {s0 : St} {c : Code} {cs : List Code} {AQ : Exit → AFr → St → Prop} {fr : AFr} {st : St}
end
end Go.Abs
end
section
namespace Go.Abs
def endC (T : TypeId → TI) (gl : Nat → List V) (ops : Array Oper) (i : Nat) (x : Cfg) : Cfg := endK T gl ops i x (⟨0, []⟩, ⟨[], []⟩) fun fr st => (fr, st)
def endOk (T : TypeId → TI) (gl : Nat → List V) (ops : Array Oper) (i : Nat) (x : Cfg) : Bool := endK T gl ops i x false fun _ _ => true
section
variable {P : Program} {T : TypeId → TI} {gl : Nat → List V} {ops : Array Oper} {s0 : St} {cs : List Code} {AQ : Exit → AFr → St → Prop} {id : Nat}
theorem c_stop (hT : T = ti P) {i : Nat} {x : Cfg} (hb : endOk T gl ops i x = true) : aOpsC P gl ops i x (toW s0 (endC T gl ops i x).1 (endC T gl ops i x).2) := by
 rw [endOk, endK_eq] at hb
 cases hr : aRun T gl ops (ops.toList.drop i) x.1 x.2 with
 | none => rw [hr] at hb; cases hb
 | some z =>
  obtain ⟨fr1, st1⟩ := z
  have he : endC T gl ops i x = (fr1, st1) := by rw [endC, endK_eq, hr]
  have := aRun_sound (K := toW s0 fr1 st1) hT (ops.toList.drop i) [] x.1 x.2 fr1 st1 hr (Wk.refl _ _ _)
  rw [List.append_nil] at this
  rw [he]
  unfold aOpsC
  exact this
theorem c_regY {c : Code} {y y' : Cfg} (h : aOpsC P gl ops 0 y (toW s0 y'.1 y'.2)) (h2 : BCodes P gl s0 (c :: cs) AQ y'.1 y'.2) : BCodes P gl s0 (.region id ops false :: c :: cs) AQ y.1 y.2 := c_reg y'.1 y'.2 cl_cons h h2
theorem c_regYN {y y' : Cfg} (hcl : Cl s0 (AQ .normal)) (h : aOpsC P gl ops 0 y (toW s0 y'.1 y'.2)) (h2 : AQ .normal y'.1 y'.2) : BCodes P gl s0 [.region id ops false] AQ y.1 y.2 := c_reg y'.1 y'.2 (cl_nil hcl) h h2
end
attribute [irreducible] endC
def flat : Code → List Code → List Code
 | .seq a b, cs => flat a (flat b cs)
 | .skip, cs => cs
 | c, cs => c :: cs
section
variable {P : Program} {gl : Nat → List V} {s0 : St} {c : Code} {cs : List Code} {AQ : Exit → AFr → St → Prop} {fr : AFr} {st : St}
theorem b_cong {X Y : List Code} (k : ∀ fr st, BCodes P gl s0 X AQ fr st → BCodes P gl s0 Y AQ fr st) (h : BCodes P gl s0 (c :: X) AQ fr st) : BCodes P gl s0 (c :: Y) AQ fr st :=
 BCode.mono h fun e fr st h' => by
  cases e <;> first | exact k _ _ h' | exact h'
theorem b_flat : ∀ (c : Code) {cs : List Code} {fr : AFr} {st : St}, BCodes P gl s0 (flat c cs) AQ fr st → BCodes P gl s0 (c :: cs) AQ fr st
 | .seq a b, cs, fr, st, h => b_seq (b_cong (fun _ _ => b_flat b) (b_flat a (show BCodes P gl s0 (flat a (flat b cs)) AQ fr st from h)))
 | .skip, cs, fr, st, h => b_skip h
 | .region _ _ _, _, _, _, h | .ret, _, _, _, h | .exit _, _, _, _, h | .cond _ _ _, _, _, _, h | .loop _, _, _, _, h | .block _ _, _, _, _, h | .label _, _, _, _, h | .scope _, _, _, _, h | .goto _, _, _, _, h | .rangeFunc _ _ _ _, _, _, _, h | .refuse _, _, _, _, h => h
end
end Go.Abs
end
