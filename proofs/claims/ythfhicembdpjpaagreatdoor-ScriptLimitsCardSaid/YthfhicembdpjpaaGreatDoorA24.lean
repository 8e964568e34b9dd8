/- Abstract values: a part. No condition beyond each statement's own. -/
import Derived.Test.YthfhicembdpjpaaGreatDoorA23
set_option linter.unusedVariables false
set_option linter.unusedSimpArgs false
set_option linter.unnecessarySimpa false
section
namespace Go.Abs
open Go.RowKit (Below)
def cI (k : IntKind) (n : Int) : List V := [.int k n]
def cS (s : List UInt8) : List V := [.str s]
def cL {α : Type} (sz : Nat) (c : α → List V) (l : List α) : List V := [.sl sz (l.map c) .none]
def bidx (s : List UInt8) (n : Int) : Option Int := if 0 ≤ n then (s[n.toNat]?).map (fun b => (b.toNat : Int)) else none
theorem x_bidx {s : List UInt8} {n b : Int} (h : bidx s n = some b) : aindex .str (.str s) n = some (.int .u8 b) := by
 unfold bidx at h
 split at h
 ·rename_i h0
  obtain ⟨u, hu, rfl⟩ := Option.map_eq_some_iff.1 h
  simp only [aindex, h0, if_true, hu]
 ·cases h
def lidx {α : Type} (l : List α) (n : Int) : Option α := if 0 ≤ n then l[n.toNat]? else none
theorem x_lidx {α : Type} {c : α → List V} {l : List α} {n : Int} {x : α} {e : TypeId} {sz b : Nat} {tok : Tok} (h : lidx l n = some x) : aindexAddr (.slice e sz b) (.sl sz (l.map c) tok) n = some (.eptr (c x) 0) := by
 unfold lidx at h
 split at h
 ·rename_i h0
  simp only [aindexAddr, h0, and_self, if_true, List.getElem?_map, h, Option.map_some]
 ·cases h
def ssl (s : List UInt8) (lo hi : Int) : Option (List UInt8) := if 0 ≤ lo ∧ lo ≤ hi ∧ hi ≤ s.length then some ((s.take hi.toNat).drop lo.toNat) else none
theorem ssl_bounds {α : Type} {s : List α} {lo hi : Int} {k k' : IntKind} (h : 0 ≤ lo ∧ lo ≤ hi ∧ hi ≤ s.length) : abounds s.length (some (.int k lo)) (some (.int k' hi)) = some (lo.toNat, hi.toNat) := by
 have h1 : 0 ≤ hi ∧ hi ≤ (s.length : Int) := ⟨by omega, h.2.2⟩
 have h2 : 0 ≤ lo ∧ lo ≤ ((hi.toNat : Nat) : Int) := ⟨h.1, by omega⟩
 simp only [abounds, h1, and_self, if_true, h2]
theorem x_ssl {s t : List UInt8} {lo hi : Int} {k k' : IntKind} (h : ssl s lo hi = some t) : aslice .str (.str s) (some (.int k lo)) (some (.int k' hi)) none = some (.str t) := by
 unfold ssl at h
 split at h
 ·rename_i hc; injection h with h; subst h
  simp only [aslice, ssl_bounds hc]
 ·cases h
theorem x_ssl_lo {s t : List UInt8} {lo : Int} {k : IntKind} (h : ssl s lo s.length = some t) : aslice .str (.str s) (some (.int k lo)) none none = some (.str t) := by
 unfold ssl at h
 split at h
 ·rename_i hc; injection h with h; subst h
  have h1 : 0 ≤ lo ∧ lo ≤ ((s.length : Nat) : Int) := ⟨hc.1, hc.2.1⟩
  simp [aslice, abounds, h1]
 ·cases h
theorem x_ssl_hi {s t : List UInt8} {hi : Int} {k : IntKind} (h : ssl s 0 hi = some t) : aslice .str (.str s) none (some (.int k hi)) none = some (.str t) := by
 unfold ssl at h
 split at h
 ·rename_i hc; injection h with h; subst h
  have h1 : 0 ≤ hi ∧ hi ≤ ((s.length : Nat) : Int) := ⟨hc.2.1, hc.2.2⟩
  simp [aslice, abounds, h1]
 ·cases h
def lsl {α : Type} (l : List α) (lo hi : Int) : Option (List α) := if 0 ≤ lo ∧ lo ≤ hi ∧ hi ≤ l.length then some ((l.take hi.toNat).drop lo.toNat) else none
theorem x_lsl_gen {α : Type} {c : α → List V} {l t : List α} {lo hi : Int} {e : TypeId} {sz b : Nat} {tok : Tok} {a : Nat × Nat} {lo' hi' : Option V} (hb : abounds l.length lo' hi' = some (lo.toNat, hi.toNat)) (h : lsl l lo hi = some t) :
  aslice (.slice e sz b) (.sl sz (l.map c) tok) lo' hi' none = some (.sl sz (t.map c) .none) := by
 unfold lsl at h
 split at h
 ·rename_i hc; injection h with h; subst h
  simp only [aslice, List.length_map, hb, if_true, List.map_drop, List.map_take]
 ·cases h
theorem x_lsl_lo {α : Type} {c : α → List V} {l t : List α} {lo : Int} {k : IntKind} {e : TypeId} {sz b : Nat} {tok : Tok} (h : lsl l lo l.length = some t) :
  aslice (.slice e sz b) (.sl sz (l.map c) tok) (some (.int k lo)) none none = some (.sl sz (t.map c) .none) := by
 refine x_lsl_gen (a := (0, 0)) (hi := l.length) ?_ h
 unfold lsl at h; split at h
 ·rename_i hc
  have h1 : 0 ≤ lo ∧ lo ≤ ((l.length : Nat) : Int) := ⟨hc.1, hc.2.1⟩
  simp [abounds, h1]
 ·cases h
theorem x_lsl_hi {α : Type} {c : α → List V} {l t : List α} {hi : Int} {k : IntKind} {e : TypeId} {sz b : Nat} {tok : Tok} (h : lsl l 0 hi = some t) :
  aslice (.slice e sz b) (.sl sz (l.map c) tok) none (some (.int k hi)) none = some (.sl sz (t.map c) .none) := by
 refine x_lsl_gen (a := (0, 0)) (lo := 0) ?_ h
 unfold lsl at h; split at h
 ·rename_i hc
  have h1 : 0 ≤ hi ∧ hi ≤ ((l.length : Nat) : Int) := ⟨hc.2.1, hc.2.2⟩
  simp [abounds, h1]
 ·cases h
theorem x_len {α : Type} {c : α → List V} {l : List α} {e : TypeId} {sz sz' b : Nat} {tok : Tok} : alen (.slice e sz b) (.sl sz' (l.map c) tok) = some (.int .i64 l.length) := by simp [alen]
def sadd (s t : List UInt8) : Option (List UInt8) := if s.length + t.length ≤ 9223372036854775807 then some (s ++ t) else none
theorem x_sadd {s t u : List UInt8} {d : TD} (h : sadd s t = some u) : abin .add d (.str s) (.str t) = some (.str u) := by
 unfold sadd at h
 split at h
 ·rename_i hc; injection h with h; subst h; simp only [abin, astr, hc, if_true]
 ·cases h
def irem (a b : Int) : Option Int := if b = 0 then none else some (a.tmod b)
def ishr (k : IntKind) (a b : Int) : Option Int := if b < 0 then none else some (a.fdiv (2 ^ (min b.toNat k.bits)))
theorem x_irem {k : IntKind} {a b c : Int} {d : TD} (h : irem a b = some c) : abin .rem d (.int k a) (.int k b) = some (.int k c) := by
 unfold irem at h; split at h
 ·cases h
 ·rename_i hb; injection h with h; subst h; simp [abin, aint, hb]
theorem x_ishr {k k' : IntKind} {a b c : Int} {d : TD} (h : ishr k a b = some c) : abin .shr d (.int k a) (.int k' b) = some (.int k c) := by
 unfold ishr at h; split at h
 ·cases h
 ·rename_i hb; injection h with h; subst h; simp [abin, hb]
def s2b (s : List UInt8) : List Int := s.map fun b => (b.toNat : Int)
def b2s (l : List Int) : List UInt8 := l.map fun n => UInt8.ofNat n.toNat
theorem byteRow_s2b (s : List UInt8) : byteRow s = (s2b s).map (cI .u8) := by simp [byteRow, s2b, cI]
theorem toBytes_cI (l : List Int) : toBytes (l.map (cI .u8)) = some (b2s l) := by
 induction l with
 | nil => rfl
 | cons n r ih => simp only [List.map_cons, cI, toBytes, toByte] at *; rw [ih]; rfl
def lapp {α : Type} (bytes : Nat) (l l2 : List α) : Option (List α) := if (l.length + l2.length) * bytes ≤ 140737488355328 then some (l ++ l2) else none
def appOk (T : TypeId → TI) (e : TypeId) (sz bytes : Nat) : Bool := (T e).zok && ((T e).zero.cells.length == sz) && decide (0 < bytes) && decide (0 < sz)
theorem St.setFam_same (st : St) {t p : Nat} (h : st.fams[t]? = some p) : st.setFam t p = st := by
 obtain ⟨vs, fs⟩ := st
 simp only [St.setFam, St.mk.injEq, true_and] at *
 have hlt := lt_of_get h
 rw [List.getElem?_eq_getElem hlt] at h; injection h with h
 rw [← h]; exact List.set_getElem_self hlt
theorem x_app_fam {α : Type} {T : TypeId → TI} {c : α → List V} {l l2 l' : List α} {t : Nat} {st : St} {e e2 : TypeId} {sz bytes b2 : Nat} {tok2 : Tok} (ho : appOk T e sz bytes = true) (hf : st.fams[t]? = some l.length) (h : lapp bytes l l2 = some l') :
  aappendT T st (.slice e sz bytes) (.slice e2 sz b2) (.sl sz (l.map c) (.fam t l.length)) (.sl sz (l2.map c) tok2) = some (.sl sz (l'.map c) (.fam t l'.length), st.setFam t l'.length) := by
 simp only [appOk, Bool.and_eq_true, beq_iff_eq, decide_eq_true_eq] at ho
 obtain ⟨⟨⟨h1, h2⟩, h3⟩, h4⟩ := ho
 unfold lapp at h
 split at h
 ·rename_i hb; injection h with h; subst h
  simp only [aappendT, h1, h2, h3, asrc, and_self, if_true, List.length_map]
  by_cases h0 : l2.length = 0
  ·have : l2 = [] := List.eq_nil_of_length_eq_zero h0
   subst this
   simp [St.setFam_same st hf]
  ·simp [h0, h4, hb, hf]
 ·cases h
section
variable {P : Program} {T : TypeId → TI} {gl : Nat → List V} {ops : Array Oper} {K : AFr → St → Prop}
theorem st_app (hT : T = ti P) {i : Nat} {fr : AFr} {st : St} (k t : Nat) {α : Type} (c : α → List V) {l l2 l' : List α} {e e2 : TypeId} {sz bytes b2 : Nat} {tok2 : Tok} (h1 : lapp bytes l l2 = some l')
  (hb : (Nat.ble i k && appOk T e sz bytes) = true) (he : ((runF T gl ops i k fr st).2.fams[t]?, stepQ T gl ops i k fr st) = (some l.length, aappendT T (runF T gl ops i k fr st).2 (.slice e sz bytes) (.slice e2 sz b2) (.sl sz (l.map c) (.fam t l.length)) (.sl sz (l2.map c) tok2)))
  (h : aOps P gl ops (ops.toList.drop (k + 1)) ((runF T gl ops i k fr st).1.put (dstAt ops k) (.sl sz (l'.map c) (.fam t l'.length))) ((runF T gl ops i k fr st).2.setFam t l'.length) K) : aOps P gl ops (ops.toList.drop i) fr st K := by
 simp only [Bool.and_eq_true] at hb
 injection he with he1 he2
 exact st_eff hT k (x_app_fam hb.2 he1 h1) hb.1 he2 h
theorem b_reg {s0 : St} {cs : List Code} {AQ : Exit → AFr → St → Prop} {id : Nat} {ops : Array Oper} {fr : AFr} {st : St} (fr' : AFr) (st' : St) (hcl : Cl s0 (BCodes P gl s0 cs AQ)) (h : aOps P gl ops (ops.toList.drop 0) fr st (toW s0 fr' st'))
  (h2 : BCodes P gl s0 cs AQ fr' st') : BCodes P gl s0 (.region id ops false :: cs) AQ fr st := by
 refine BCode.of (ACode.region (aOps_mono ?_ _ _ _ h))
 intro fr1 st1 hw
 exact hcl _ _ _ _ hw h2
def aresultT (T : TypeId → TI) (gl : Nat → List V) (fr : AFr) (st : St) : ResultVar → Option V
 | .tmp t => some (lget fr.l t)
 | .cell a t => match aload gl st (lget fr.l a) (T t).sz (T t).d.agg with
  | some v => if (T t).ok = true ∧ (T t).d ≠ .other then some v else none
  | none => none
def aresultsT (T : TypeId → TI) (gl : Nat → List V) (fr : AFr) (st : St) : List ResultVar → Option (List V)
 | [] => some []
 | r :: rs => match aresultT T gl fr st r, aresultsT T gl fr st rs with
  | some v, some vs => some (v :: vs)
  | _, _ => none
theorem aresultsT_eq (P : Program) (fr : AFr) (st : St) : ∀ l, aresultsT (ti P) gl fr st l = aresults P gl fr st l
 | [] => rfl
 | r :: rs => by
  have : aresultT (ti P) gl fr st r = aresult P gl fr st r := by cases r <;> rfl
  simp only [aresultsT, aresults, this, aresultsT_eq P fr st rs]
  cases aresult P gl fr st r <;> cases aresults P gl fr st rs <;> rfl
def resV (T : TypeId → TI) (gl : Nat → List V) (fr : AFr) (st : St) (rs : List ResultVar) : V := match aresultsT T gl fr st rs with | some vs => aret vs | none => .junk
theorem b_end (hT : T = ti P) {s0 st : St} {fr : AFr} {fn : Func} {e : Exit} {r : V} {st' : St} (R : Ren) (he : e = .normal ∨ e = .ret)
  (hb : ((aresultsT T gl fr st fn.results.toList).isSome && wkB s0 R ⟨1, [(0, resV T gl fr st fn.results.toList)]⟩ st ⟨1, [(0, r)]⟩ st') = true)
  (hl : wkL R ⟨1, [(0, r)]⟩ st' = wkR R ⟨1, [(0, resV T gl fr st fn.results.toList)]⟩ st ⟨1, [(0, r)]⟩ st') : bodyB P gl s0 fn (Out r st') e fr st := by
 subst hT
 simp only [Bool.and_eq_true] at hb
 obtain ⟨h1, h2⟩ := hb
 cases hv : aresultsT (ti P) gl fr st fn.results.toList with
 | none => rw [hv] at h1; cases h1
 | some vs =>
  simp only [resV, hv] at h2 hl
  exact bodyB.gen vs R he (by rw [← aresultsT_eq]; exact hv) h2 hl
end
inductive Ctl (R X : Type) where
 | ret (r : R)
 | nxt (x : X)
theorem ite_t {α : Type} {b : Bool} {x y z : α} (hb : b = true) (h : (if b = true then x else y) = z) : x = z := by rw [if_pos hb] at h; exact h
theorem ite_f {α : Type} {b : Bool} {x y z : α} (hb : b = false) (h : (if b = true then x else y) = z) : y = z := by rw [if_neg (by simp [hb])] at h; exact h
theorem bindE {α β : Type} {x : Option α} {f : α → Option β} {y : β} (h : x.bind f = some y) : ∃ a, x = some a ∧ f a = some y := Option.bind_eq_some_iff.1 h
def ctlB {R X Z : Type} (o : Option (Ctl R X)) (g : R → Option Z) (f : X → Option Z) : Option Z := match o with
 | none => none
 | some (.ret r) => g r
 | some (.nxt x) => f x
theorem ctlE {R X Z : Type} {o : Option (Ctl R X)} {g : R → Option Z} {f : X → Option Z} {z : Z} (h : ctlB o g f = some z) : ∃ c, o = some c ∧ (∀ r, c = .ret r → g r = some z) ∧ (∀ x, c = .nxt x → f x = some z) := by
 cases o with
 | none => cases h
 | some c =>
  refine ⟨c, rfl, ?_, ?_⟩
  ·rintro r rfl; exact h
  ·rintro x rfl; exact h
section
variable {P : Program} {gl : Nat → List V} {s0 : St} {c : Code} {cs : List Code} {AQ : Exit → AFr → St → Prop} {fr fr' : AFr} {st st' : St}
theorem b_cutE {Y : Type} (F : Y → AFr) (S : Y → St) (L : Y → Prop) (h : BCodes P gl s0 [c] (thenK (loopW s0 F S L) AQ) fr st) (hcl : Cl s0 (BCodes P gl s0 cs AQ)) (h2 : ∀ y, L y → BCodes P gl s0 cs AQ (F y) (S y)) : BCodes P gl s0 (c :: cs) AQ fr st := by
 refine BCode.mono (AQ := thenK (loopW s0 F S L) AQ) ?_ ?_
 ·have := h; simp only [BCodes, thenK_thenK] at this; exact this
 ·intro e fr1 st1 he
  cases e with
  | normal => obtain ⟨y, h3, h4⟩ := he; exact hcl _ _ _ _ h4 (h2 y h3)
  | _ => exact he
def blockL (s0 : St) (id : Nat) {Y : Type} (F : Y → AFr) (S : Y → St) (L : Y → Prop) (AQ : Exit → AFr → St → Prop) : Exit → AFr → St → Prop
 | .exit id', fr, st => if id' = id then loopW s0 F S L fr st else AQ (.exit id') fr st
 | .normal, fr, st => loopW s0 F S L fr st
 | e, fr, st => AQ e fr st
theorem b_blockE {Y : Type} {id : Nat} (F : Y → AFr) (S : Y → St) (L : Y → Prop) (h : BCodes P gl s0 [c] (blockL s0 id F S L AQ) fr st) (hcl : Cl s0 (BCodes P gl s0 cs AQ)) (h2 : ∀ y, L y → BCodes P gl s0 cs AQ (F y) (S y)) : BCodes P gl s0 (.block id c :: cs) AQ fr st := by
 have h' := b_start h
 have k : BCode P gl s0 c (blockK id (thenK (BCodes P gl s0 cs AQ) AQ)) fr st := by
  refine h'.mono ?_
  intro e fr1 st1 he
  cases e with
  | normal => obtain ⟨y, h3, h4⟩ := he; exact hcl _ _ _ _ h4 (h2 y h3)
  | exit id' =>
   simp only [blockL, blockK, thenK] at he ⊢
   split
   ·rename_i hi; rw [if_pos hi] at he; obtain ⟨y, h3, h4⟩ := he; exact hcl _ _ _ _ h4 (h2 y h3)
   ·rename_i hi; rw [if_neg hi] at he; exact he
  | _ => exact he
 refine b_block ?_
 simp only [BCodes, thenK_self]
 exact k
theorem bl_exit {Y : Type} {id : Nat} {F : Y → AFr} {S : Y → St} {L : Y → Prop} (h : loopW s0 F S L fr st) : blockL s0 id F S L AQ (.exit id) fr st := by
 simp only [blockL, if_true]; exact h
theorem bk_exit {id : Nat} {K : AFr → St → Prop} (h : K fr st) : blockK id (thenK K AQ) (.exit id) fr st := by
 simp only [blockK, thenK, if_true]; exact h
theorem bk_other {id id' : Nat} {K : AFr → St → Prop} (hne : Nat.beq id' id = false) (h : AQ (.exit id') fr st) : blockK id (thenK K AQ) (.exit id') fr st := by
 simp only [blockK, thenK]; rw [if_neg (Nat.ne_of_beq_eq_false hne)]; exact h
theorem cl_blockL {Y : Type} {id : Nat} {F : Y → AFr} {S : Y → St} {L : Y → Prop} : Cl s0 (blockL s0 id F S L AQ .normal) := fun _ _ _ _ h ⟨x, k1, k2⟩ => ⟨x, k1, h.trans k2⟩
theorem cl_loopT {Y : Type} {F : Y → AFr} {S : Y → St} {L : Y → Prop} : Cl s0 (thenK (loopW s0 F S L) AQ .normal) := fun _ _ _ _ h ⟨x, k1, k2⟩ => ⟨x, k1, h.trans k2⟩
end
def iand (k : IntKind) (x y : Int) : Int := k.wrap (BitVec.ofInt k.bits x &&& BitVec.ofInt k.bits y).toNat
def ior (k : IntKind) (x y : Int) : Int := k.wrap (BitVec.ofInt k.bits x ||| BitVec.ofInt k.bits y).toNat
def ixor (k : IntKind) (x y : Int) : Int := k.wrap (BitVec.ofInt k.bits x ^^^ BitVec.ofInt k.bits y).toNat
end Go.Abs
end
