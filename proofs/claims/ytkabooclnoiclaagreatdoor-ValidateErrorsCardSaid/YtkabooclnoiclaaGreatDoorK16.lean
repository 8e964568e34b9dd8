/- The layer of closed runs: a part. No condition beyond each statement's own. -/
import Derived.Test.YtkabooclnoiclaaGreatDoorK15
set_option linter.unusedVariables false
set_option linter.unusedSimpArgs false
set_option linter.unnecessarySimpa false
section
namespace Go.K
open Go.Abs
noncomputable def KV.free (v : KV) : Bool := KV.rec (motive_1 := fun _ => Bool) (motive_2 := fun _ => Bool) true (fun _ => true) (fun _ _ => true) (fun _ _ => true) (fun _ _ => false) true (fun _ _ _ _ _ => false) true true (fun _ _ _ a b => a && b) true (fun _ => false) (fun _ a => a) (fun _ a => a) (fun _ => false) true (fun _ _ a => a) true true (fun _ _ a b => a && b) v
noncomputable def KV.frees (l : List KV) : Bool := List.rec (motive := fun _ => Bool) true (fun v _ ih => v.free && ih) l
theorem KV.frees_rec : ∀ l : List KV, (KV.rec_1 (motive_1 := fun _ => Bool) (motive_2 := fun _ => Bool) true (fun _ => true) (fun _ _ => true) (fun _ _ => true) (fun _ _ => false) true (fun _ _ _ _ _ => false) true true (fun _ _ _ a b => a && b) true (fun _ => false) (fun _ a => a) (fun _ a => a) (fun _ => false) true (fun _ _ a => a) true true (fun _ _ a b => a && b) l : Bool) = KV.frees l
 | [] => rfl
 | v :: l => by
  have : KV.frees (v :: l) = (v.free && KV.frees l) := rfl
  rw [this, ← KV.frees_rec l]; rfl
theorem KV.frees_mem : ∀ {l : List KV} (h : KV.frees l = true) {i : Nat} {v : KV}, l[i]? = some v → v.free = true
 | [], h, i, v, e => by simp at e
 | x :: l, h, i, v, e => by
  have h : (x.free && KV.frees l) = true := h
  rw [Bool.and_eq_true] at h
  cases i with
  | zero => simp at e; subst e; exact h.1
  | succ i => exact KV.frees_mem h.2 (by simpa using e)
theorem KR.free {G : Gh} (G' : Gh) {v : KV} {c : Value} (k : KR G v c) : v.free = true → KR G' v c := by
 induction k with
 | junk c => exact fun _ => .junk c
 | bool b => exact fun _ => .bool b
 | int k n => exact fun _ => .int k n
 | str s => exact fun _ => .str s
 | ptr a => exact fun h => by cases h
 | nilp => exact fun _ => .nilp
 | sl a l r c => exact fun h => by cases h
 | slz a c => exact fun _ => .slz a c
 | nilsl => exact fun _ => .nilsl
 | @func fn f1 f2 c1 c2 l1 _ l2 _ i1 i2 =>
  intro h
  have h : ((KV.rec_1 (motive_1 := fun _ => Bool) (motive_2 := fun _ => Bool) true (fun _ => true) (fun _ _ => true) (fun _ _ => true) (fun _ _ => false) true (fun _ _ _ _ _ => false) true true (fun _ _ _ a b => a && b) true (fun _ => false) (fun _ a => a) (fun _ a => a) (fun _ => false) true (fun _ _ a => a) true true (fun _ _ a b => a && b) f1 : Bool) && (KV.rec_1 (motive_1 := fun _ => Bool) (motive_2 := fun _ => Bool) true (fun _ => true) (fun _ _ => true) (fun _ _ => true) (fun _ _ => false) true (fun _ _ _ _ _ => false) true true (fun _ _ _ a b => a && b) true (fun _ => false) (fun _ a => a) (fun _ a => a) (fun _ => false) true (fun _ _ a => a) true true (fun _ _ a b => a && b) f2 : Bool)) = true := h
  rw [KV.frees_rec, KV.frees_rec, Bool.and_eq_true] at h
  exact .func l1 (fun i v c e1 e2 => i1 i v c e1 e2 (KV.frees_mem h.1 e1)) l2 (fun i v c e1 e2 => i2 i v c e1 e2 (KV.frees_mem h.2 e1))
 | nilfunc => exact fun _ => .nilfunc
 | yield a => exact fun h => by cases h
 | @agg cs c l _ i =>
  intro h
  have h : (KV.rec_1 (motive_1 := fun _ => Bool) (motive_2 := fun _ => Bool) true (fun _ => true) (fun _ _ => true) (fun _ _ => true) (fun _ _ => false) true (fun _ _ _ _ _ => false) true true (fun _ _ _ a b => a && b) true (fun _ => false) (fun _ a => a) (fun _ a => a) (fun _ => false) true (fun _ _ a => a) true true (fun _ _ a b => a && b) cs : Bool) = true := h
  rw [KV.frees_rec] at h
  exact .agg l fun j v x e1 e2 => i j v x e1 e2 (KV.frees_mem h e1)
 | @tuple cs c l _ i =>
  intro h
  have h : (KV.rec_1 (motive_1 := fun _ => Bool) (motive_2 := fun _ => Bool) true (fun _ => true) (fun _ _ => true) (fun _ _ => true) (fun _ _ => false) true (fun _ _ _ _ _ => false) true true (fun _ _ _ a b => a && b) true (fun _ => false) (fun _ a => a) (fun _ a => a) (fun _ => false) true (fun _ _ a => a) true true (fun _ _ a b => a && b) cs : Bool) = true := h
  rw [KV.frees_rec] at h
  exact .tuple l fun j v x e1 e2 => i j v x e1 e2 (KV.frees_mem h e1)
 | map a => exact fun h => by cases h
 | nilmap => exact fun _ => .nilmap
 | iface _ i => exact fun h => .iface (i h)
 | niliface => exact fun _ => .niliface
theorem KRs.free {G : Gh} (G' : Gh) {vs : List KV} {cs : Array Value} (k : KRs G vs cs) (h : KV.frees vs = true) : KRs G' vs cs :=
 ⟨k.1, fun i v c e1 e2 => (k.2 i v c e1 e2).free G' (KV.frees_mem h e1)⟩
theorem KRel.keep {B : Base} {G : Gh} {h : KH} {w w' : World} {I : Nat → Nat → Option V} (r : KRel B G h w) (k : Kept ⟨w, fun _ => False, I⟩ w') : KRel B G h w' where
 kept := r.kept.step k.os k.tape k.output k.size fun b hb _ => k.heap b hb (fun h => h)
 blk := fun id o e => by
  obtain ⟨b, kk, ob, e1, e2, e3, e4⟩ := r.blk id o e
  exact ⟨b, kk, ob, e1, e2, (k.heap b (r.lt _ _ _ e1).1 (fun h => h)).trans e3, e4⟩
 lt := fun id b kk e => ⟨Nat.lt_of_lt_of_le (r.lt id b kk e).1 k.size, (r.lt id b kk e).2⟩
 sep := r.sep
 top := r.top
 res := r.res
structure KBase (P : Program) (h0 : KH) : Prop where
 top : h0.next < 65000
 glob : P.globals.size ≤ h0.next
 ro : ∀ id o, h0.get id = some o → id < h0.next ∧ ∃ cs, o = .cells true cs ∧ KV.frees cs = true
def KOver (h0 h : KH) : Prop := ∀ id o, h0.get id = some o → h.get id = some o
theorem KCall.memo {P : Program} {f : FuncId} {args : List KV} {h0 h1 h : KH} {r : KV} (k : KCall P f args h0 r h1) (hb : KBase P h0) (ho : KOver h0 h) (ha : KV.frees args = true) (hr : r.free = true) : KCall P f args h r h := by
 intro B G w cargs n hg kr hargs
 let G' : Gh := ⟨fun id => if id < h0.next then G.at_ id else none, G.room⟩
 have hat : ∀ {id x}, id < h0.next → G.at_ id = some x → G'.at_ id = some x := fun {id x} hi e => by show (if id < h0.next then G.at_ id else none) = _; rw [if_pos hi, e]
 have hat' : ∀ {id x}, G'.at_ id = some x → id < h0.next ∧ G.at_ id = some x := fun {id x} e => by
  have e : (if id < h0.next then G.at_ id else none) = some x := e
  split at e
  ·exact ⟨by assumption, e⟩
  ·cases e
 have kr' : KRel ⟨w, fun _ => False, fun _ _ => none⟩ G' h0 w := {
  kept := .refl _ _ _
  blk := fun id o e => by
   obtain ⟨hlt, cs, rfl, hf⟩ := hb.ro id o e
   obtain ⟨b, kk, ob, e1, e2, e3, e4⟩ := kr.blk id _ (ho _ _ e)
   refine ⟨b, kk, ob, hat hlt e1, (fun h => by cases h), e3, ?_⟩
   cases e4 with
   | cells a1 a2 a3 a4 => exact .cells a1 a2 a3 fun i v c h1 h2 => (a4 i v c h1 h2).free G' (KV.frees_mem hf h1)
  lt := fun id b kk e => by
   obtain ⟨h1, h2⟩ := hat' e
   exact ⟨(kr.lt _ _ _ h2).1, h1⟩
  sep := fun i j oi oj b ki kj e1 e2 _ _ => .inr (by
   obtain ⟨_, _, rfl, _⟩ := hb.ro _ _ e1
   obtain ⟨_, _, rfl, _⟩ := hb.ro _ _ e2
   exact ⟨rfl, rfl⟩)
  top := hb.top
  res := fun _ _ _ _ _ _ => .inl rfl }
 have hg' : Glob P G' := fun g hgl => hat (Nat.lt_of_lt_of_le hgl hb.glob) (hg g hgl)
 refine (k ⟨w, fun _ => False, fun _ _ => none⟩ G' w cargs n hg' kr' (hargs.free G' ha)).mono ?_
 rintro en w1 ⟨c, G2, rfl, g1, g2, g3⟩
 exact ⟨c, G, rfl, .refl _, g2.free G hr, kr.keep g3.kept⟩
def snap (w : World) (b i : Nat) : Option V := match w.cell? ⟨b, i, none⟩ with
 | some (.string s) => some (.str s.data.toList)
 | some (.int k n) => some (.int k n)
 | some (.bool x) => some (.bool x)
 | _ => none
theorem snap_ok {w : World} {b i : Nat} {v : V} {G : Go.Abs.Gh} (h : snap w b i = some v) : V.pcell v = true ∧ ∃ c, w.cell? ⟨b, i, none⟩ = some c ∧ VR G v c := by
 unfold snap at h
 split at h <;> first | (cases h; done) | skip
 ·rename_i s e; cases h; exact ⟨rfl, _, e, .str s⟩
 ·rename_i k n e; cases h; exact ⟨rfl, _, e, .int k n⟩
 ·rename_i x e; cases h; exact ⟨rfl, _, e, .bool x⟩
def snapG (w : World) : Go.Abs.Gh := ⟨snap w, fun _ => none, fun _ _ => none, fun _ => 0⟩
theorem snap_rel (w : World) : Rel (fun _ => []) ⟨w, fun _ => False, snap w⟩ (snapG w) ⟨[], []⟩ w where
 below := .refl _ _ _
 vars := fun id cells h => by simp at h
 varlt := fun id b h => by simp at h
 sc := fun id cells h => by simp at h
 disj := fun i j b ci cj h => by simp at h
 imm := fun b i v h => snap_ok h
 fam := fun t p b e lim h => by simp at h
 famdisj := fun t t' p p' b e l e' l' h => by simp at h
 glob := fun g i v h => by simp at h
 gfix := fun g h => absurd rfl h
 old := fun b i _ => rfl
inductive KA (h : KH) : KV → V → Prop
 | int (k : IntKind) (n : Int) : KA h (.int k n) (.int k n)
 | bool (b : Bool) : KA h (.bool b) (.bool b)
 | str (s : List UInt8) : KA h (.str s.length (natOf s)) (.str s)
 | strs {id off len : Nat} {c : Option Nat} {ro : Bool} {cs : List KV} {es : List (List UInt8)} : h.get id = some (.cells ro cs) → es.length = len → (∀ (i : Nat) (s : List UInt8), es[i]? = some s → cs[off + i]? = some (.str s.length (natOf s))) →
   KA h (.sl id off len c 1) (.sl 1 (es.map fun s => [V.str s]) .none)
def V.toK1 : V → KV
 | .int k n => .int k n
 | .bool b => .bool b
 | .str s => .str s.length (natOf s)
 | _ => .junk
def V.toK : V → KV
 | .tuple vs => .tuple (vs.map V.toK1)
 | v => V.toK1 v
theorem toK1_ok {G : Go.Abs.Gh} {v : V} {c : Value} (G' : Gh) (h : VR G v c) : KR G' (V.toK1 v) c := by
 cases h <;> first | exact .junk _ | exact .int _ _ | exact .bool _ | skip
 rename_i s
 have : s.data.toList.length = s.size := Array.length_toList
 show KR G' (.str s.data.toList.length _) _
 rw [this]; exact .str s
theorem toK_ok {G : Go.Abs.Gh} {v : V} {c : Value} (G' : Gh) (h : VR G v c) : KR G' (V.toK v) c := by
 cases h
 case tuple h1 h2 =>
  refine .tuple (by simpa using h1) fun i x y e1 e2 => ?_
  rw [List.getElem?_map] at e1
  obtain ⟨z, e3, rfl⟩ := Option.map_eq_some_iff.1 e1
  exact toK1_ok G' (h2 i z y e3 e2)
 case str s => exact toK1_ok (G := G) G' (.str s)
 all_goals first | exact KR.junk _ | exact KR.int _ _ | exact KR.bool _
theorem kr_str {G : Gh} {n m : Nat} {c : Value} (k : KR G (.str n m) c) : ∃ t : ByteArray, c = .string t ∧ t.size = n ∧ natOf t.data.toList = m := by
 generalize hx : KV.str n m = x at k
 cases k with
 | str s => injection hx with h1 h2; exact ⟨s, rfl, h1.symm, h2.symm⟩
 | _ => cases hx
theorem ka_vr {B : Base} {G : Gh} {h : KH} {w : World} (kr : KRel B G h w) {x : KV} {v : V} {c : Value} (ka : KA h x v) (k : KR G x c) : VR (snapG w) v c := by
 cases ka with
 | int k n => cases k; exact .int _ _
 | bool b => cases k; exact .bool _
 | str s =>
  obtain ⟨t, rfl, e1, e2⟩ := kr_str k
  have : t.data.toList = s := natOf_inj (by rw [Array.length_toList]; exact e1) e2
  rw [← this]; exact .str t
 | @strs id off len cc ro cs es hid hl hs =>
  subst hl
  cases k with
  | @sl _ _ _ cap _ b o _ ha hle hroom hcap =>
   obtain ⟨b', kk, ob, e1, e2, e3, e4⟩ := kr.blk id _ hid
   have := ha.symm.trans e1
   simp only [Option.some.injEq, Prod.mk.injEq] at this
   obtain ⟨rfl, rfl⟩ := this
   cases e4 with
   | @cells _ _ C el fz a1 a2 a3 a4 =>
    have hlen : (es.map fun s => [V.str s]).length = es.length := List.length_map _
    have hrow : RowAt (snapG w) b (o + off) 1 (es.map fun s => [V.str s]) := by
     intro i e he
     rw [List.getElem?_map] at he
     cases hes : es[i]? with
     | none => rw [hes] at he; simp at he
     | some s =>
      rw [hes] at he
      simp only [Option.map_some, Option.some.injEq] at he
      subst he
      refine ⟨rfl, fun j v hj => ?_⟩
      cases j with
      | succ j => simp at hj
      | zero =>
       simp only [List.getElem?_cons_zero, Option.some.injEq] at hj
       subst hj
       have hc := hs i s hes
       have hi : off + i < cs.length := by
        rcases Nat.lt_or_ge (off + i) cs.length with h | h
        ·exact h
        ·rw [List.getElem?_eq_none h] at hc; cases hc
       have hC : o + (off + i) < C.size := by omega
       have k1 := a4 (off + i) _ C[o + (off + i)] hc (by simp [hC])
       have hcell : w.cell? ⟨b, o + off + i * 1 + 0, none⟩ = some C[o + (off + i)] := by
        rw [cell_of_heap e3, show o + off + i * 1 + 0 = o + (off + i) by omega]
        simp [hC]
       refine .of ?_
       show snap w b (o + off + i * 1 + 0) = some (.str s)
       unfold snap
       rw [hcell]
       generalize C[o + (off + i)] = cv at k1
       obtain ⟨t, rfl, e1, e2⟩ := kr_str k1
       have : t.data.toList = s := natOf_inj (by rw [Array.length_toList]; exact e1) e2
       simp only [this]
    have := VR.sl (G := snapG w) (tok := .none) (cap := cap) hrow trivial (by rw [hlen]; exact hle)
    rw [hlen] at this
    exact this
theorem KCall.ofA {P : Program} {f : FuncId} {args : List KV} {vs : List V} {h : KH} {v : V} (ha : ACalls P (fun _ => []) f vs ⟨[], []⟩ fun u _ => u = v) (hl : args.length = vs.length) (hx : ∀ (i : Nat) (x : KV) (y : V), args[i]? = some x → vs[i]? = some y → KA h x y) : KCall P f args h (V.toK v) h := by
 intro B G w cargs n hg kr hargs
 have hv : VRs (snapG w) vs cargs := ⟨hl ▸ hargs.1, fun i y c e1 e2 => by
  have : i < args.length := by
   rcases Nat.lt_or_ge i vs.length with h | h
   ·omega
   ·rw [List.getElem?_eq_none h] at e1; cases e1
  exact ka_vr kr (hx i args[i] y (by simp [this]) e1) (hargs.2 i args[i] c (by simp [this]) e2)⟩
 have hsc : V.scs ⟨[], []⟩ vs := by
  refine (V.scs_iff _ _).2 fun y hy => ?_
  obtain ⟨i, hi, rfl⟩ := List.getElem_of_mem hy
  have := hx i args[i] vs[i] (by simp [hl, hi]) (by simp [hi])
  generalize vs[i] = y, args[i] = x at this
  cases this <;> trivial
 refine callsIn_wide.2 ((ha.2 ⟨w, fun _ => False, snap w⟩ (snapG w) w cargs (snap_rel w) hv hsc).mono ?_)
 rintro e w' ⟨r, c, st', G2, rfl, rfl, g1, _, g2, _⟩
 exact ⟨c, G, rfl, .refl _, toK_ok G g1, kr.keep g2.below⟩
noncomputable def memoC (X : QX) (n N0 : Nat) (f : FuncId) (args : List KV) (h : KH) : Option (KV × KH) :=
 bif' (KV.frees args) (Option.rec (motive := fun _ => KH → Option (KV × KH)) (fun _ => none) (fun p h => bif' p.1.free (some (p.1, h)) none) ((qgo X n).call f args ⟨N64k.empty, N0⟩ fun v h => some (v, h)) h) none
theorem memoC_ok {P : Program} {X : QX} (ok : X.Ok P) {n N0 : Nat} (h1 : P.globals.size ≤ N0) (h2 : N0 < 65000) {f : FuncId} {args : List KV} {h h' : KH} {v : KV} (e : memoC X n N0 f args h = some (v, h')) : KCall P f args h v h' := by
 unfold memoC at e
 rw [bif'_eq] at e
 split at e
 ·rename_i ha
  cases hc : (qgo X n).call f args ⟨N64k.empty, N0⟩ (fun v h => some (v, h)) with
  | none => rw [hc] at e; cases e
  | some p =>
   rw [hc] at e
   have e : bif' p.1.free (some (p.1, h)) none = some (v, h') := e
   rw [bif'_eq] at e
   split at e
   ·rename_i hr
    simp only [Option.some.injEq, Prod.mk.injEq] at e
    obtain ⟨rfl, rfl⟩ := e
    obtain ⟨v, h0'⟩ := p
    have emp : ∀ id o, (⟨N64k.empty, N0⟩ : KH).get id = some o → False := fun id o ho => by
     have : (⟨N64k.empty, N0⟩ : KH).get id = none := N64k.get_empty _
     rw [this] at ho; cases ho
    exact (qgo_call ok hc).memo ⟨h2, h1, fun id o ho => (emp id o ho).elim⟩ (fun id o ho => (emp id o ho).elim) ha hr
   ·cases e
 ·cases e
def pv : Nat → (Nat → Nat) → Nat
 | 0, _ => 0
 | n + 1, f => f 0 + 18446744073709551616 * pv n fun i => f (i + 1)
theorem pv_add : ∀ n f g, pv n f + pv n g = pv n fun i => f i + g i
 | 0, f, g => rfl
 | n + 1, f, g => by simp only [pv, ← pv_add n]; omega
theorem pv_mul : ∀ n f c, pv n f * c = pv n fun i => f i * c
 | 0, f, c => by simp [pv]
 | n + 1, f, c => by simp only [pv, ← pv_mul n, Nat.add_mul, Nat.mul_assoc]
theorem pv_congr : ∀ {n f g}, (∀ i, i < n → f i = g i) → pv n f = pv n g
 | 0, f, g, h => rfl
 | n + 1, f, g, h => by
  simp only [pv]
  rw [h 0 (Nat.succ_pos n), pv_congr (n := n) (g := fun i => g (i + 1)) fun i hi => h (i + 1) (Nat.succ_lt_succ hi)]
theorem tb64 (x : Nat) {a : Nat} (h : a < 18446744073709551616) (j : Nat) : (a + 18446744073709551616 * x).testBit j = if j < 64 then a.testBit j else x.testBit (j - 64) := by
 rw [Nat.add_comm, show (18446744073709551616 : Nat) = 2 ^ 64 from rfl]
 exact Nat.testBit_two_pow_mul_add x h j
theorem xor64 {a b : Nat} (x y : Nat) (ha : a < 18446744073709551616) (hb : b < 18446744073709551616) : (a + 18446744073709551616 * x) ^^^ (b + 18446744073709551616 * y) = (a ^^^ b) + 18446744073709551616 * (x ^^^ y) := by
 refine Nat.eq_of_testBit_eq fun j => ?_
 rw [Nat.testBit_xor, tb64 x ha, tb64 y hb, tb64 _ (Nat.xor_lt_two_pow (n := 64) ha hb)]
 split <;> rw [Nat.testBit_xor]
theorem and64 {a b : Nat} (x y : Nat) (ha : a < 18446744073709551616) (hb : b < 18446744073709551616) : (a + 18446744073709551616 * x) &&& (b + 18446744073709551616 * y) = (a &&& b) + 18446744073709551616 * (x &&& y) := by
 refine Nat.eq_of_testBit_eq fun j => ?_
 rw [Nat.testBit_and, tb64 x ha, tb64 y hb, tb64 _ (Nat.and_lt_two_pow (n := 64) _ hb)]
 split <;> rw [Nat.testBit_and]
theorem pv_xor : ∀ {n f g}, (∀ i, f i < 18446744073709551616) → (∀ i, g i < 18446744073709551616) → pv n f ^^^ pv n g = pv n fun i => f i ^^^ g i
 | 0, f, g, _, _ => by simp [pv]
 | n + 1, f, g, hf, hg => by
  simp only [pv]
  rw [xor64 _ _ (hf 0) (hg 0), pv_xor (fun i => hf (i + 1)) (fun i => hg (i + 1))]
theorem pv_and : ∀ {n f g}, (∀ i, f i < 18446744073709551616) → (∀ i, g i < 18446744073709551616) → pv n f &&& pv n g = pv n fun i => f i &&& g i
 | 0, f, g, _, _ => by simp [pv]
 | n + 1, f, g, hf, hg => by
  simp only [pv]
  rw [and64 _ _ (hf 0) (hg 0), pv_and (fun i => hf (i + 1)) (fun i => hg (i + 1))]
theorem tb_hi {m j : Nat} (hm : m < 4294967296) (hj : 32 ≤ j) : m.testBit j = false := Nat.testBit_lt_two_pow (Nat.lt_of_lt_of_le hm (Nat.pow_le_pow_right (n := 2) (by decide) hj))
theorem shr64 {a m : Nat} (x y : Nat) {k : Nat} (hk : k ≤ 32) (ha : a < 18446744073709551616) (hm : m < 4294967296) : ((a + 18446744073709551616 * x) >>> k) &&& (m + 18446744073709551616 * y) = ((a >>> k) &&& m) + 18446744073709551616 * ((x >>> k) &&& y) := by
 have hm64 : m < 18446744073709551616 := by omega
 refine Nat.eq_of_testBit_eq fun j => ?_
 rw [Nat.testBit_and, Nat.testBit_shiftRight, tb64 x ha, tb64 y hm64, tb64 _ (Nat.and_lt_two_pow (n := 64) _ hm64)]
 by_cases h1 : j < 32
 ·rw [if_pos (by omega), if_pos (by omega), if_pos (by omega), Nat.testBit_and, Nat.testBit_shiftRight]
 ·by_cases h2 : j < 64
  ·rw [if_pos h2, if_pos h2, tb_hi hm (by omega), Nat.testBit_and, tb_hi hm (by omega), Bool.and_false, Bool.and_false]
  ·rw [if_neg (by omega), if_neg h2, if_neg h2, Nat.testBit_and, Nat.testBit_shiftRight, show k + j - 64 = k + (j - 64) by omega]
theorem pv_shr {k : Nat} (hk : k ≤ 32) {m : Nat} (hm : m < 4294967296) : ∀ {n f}, (∀ i, f i < 18446744073709551616) → (pv n f >>> k) &&& pv n (fun _ => m) = pv n fun i => (f i >>> k) &&& m
 | 0, f, _ => by simp [pv]
 | n + 1, f, hf => by
  simp only [pv]
  rw [shr64 _ _ hk (hf 0) hm, pv_shr hk hm (fun i => hf (i + 1))]
theorem and32 (x : Nat) : x &&& 4294967295 = x % 4294967296 := Nat.and_two_pow_sub_one_eq_mod x 32
theorem pv_mod {n f} (hf : ∀ i, f i < 18446744073709551616) : pv n f &&& pv n (fun _ => 4294967295) = pv n fun i => f i % 4294967296 := by
 rw [pv_and hf (fun _ => by decide)]
 simp only [and32]
theorem pv_lt : ∀ {n f}, (∀ i, f i < 18446744073709551616) → pv n f < 2 ^ (64 * n)
 | 0, f, _ => by simp [pv]
 | n + 1, f, h => by
  have h0 := h 0
  have h1 := pv_lt (n := n) fun i => h (i + 1)
  have e : 2 ^ (64 * (n + 1)) = 18446744073709551616 * 2 ^ (64 * n) := by rw [Nat.mul_add, Nat.pow_add, Nat.mul_comm]
  rw [e]; simp only [pv]; omega
end Go.K
end
section
namespace Go.K
open Go Go.Abs
def pkW : List Nat → Nat
 | [] => 0
 | x :: l => x + 4294967296 * pkW l
theorem pkW_snoc : ∀ (l : List Nat) (y : Nat), pkW (l ++ [y]) = pkW l + 4294967296 ^ l.length * y
 | [], y => by simp [pkW]
 | x :: l, y => by
  simp only [List.cons_append, pkW, pkW_snoc l y, List.length_cons, Nat.pow_succ, Nat.mul_add, Nat.add_assoc]
  congr 2
  rw [← Nat.mul_assoc, Nat.mul_comm 4294967296 (4294967296 ^ l.length)]
theorem pkW_lane : ∀ (l : List Nat) (i : Nat), (∀ x ∈ l, x < 4294967296) → pkW l / 4294967296 ^ i % 4294967296 = l.getD i 0
 | [], i, h => by simp [pkW]
 | x :: l, 0, h => by
  have := h x (by simp)
  simp only [pkW, Nat.pow_zero, Nat.div_one, List.getD_cons_zero]
  omega
 | x :: l, i + 1, h => by
  have hx := h x (by simp)
  have e : (x + 4294967296 * pkW l) / 4294967296 = pkW l := by omega
  rw [pkW, Nat.pow_succ, Nat.mul_comm (4294967296 ^ i) 4294967296, ← Nat.div_div_eq_div_mul, e, List.getD_cons_succ]
  exact pkW_lane l i fun y hy => h y (List.mem_cons_of_mem _ hy)
theorem rotX {x n : Nat} (hx : x < 4294967296) (hn : n ≤ 32) : (x * 4294967297) / 2 ^ n % 4294967296 = rot x n := by
 have e32 : (4294967296 : Nat) = 2 ^ n * 2 ^ (32 - n) := by rw [← Nat.pow_add, show n + (32 - n) = 32 by omega]
 have e1 : x * 4294967297 = 2 ^ n * (x * 2 ^ (32 - n)) + x := by
  rw [show x * 4294967297 = x * 4294967296 + x by omega, e32]
  congr 1
  rw [← Nat.mul_assoc, Nat.mul_comm x, Nat.mul_assoc (2 ^ n)]
 have e2 : (x * 4294967297) / 2 ^ n = x * 2 ^ (32 - n) + x / 2 ^ n := by rw [e1, Nat.mul_add_div (Nat.two_pow_pos n)]
 have hlt : x / 2 ^ n < 2 ^ (32 - n) := by
  rw [Nat.div_lt_iff_lt_mul (Nat.two_pow_pos n), Nat.mul_comm, ← e32]; exact hx
 have e3 : x * 2 ^ (32 - n) % 4294967296 = 2 ^ (32 - n) * (x % 2 ^ n) := by
  rw [e32, Nat.mul_comm x, Nat.mul_comm (2 ^ n), Nat.mul_mod_mul_left]
 have e4 : (x * 2 ^ (32 - n) + x / 2 ^ n) % 4294967296 = 2 ^ (32 - n) * (x % 2 ^ n) + x / 2 ^ n := by
  rw [← Nat.mod_add_mod, e3]
  refine Nat.mod_eq_of_lt ?_
  have hm : x % 2 ^ n < 2 ^ n := Nat.mod_lt _ (Nat.two_pow_pos n)
  calc 2 ^ (32 - n) * (x % 2 ^ n) + x / 2 ^ n < 2 ^ (32 - n) * (x % 2 ^ n) + 2 ^ (32 - n) := Nat.add_lt_add_left hlt _
   _ = 2 ^ (32 - n) * (x % 2 ^ n + 1) := by rw [Nat.mul_add, Nat.mul_one]
   _ ≤ 2 ^ (32 - n) * 2 ^ n := Nat.mul_le_mul_left _ hm
   _ = 4294967296 := by rw [Nat.mul_comm, ← e32]
 rw [e2, e4, Nat.two_pow_add_eq_or_of_lt hlt, rot, e3, Nat.or_comm]
theorem xor_mod (a b : Nat) : (a ^^^ b) % 4294967296 = a % 4294967296 ^^^ b % 4294967296 := Nat.xor_mod_two_pow (n := 32)
def xN (X i j k : Nat) : Nat := Nat.mod (Nat.xor (Nat.xor (Nat.div X i) (Nat.div X j)) (Nat.div X k)) 4294967296
def yN (X x i j k : Nat) : Nat := Nat.xor (Nat.mod (Nat.xor (Nat.div X i) (Nat.div X j)) 4294967296) (Nat.div x k)
def dbl (x : Nat) : Nat := Nat.mul x 4294967297
theorem xN_S1 {x : Nat} (h : x < 4294967296) : xN (dbl x) 64 2048 33554432 = bS1 x := by
 show (((x * 4294967297) / 2 ^ 6 ^^^ (x * 4294967297) / 2 ^ 11) ^^^ (x * 4294967297) / 2 ^ 25) % 4294967296 = _
 rw [xor_mod, xor_mod, rotX h (by decide), rotX h (by decide), rotX h (by decide)]; rfl
theorem xN_S0 {x : Nat} (h : x < 4294967296) : xN (dbl x) 4 8192 4194304 = bS0 x := by
 show (((x * 4294967297) / 2 ^ 2 ^^^ (x * 4294967297) / 2 ^ 13) ^^^ (x * 4294967297) / 2 ^ 22) % 4294967296 = _
 rw [xor_mod, xor_mod, rotX h (by decide), rotX h (by decide), rotX h (by decide)]; rfl
theorem yN_s0 {x : Nat} (h : x < 4294967296) : yN (dbl x) x 128 262144 8 = sg0 x := by
 show (((x * 4294967297) / 2 ^ 7 ^^^ (x * 4294967297) / 2 ^ 18) % 4294967296) ^^^ x / 8 = _
 rw [xor_mod, rotX h (by decide), rotX h (by decide)]; rfl
theorem yN_s1 {x : Nat} (h : x < 4294967296) : yN (dbl x) x 131072 524288 1024 = sg1 x := by
 show (((x * 4294967297) / 2 ^ 17 ^^^ (x * 4294967297) / 2 ^ 19) % 4294967296) ^^^ x / 1024 = _
 rw [xor_mod, rotX h (by decide), rotX h (by decide)]; rfl
section
variable {R : Type}
noncomputable def rdK (ks : List Nat) : Nat → Nat → Nat → Nat → Nat → Nat → Nat → Nat → Nat → (Nat → Nat → Nat → Nat → Nat → Nat → Nat → Nat → R) → R :=
 List.rec (motive := fun _ => Nat → Nat → Nat → Nat → Nat → Nat → Nat → Nat → Nat → (Nat → Nat → Nat → Nat → Nat → Nat → Nat → Nat → R) → R) (fun _ a b c d e f g h K => K a b c d e f g h)
  (fun k _ ih W a b c d e f g h K => nfc (dbl e) fun e2 => nfc (Nat.add (Nat.add (Nat.add (Nat.add h (xN e2 64 2048 33554432)) (Nat.xor (Nat.land e f) (Nat.land (Nat.xor 4294967295 e) g))) k) (Nat.mod W 4294967296)) fun t =>
   nfc (dbl a) fun a2 => nfc (Nat.mod (Nat.add t (Nat.add (xN a2 4 8192 4194304) (Nat.xor (Nat.xor (Nat.land a b) (Nat.land a c)) (Nat.land b c)))) 4294967296) fun na => nfc (Nat.mod (Nat.add d t) 4294967296) fun ne =>
   nfc (Nat.mod (Nat.div W 4294967296) 4294967296) fun w1 => nfc (dbl w1) fun w12 => nfc (Nat.mod (Nat.div W (Nat.pow 4294967296 14)) 4294967296) fun w14 => nfc (dbl w14) fun w142 =>
   nfc (Nat.add (Nat.div W 4294967296) (Nat.mul (Nat.pow 4294967296 15) (Nat.mod (Nat.add (Nat.add (Nat.add (Nat.mod W 4294967296) (yN w12 w1 128 262144 8)) (Nat.mod (Nat.div W (Nat.pow 4294967296 9)) 4294967296)) (yN w142 w14 131072 524288 1024)) 4294967296))) fun W2 =>
   ih W2 na a b c ne e f g K) ks
end
theorem pk_next {l : List Nat} (hl : l.length = 16) (hx : ∀ x ∈ l, x < 4294967296) :
  Nat.add (Nat.div (pkW l) 4294967296) (Nat.mul (Nat.pow 4294967296 15) (newW l)) = pkW (l.drop 1 ++ [newW l]) := by
 match l, hl with
 | x :: l, hl =>
  have h0 := hx x (by simp)
  have e : (x + 4294967296 * pkW l) / 4294967296 = pkW l := by omega
  show (x + 4294967296 * pkW l) / 4294967296 + 4294967296 ^ 15 * newW (x :: l) = _
  rw [e, List.drop_one, List.tail_cons, pkW_snoc, show l.length = 15 by simpa using hl]
theorem newW_cons (x : Nat) (l : List Nat) (h : 16 ≤ l.length) : newW (x :: l) = newW l := by
 unfold newW
 rw [List.length_cons, show l.length + 1 - 16 = (l.length - 16) + 1 by omega, show l.length + 1 - 15 = (l.length - 15) + 1 by omega, show l.length + 1 - 7 = (l.length - 7) + 1 by omega, show l.length + 1 - 2 = (l.length - 2) + 1 by omega]
 rfl
theorem extW_cons : ∀ (n x : Nat) {l : List Nat} (h : 16 ≤ l.length), extW n (x :: l) = x :: extW n l
 | 0, x, l, h => rfl
 | n + 1, x, l, h => by
  rw [extW, extW, newW_cons x l h, List.cons_append, extW_cons n x (by simp; omega)]
theorem extW_pre : ∀ (n : Nat) (l : List Nat), ∃ r, extW n l = l ++ r
 | 0, l => ⟨[], by simp [extW]⟩
 | n + 1, l => by
  obtain ⟨r, h⟩ := extW_pre n (l ++ [newW l])
  exact ⟨newW l :: r, by rw [extW, h, List.append_assoc]; rfl⟩
theorem extW_add : ∀ (m n : Nat) (l : List Nat), extW (m + n) l = extW n (extW m l)
 | 0, n, l => by simp [extW]
 | m + 1, n, l => by rw [show m + 1 + n = (m + n) + 1 by omega, extW, extW_add m n]; rfl
theorem run_pre : ∀ (ks ws r : List Nat) (s : H8), ks.length ≤ ws.length → s.run ks (ws ++ r) = s.run ks ws
 | [], ws, r, s, h => by simp [H8.run]
 | k :: ks, [], r, s, h => by simp at h
 | k :: ks, w :: ws, r, s, h => by
  rw [List.cons_append, H8.run, H8.run]
  exact run_pre ks ws r _ (by simpa using h)
theorem rdK_eq {R : Type} (K : Nat → Nat → Nat → Nat → Nat → Nat → Nat → Nat → R) : ∀ (ks : List Nat) (l : List Nat) (s : H8), l.length = 16 → (∀ x ∈ l, x < 4294967296) → s.lt → ∀ S : H8, S = s.run ks (extW ks.length l) → rdK ks (pkW l) s.a s.b s.c s.d s.e s.f s.g s.h K = K S.a S.b S.c S.d S.e S.f S.g S.h
 | [], l, s, hl, hx, hs, S, hS => by subst hS; rfl
 | k :: ks, l, s, hl, hx, hs, S, hS => by
  have he := hs.2.2.2.2.1
  have ha := hs.1
  have lane := fun i => pkW_lane l i hx
  have l0 : Nat.mod (pkW l) 4294967296 = l.getD 0 0 := by have := lane 0; rw [Nat.pow_zero, Nat.div_one] at this; exact this
  have l1 : Nat.mod (Nat.div (pkW l) 4294967296) 4294967296 = l.getD 1 0 := by have := lane 1; rw [Nat.pow_one] at this; exact this
  have l9 : Nat.mod (Nat.div (pkW l) (Nat.pow 4294967296 9)) 4294967296 = l.getD 9 0 := lane 9
  have l14 : Nat.mod (Nat.div (pkW l) (Nat.pow 4294967296 14)) 4294967296 = l.getD 14 0 := lane 14
  have b1 := getD_lt hx 1
  have b14 := getD_lt hx 14
  have eN : Nat.mod (Nat.add (Nat.add (Nat.add (l.getD 0 0) (sg0 (l.getD 1 0))) (l.getD 9 0)) (sg1 (l.getD 14 0))) 4294967296 = newW l := by
   show (l.getD 0 0 + sg0 (l.getD 1 0) + l.getD 9 0 + sg1 (l.getD 14 0)) % 4294967296 = _
   unfold newW m32
   rw [hl]
   simp only [show 16 - 16 = 0 from rfl, show 16 - 15 = 1 from rfl, show 16 - 7 = 9 from rfl, show 16 - 2 = 14 from rfl]
   omega
  have step : rdK (k :: ks) (pkW l) s.a s.b s.c s.d s.e s.f s.g s.h K = rdK ks (pkW (l.drop 1 ++ [newW l])) (s.step k (l.getD 0 0)).a (s.step k (l.getD 0 0)).b (s.step k (l.getD 0 0)).c (s.step k (l.getD 0 0)).d (s.step k (l.getD 0 0)).e (s.step k (l.getD 0 0)).f (s.step k (l.getD 0 0)).g (s.step k (l.getD 0 0)).h K := by
   unfold rdK
   dsimp only
   simp only [nfc_eq]
   rw [l0, l1, l9, l14, xN_S1 he, xN_S0 ha, yN_s0 b1, yN_s1 b14, eN, pk_next hl hx]
   have q1 : Nat.mod (Nat.add (Nat.add (Nat.add (Nat.add (Nat.add s.h (bS1 s.e)) (Nat.xor (Nat.land s.e s.f) (Nat.land (Nat.xor 4294967295 s.e) s.g))) k) (l.getD 0 0)) (Nat.add (bS0 s.a) (Nat.xor (Nat.xor (Nat.land s.a s.b) (Nat.land s.a s.c)) (Nat.land s.b s.c)))) 4294967296 = (s.step k (l.getD 0 0)).a := by
    show (s.h + bS1 s.e + chN s.e s.f s.g + k + l.getD 0 0 + (bS0 s.a + mjN s.a s.b s.c)) % 4294967296 = m32 (tN s k (l.getD 0 0) + m32 (bS0 s.a + mjN s.a s.b s.c))
    unfold tN m32
    omega
   have q2 : Nat.mod (Nat.add s.d (Nat.add (Nat.add (Nat.add (Nat.add s.h (bS1 s.e)) (Nat.xor (Nat.land s.e s.f) (Nat.land (Nat.xor 4294967295 s.e) s.g))) k) (l.getD 0 0))) 4294967296 = (s.step k (l.getD 0 0)).e := by
    show (s.d + (s.h + bS1 s.e + chN s.e s.f s.g + k + l.getD 0 0)) % 4294967296 = m32 (s.d + tN s k (l.getD 0 0))
    unfold tN m32
    omega
   rw [q1, q2]
   rfl
  rw [step]
  refine rdK_eq K ks _ _ (by simp [hl]) (fun x h => ?_) (H8.step_lt hs _ _) S ?_
  ·rcases List.mem_append.1 h with h | h
   ·exact hx x (List.mem_of_mem_drop h)
   ·simp at h; subst h; exact newW_lt _
  ·rw [hS]
   match l, hl with
   | x :: l', hl =>
    have e : extW (ks.length + 1) (x :: l') = x :: extW ks.length (l' ++ [newW (x :: l')]) := by
     rw [extW, List.cons_append, extW_cons _ _ (by simp at hl ⊢; omega)]
    rw [List.length_cons, e]
    rfl
theorem run_64 (s : H8) (ws : List Nat) (h : ws.length = 16) : s.run kW (extW kW.length ws) = s.run kW (extW 48 ws) := by
 rw [show kW.length = 48 + 16 from rfl, extW_add]
 obtain ⟨r, e⟩ := extW_pre 16 (extW 48 ws)
 rw [e, run_pre _ _ _ _ (by rw [extW_len, h]; decide)]
noncomputable def blkK {R : Type} (W a b c d e f g h : Nat) (K : Nat → Nat → Nat → Nat → Nat → Nat → Nat → Nat → R) : R :=
 rdK kW W a b c d e f g h fun a' b' c' d' e' f' g' h' => nfc (Nat.mod (Nat.add a' a) 4294967296) fun a => nfc (Nat.mod (Nat.add b' b) 4294967296) fun b => nfc (Nat.mod (Nat.add c' c) 4294967296) fun c => nfc (Nat.mod (Nat.add d' d) 4294967296) fun d => nfc (Nat.mod (Nat.add e' e) 4294967296) fun e => nfc (Nat.mod (Nat.add f' f) 4294967296) fun f => nfc (Nat.mod (Nat.add g' g) 4294967296) fun g => nfc (Nat.mod (Nat.add h' h) 4294967296) fun h => K a b c d e f g h
theorem blkK_eq {R : Type} (ws : List Nat) (hl : ws.length = 16) (hx : ∀ x ∈ ws, x < 4294967296) (s : H8) (hs : s.lt) (K : Nat → Nat → Nat → Nat → Nat → Nat → Nat → Nat → R) :
  blkK (pkW ws) s.a s.b s.c s.d s.e s.f s.g s.h K = K (s.block ws).a (s.block ws).b (s.block ws).c (s.block ws).d (s.block ws).e (s.block ws).f (s.block ws).g (s.block ws).h := by
 unfold blkK
 rw [rdK_eq _ kW ws s hl hx hs (s.run kW (extW 48 ws)) (run_64 s ws hl).symm]
 simp only [nfc_eq]
 have e : ∀ x y : Nat, Nat.mod (Nat.add x y) 4294967296 = m32 (y + x) := fun x y => by
  show (x + y) % 4294967296 = m32 (y + x)
  rw [Nat.add_comm]; rfl
 simp only [e]
 rfl
def w4K (m : Nat) : Nat := Nat.add (Nat.add (Nat.add (Nat.mul (Nat.mod m 256) 16777216) (Nat.mul (Nat.mod (Nat.div m 256) 256) 65536)) (Nat.mul (Nat.mod (Nat.div m 65536) 256) 256)) (Nat.mod (Nat.div m 16777216) 256)
noncomputable def pbK (n : Nat) : Nat → Nat := Nat.rec (motive := fun _ => Nat → Nat) (fun _ => 0) (fun _ ih m => nfc (Nat.div m 4294967296) fun m' => Nat.add (w4K m) (Nat.mul 4294967296 (ih m'))) n
theorem pbK_eq : ∀ (n : Nat) (b : List UInt8), 4 * n ≤ b.length → pbK n (natOf b) = pkW (words (b.take (4 * n)))
 | 0, b, h => rfl
 | n + 1, x :: y :: z :: w :: l, h => by
  have e0 : pbK (n + 1) (natOf (x :: y :: z :: w :: l)) = nfc (Nat.div (natOf (x :: y :: z :: w :: l)) 4294967296) fun m' => Nat.add (w4K (natOf (x :: y :: z :: w :: l))) (Nat.mul 4294967296 (pbK n m')) := rfl
  have hx := x.toNat_lt; have hy := y.toNat_lt; have hz := z.toNat_lt; have hw := w.toNat_lt
  have en : natOf (x :: y :: z :: w :: l) = x.toNat + 256 * (y.toNat + 256 * (z.toNat + 256 * (w.toNat + 256 * natOf l))) := rfl
  have e1 : Nat.div (natOf (x :: y :: z :: w :: l)) 4294967296 = natOf l := by
   show natOf (x :: y :: z :: w :: l) / 4294967296 = _
   rw [en]; omega
  have e2 : w4K (natOf (x :: y :: z :: w :: l)) = word4 x.toNat y.toNat z.toNat w.toNat := by
   show (natOf (x :: y :: z :: w :: l) % 256) * 16777216 + (natOf (x :: y :: z :: w :: l) / 256 % 256) * 65536 + (natOf (x :: y :: z :: w :: l) / 65536 % 256) * 256 + natOf (x :: y :: z :: w :: l) / 16777216 % 256 = _
   rw [en]; unfold word4; omega
  rw [e0, nfc_eq, e1, e2, pbK_eq n l (by simp at h; omega), show 4 * (n + 1) = 4 * n + 1 + 1 + 1 + 1 by omega]
  rfl
 | n + 1, [], h => by simp at h
 | n + 1, [_], h => by simp at h; try omega
 | n + 1, [_, _], h => by simp at h; try omega
 | n + 1, [_, _, _], h => by simp at h; try omega
section
variable {R : Type}
noncomputable def blksK (n : Nat) : Nat → Nat → Nat → Nat → Nat → Nat → Nat → Nat → Nat → (Nat → Nat → Nat → Nat → Nat → Nat → Nat → Nat → R) → R :=
 Nat.rec (motive := fun _ => Nat → Nat → Nat → Nat → Nat → Nat → Nat → Nat → Nat → (Nat → Nat → Nat → Nat → Nat → Nat → Nat → Nat → R) → R) (fun _ a b c d e f g h K => K a b c d e f g h)
  (fun _ ih M a b c d e f g h K => nfc (pbK 16 M) fun W => nfc (Nat.div M (Nat.pow 256 64)) fun M => blkK W a b c d e f g h fun a b c d e f g h => ih M a b c d e f g h K) n
theorem blksK_eq (K : Nat → Nat → Nat → Nat → Nat → Nat → Nat → Nat → R) : ∀ (n : Nat) (l : List UInt8) (s : H8), 64 * n ≤ l.length → s.lt → ∀ S : H8, S = H8.blk n s l → blksK n (natOf l) s.a s.b s.c s.d s.e s.f s.g s.h K = K S.a S.b S.c S.d S.e S.f S.g S.h
 | 0, l, s, hl, hs, S, hS => by subst hS; rfl
 | n + 1, l, s, hl, hs, S, hS => by
  have e0 : blksK (n + 1) (natOf l) s.a s.b s.c s.d s.e s.f s.g s.h K = nfc (pbK 16 (natOf l)) fun W => nfc (Nat.div (natOf l) (Nat.pow 256 64)) fun M => blkK W s.a s.b s.c s.d s.e s.f s.g s.h fun a b c d e f g h => blksK n M a b c d e f g h K := rfl
  have e1 : Nat.div (natOf l) (Nat.pow 256 64) = natOf (l.drop 64) := (natOf_drop l 64).symm
  have hl16 : (words (l.take 64)).length = 16 := words_len _ (by simp; omega)
  have ep : pbK 16 (natOf l) = pkW (words (l.take 64)) := pbK_eq 16 l (by omega)
  rw [e0, nfc_eq, nfc_eq, e1, ep, blkK_eq _ hl16 (words_lt _) s hs]
  exact blksK_eq K n (l.drop 64) (s.block (words (l.take 64))) (by simp; omega) (block_lt _ _) S hS
end
def o4K (x : Nat) : Nat := Nat.add (Nat.mod (Nat.div x 16777216) 256) (Nat.mul 256 (Nat.add (Nat.mod (Nat.div x 65536) 256) (Nat.mul 256 (Nat.add (Nat.mod (Nat.div x 256) 256) (Nat.mul 256 (Nat.mod x 256))))))
theorem o4K_eq (x : Nat) : natOf (be4 x) = o4K x := by
 have h : ∀ y : Nat, (UInt8.ofNat y).toNat = y % 256 := fun y => by simp [UInt8.toNat_ofNat']
 show (UInt8.ofNat (x / 16777216)).toNat + 256 * ((UInt8.ofNat (x / 65536)).toNat + 256 * ((UInt8.ofNat (x / 256)).toNat + 256 * ((UInt8.ofNat x).toNat + 256 * 0))) = _
 rw [h, h, h, h]; rfl
def outK (a b c d e f g h : Nat) : Nat := Nat.add (o4K a) (Nat.mul 4294967296 (Nat.add (o4K b) (Nat.mul 4294967296 (Nat.add (o4K c) (Nat.mul 4294967296 (Nat.add (o4K d) (Nat.mul 4294967296 (Nat.add (o4K e) (Nat.mul 4294967296 (Nat.add (o4K f) (Nat.mul 4294967296 (Nat.add (o4K g) (Nat.mul 4294967296 (o4K h))))))))))))))
theorem outK_eq (s : H8) : natOf s.bytes = outK s.a s.b s.c s.d s.e s.f s.g s.h := by
 have n4 : ∀ (x : Nat) (l : List UInt8), natOf (be4 x ++ l) = o4K x + 4294967296 * natOf l := fun x l => by rw [natOf_append, o4K_eq, show (be4 x).length = 4 from rfl, show (256 : Nat) ^ 4 = 4294967296 from rfl]
 unfold H8.bytes
 simp only [List.append_assoc, n4, o4K_eq]
 rfl
noncomputable def beK (k x : Nat) : Nat := Nat.rec (motive := fun _ => Nat) 0 (fun k ih => Nat.add (Nat.mod (Nat.div x (Nat.pow 256 k)) 256) (Nat.mul 256 ih)) k
theorem beK_eq (x : Nat) : ∀ k, natOf (u8s (beN k x)) = beK k x
 | 0 => rfl
 | k + 1 => by
  have e : beK (k + 1) x = x / 256 ^ k % 256 + 256 * beK k x := rfl
  rw [e, ← beK_eq x k]
  show (UInt8.ofNat (x / 256 ^ k % 256)).toNat + 256 * natOf (u8s (beN k x)) = _
  rw [UInt8.toNat_ofNat', Nat.mod_mod]
noncomputable def padK (n : Nat) : Nat := nfc (Nat.mul 8 n) fun x => Nat.add 128 (Nat.mul (Nat.pow 256 (Nat.add (Nat.mod (Nat.sub 119 (Nat.mod n 64)) 64) 1)) (beK 8 x))
theorem natOf_zeros : ∀ p : Nat, natOf (u8s (List.replicate p 0)) = 0
 | 0 => rfl
 | p + 1 => by
  show (UInt8.ofNat 0).toNat + 256 * natOf (u8s (List.replicate p 0)) = 0
  rw [natOf_zeros p]; rfl
theorem padK_eq (n : Nat) : natOf (u8s (padL n)) = padK n := by
 unfold padK padL
 rw [nfc_eq]
 have e : u8s (128 :: (List.replicate (padN n) 0 ++ beN 8 (8 * n))) = u8s [128] ++ (u8s (List.replicate (padN n) 0) ++ u8s (beN 8 (8 * n))) := by simp [u8s]
 rw [e, natOf_append, natOf_append, natOf_zeros, beK_eq]
 show 128 + 256 * 0 + 256 ^ 1 * (0 + 256 ^ (u8s (List.replicate (padN n) 0)).length * beK 8 (8 * n)) = 128 + 256 ^ ((119 - n % 64) % 64 + 1) * beK 8 (8 * n)
 rw [show (u8s (List.replicate (padN n) 0)).length = padN n by simp [u8s], Nat.pow_one, Nat.zero_add, ← Nat.mul_assoc, Nat.mul_comm 256 (256 ^ padN n), ← Nat.pow_succ]
 rfl
noncomputable def shaK {R : Type} (n m : Nat) (K : Nat → R) : R :=
 nfc (Nat.add m (Nat.mul (Nat.pow 256 n) (padK n))) fun M => blksK (Nat.div (Nat.add n 72) 64) M 1779033703 3144134277 1013904242 2773480762 1359893119 2600822924 528734635 1541459225 fun a b c d e f g h => nfc (outK a b c d e f g h) K
theorem shaK_eq {R : Type} (l : List UInt8) (K : Nat → R) : shaK l.length (natOf l) K = K (natOf (sha l)) := by
 unfold shaK
 have e : Nat.add (natOf l) (Nat.mul (Nat.pow 256 l.length) (padK l.length)) = natOf (pad l) := by
  rw [pad, natOf_append, padK_eq]; rfl
 rw [nfc_eq, e]
 have := blksK_eq (fun a b c d e f g h => nfc (outK a b c d e f g h) K) ((l.length + 72) / 64) (pad l) iniH (by rw [pad_len]; omega) iniH_lt (H8.blk ((l.length + 72) / 64) iniH (pad l)) rfl
 refine Eq.trans this ?_
 rw [nfc_eq, ← outK_eq]; rfl
end Go.K
end
section
namespace Go.K
open Go.Abs
def pkB (B : Nat) : List Nat → Nat
 | [] => 0
 | x :: l => x + B * pkB B l
theorem pkB_snoc (B : Nat) : ∀ (l : List Nat) (y : Nat), pkB B (l ++ [y]) = pkB B l + B ^ l.length * y
 | [], y => by simp [pkB]
 | x :: l, y => by
  simp only [List.cons_append, pkB, pkB_snoc B l y, List.length_cons, Nat.pow_succ, Nat.mul_add, Nat.add_assoc]
  congr 2
  rw [← Nat.mul_assoc, Nat.mul_comm B (B ^ l.length)]
theorem pkB_lane {B : Nat} (hB : 0 < B) : ∀ (l : List Nat) (i : Nat), (∀ x ∈ l, x < B) → pkB B l / B ^ i % B = l.getD i 0
 | [], i, h => by simp [pkB, Nat.zero_div]
 | x :: l, 0, h => by
  have := h x (by simp)
  simp only [pkB, Nat.pow_zero, Nat.div_one, List.getD_cons_zero, Nat.add_mul_mod_self_left, Nat.mod_eq_of_lt this]
 | x :: l, i + 1, h => by
  have hx := h x (by simp)
  have e : (x + B * pkB B l) / B = pkB B l := by rw [Nat.add_mul_div_left _ _ hB, Nat.div_eq_of_lt hx, Nat.zero_add]
  rw [pkB, Nat.pow_succ, Nat.mul_comm (B ^ i) B, ← Nat.div_div_eq_div_mul, e, List.getD_cons_succ]
  exact pkB_lane hB l i fun y hy => h y (List.mem_cons_of_mem _ hy)
def xP (M X i j k : Nat) : Nat := Nat.land (Nat.xor (Nat.xor (Nat.shiftRight X i) (Nat.shiftRight X j)) (Nat.shiftRight X k)) M
def yP (M X x i j k : Nat) : Nat := Nat.land (Nat.xor (Nat.xor (Nat.shiftRight X i) (Nat.shiftRight X j)) (Nat.shiftRight x k)) M
abbrev W32 (f : Nat → Nat) : Prop := ∀ i, f i < 4294967296
theorem W32.d {f : Nat → Nat} (h : W32 f) (i : Nat) : f i * 4294967297 < 18446744073709551616 := by have := h i; omega
theorem W32.u {f : Nat → Nat} (h : W32 f) (i : Nat) : f i < 18446744073709551616 := by have := h i; omega
theorem xor_and (a b m : Nat) : (a ^^^ b) &&& m = (a &&& m) ^^^ (b &&& m) := Nat.and_xor_distrib_right
theorem rotP {n : Nat} {f : Nat → Nat} (h : W32 f) {k : Nat} (hk : k ≤ 32) : Nat.shiftRight (pv n fun i => f i * 4294967297) k &&& pv n (fun _ => 4294967295) = pv n fun i => rot (f i) k := by
 have e := pv_shr (n := n) hk (m := 4294967295) (by decide) (fun i => h.d i)
 refine Eq.trans e (pv_congr fun i _ => ?_)
 rw [and32, Nat.shiftRight_eq_div_pow, rotX (h i) hk]
theorem shP {n : Nat} {f : Nat → Nat} (h : W32 f) {k : Nat} (hk : k ≤ 32) : Nat.shiftRight (pv n f) k &&& pv n (fun _ => 4294967295) = pv n fun i => f i / 2 ^ k := by
 have e := pv_shr (n := n) hk (m := 4294967295) (by decide) (fun i => h.u i)
 refine Eq.trans e (pv_congr fun i _ => ?_)
 rw [and32, Nat.shiftRight_eq_div_pow, Nat.mod_eq_of_lt (div_lt32 _ (h i))]
theorem xP_eq {n : Nat} {f : Nat → Nat} (h : W32 f) {i j k : Nat} (hi : i ≤ 32) (hj : j ≤ 32) (hk : k ≤ 32) : xP (pv n fun _ => 4294967295) (pv n fun i => f i * 4294967297) i j k = pv n fun l => rot (f l) i ^^^ rot (f l) j ^^^ rot (f l) k := by
 show (((_ ^^^ _) ^^^ _) &&& _ : Nat) = _
 rw [xor_and, xor_and, rotP h hi, rotP h hj, rotP h hk]
 rw [pv_xor (fun i => W32.u (fun i => rot_lt _ (h i)) i) (fun i => W32.u (fun i => rot_lt _ (h i)) i), pv_xor (fun i => W32.u (fun i => xor_lt32 (rot_lt _ (h i)) (rot_lt _ (h i))) i) (fun i => W32.u (fun i => rot_lt _ (h i)) i)]
theorem yP_eq {n : Nat} {f : Nat → Nat} (h : W32 f) {i j k : Nat} (hi : i ≤ 32) (hj : j ≤ 32) (hk : k ≤ 32) : yP (pv n fun _ => 4294967295) (pv n fun i => f i * 4294967297) (pv n f) i j k = pv n fun l => rot (f l) i ^^^ rot (f l) j ^^^ f l / 2 ^ k := by
 show (((_ ^^^ _) ^^^ _) &&& _ : Nat) = _
 rw [xor_and, xor_and, rotP h hi, rotP h hj, shP h hk]
 rw [pv_xor (fun i => W32.u (fun i => rot_lt _ (h i)) i) (fun i => W32.u (fun i => rot_lt _ (h i)) i), pv_xor (fun i => W32.u (fun i => xor_lt32 (rot_lt _ (h i)) (rot_lt _ (h i))) i) (fun i => W32.u (fun i => div_lt32 _ (h i)) i)]
theorem yP_s0 {n : Nat} {f : Nat → Nat} (h : W32 f) : yP (pv n fun _ => 4294967295) (pv n fun i => f i * 4294967297) (pv n f) 7 18 3 = pv n fun l => sg0 (f l) := yP_eq h (by decide) (by decide) (by decide)
theorem yP_s1 {n : Nat} {f : Nat → Nat} (h : W32 f) : yP (pv n fun _ => 4294967295) (pv n fun i => f i * 4294967297) (pv n f) 17 19 10 = pv n fun l => sg1 (f l) := yP_eq h (by decide) (by decide) (by decide)
theorem xP_S0 {n : Nat} {f : Nat → Nat} (h : W32 f) : xP (pv n fun _ => 4294967295) (pv n fun i => f i * 4294967297) 2 13 22 = pv n fun l => bS0 (f l) := xP_eq h (by decide) (by decide) (by decide)
theorem xP_S1 {n : Nat} {f : Nat → Nat} (h : W32 f) : xP (pv n fun _ => 4294967295) (pv n fun i => f i * 4294967297) 6 11 25 = pv n fun l => bS1 (f l) := xP_eq h (by decide) (by decide) (by decide)
section
variable {R : Type}
noncomputable def rdP (M O b b9 b14 b15 BM : Nat) (ks : List Nat) : Nat → Nat → Nat → Nat → Nat → Nat → Nat → Nat → Nat → (Nat → Nat → Nat → Nat → Nat → Nat → Nat → Nat → R) → R :=
 List.rec (motive := fun _ => Nat → Nat → Nat → Nat → Nat → Nat → Nat → Nat → Nat → (Nat → Nat → Nat → Nat → Nat → Nat → Nat → Nat → R) → R) (fun _ a b c d e f g h K => K a b c d e f g h)
  (fun k _ ih W a b' c d e f g h K => nfc (Nat.mul e 4294967297) fun e2 => nfc (Nat.add (Nat.add (Nat.add (Nat.add h (xP M e2 6 11 25)) (Nat.xor (Nat.land e f) (Nat.land (Nat.xor M e) g))) (Nat.mul O k)) (Nat.land W BM)) fun t =>
   nfc (Nat.mul a 4294967297) fun a2 => nfc (Nat.land (Nat.add t (Nat.add (xP M a2 2 13 22) (Nat.xor (Nat.xor (Nat.land a b') (Nat.land a c)) (Nat.land b' c)))) M) fun na => nfc (Nat.land (Nat.add d t) M) fun ne =>
   nfc (Nat.shiftRight W b) fun W1 => nfc (Nat.land W1 BM) fun w1 => nfc (Nat.land (Nat.shiftRight W b14) BM) fun w14 =>
   nfc (Nat.add W1 (Nat.shiftLeft (Nat.land (Nat.add (Nat.add (Nat.add (Nat.land W BM) (yP M (Nat.mul w1 4294967297) w1 7 18 3)) (Nat.land (Nat.shiftRight W b9) BM)) (yP M (Nat.mul w14 4294967297) w14 17 19 10)) M) b15)) fun W2 =>
   ih W2 na a b' c ne e f g K) ks
end
def lanes (V : List (Nat → Nat)) (n : Nat) : List Nat := V.map (pv n)
theorem getD_map {α β : Type} (f : α → β) (d : α) {z : β} (l : List α) (i : Nat) (e : f d = z) : (l.map f).getD i z = f (l.getD i d) := by
 simp only [List.getD, List.getElem?_map]
 cases l[i]? <;> simp [e]
theorem pv_zero (n : Nat) : pv n (fun _ => 0) = 0 := by
 induction n with
 | zero => rfl
 | succ n ih => simp only [pv, ih]
theorem laneP {n : Nat} {V : List (Nat → Nat)} (hV : ∀ v ∈ V, W32 v) (i : Nat) : Nat.land (Nat.shiftRight (pkB (2 ^ (64 * n)) (lanes V n)) (64 * n * i)) (2 ^ (64 * n) - 1) = pv n (V.getD i fun _ => 0) := by
 show (pkB (2 ^ (64 * n)) (lanes V n) >>> (64 * n * i)) &&& (2 ^ (64 * n) - 1) = _
 rw [Nat.and_two_pow_sub_one_eq_mod, Nat.shiftRight_eq_div_pow, show 2 ^ (64 * n * i) = (2 ^ (64 * n)) ^ i from Nat.pow_mul .., pkB_lane (Nat.two_pow_pos _) _ _ (fun x hx => by
  obtain ⟨v, hv, rfl⟩ := List.mem_map.1 hx
  exact pv_lt (hV v hv).u)]
 exact getD_map (pv n) (fun _ => 0) V i (pv_zero n)
theorem pkB_next {B : Nat} (hB : 0 < B) {l : List Nat} {y b : Nat} (hl : l.length = 16) (hx : ∀ x ∈ l, x < B) (hb : B = 2 ^ b) : Nat.add (Nat.shiftRight (pkB B l) b) (Nat.shiftLeft y (b * 15)) = pkB B (l.drop 1 ++ [y]) := by
 show (pkB B l >>> b) + (y <<< (b * 15)) = _
 match l, hl with
 | x :: l, hl =>
  rw [Nat.shiftRight_eq_div_pow, ← hb, pkB, Nat.add_mul_div_left _ _ hB, Nat.div_eq_of_lt (hx x (by simp)), Nat.zero_add, List.drop_one, List.tail_cons, pkB_snoc, show l.length = 15 by simpa using hl, Nat.shiftLeft_eq, Nat.pow_mul, ← hb, Nat.mul_comm y]
theorem getW32 {V : List (Nat → Nat)} (hV : ∀ v ∈ V, W32 v) (i : Nat) : W32 (V.getD i fun _ => 0) := fun j => by
 rcases Nat.lt_or_ge i V.length with hi | hi
 ·simp only [List.getD, List.getElem?_eq_getElem hi, Option.getD_some]; exact hV _ (List.getElem_mem hi) j
 ·simp [List.getD, List.getElem?_eq_none hi]
theorem getA (V : List (Nat → Nat)) (j i : Nat) : (V.map fun v => v i).getD j 0 = (V.getD j fun _ => 0) i := getD_map (fun v : Nat → Nat => v i) (fun _ => 0) V j rfl
theorem add32P {n : Nat} {f : Nat → Nat} (h : ∀ i, f i < 18446744073709551616) : Nat.land (pv n f) (pv n fun _ => 4294967295) = pv n fun i => f i % 4294967296 := pv_mod h
theorem pv_chP {n : Nat} {e f g : Nat → Nat} (he : W32 e) (hf : W32 f) (hg : W32 g) : Nat.xor (Nat.land (pv n e) (pv n f)) (Nat.land (Nat.xor (pv n fun _ => 4294967295) (pv n e)) (pv n g)) = pv n fun i => chN (e i) (f i) (g i) := by
 show (pv n e &&& pv n f) ^^^ ((pv n (fun _ => 4294967295) ^^^ pv n e) &&& pv n g) = _
 rw [pv_and he.u hf.u, pv_xor (fun _ => by decide) he.u, pv_and (W32.u fun i => xor_lt32 (by decide) (he i)) hg.u, pv_xor (W32.u fun i => and_lt32 (hf i)) (W32.u fun i => and_lt32 (hg i))]
 rfl
theorem pv_mjP {n : Nat} {a b c : Nat → Nat} (ha : W32 a) (hb : W32 b) (hc : W32 c) : Nat.xor (Nat.xor (Nat.land (pv n a) (pv n b)) (Nat.land (pv n a) (pv n c))) (Nat.land (pv n b) (pv n c)) = pv n fun i => mjN (a i) (b i) (c i) := by
 show ((pv n a &&& pv n b) ^^^ (pv n a &&& pv n c)) ^^^ (pv n b &&& pv n c) = _
 rw [pv_and ha.u hb.u, pv_and ha.u hc.u, pv_and hb.u hc.u, pv_xor (W32.u fun i => and_lt32 (hb i)) (W32.u fun i => and_lt32 (hc i)), pv_xor (W32.u fun i => xor_lt32 (and_lt32 (hb i)) (and_lt32 (hc i))) (W32.u fun i => and_lt32 (hc i))]
 rfl
theorem chN_lt {e f g : Nat} (hf : f < 4294967296) (hg : g < 4294967296) : chN e f g < 4294967296 := xor_lt32 (and_lt32 hf) (and_lt32 hg)
theorem mjN_lt {a b c : Nat} (hb : b < 4294967296) (hc : c < 4294967296) : mjN a b c < 4294967296 := xor_lt32 (xor_lt32 (and_lt32 hb) (and_lt32 hc)) (and_lt32 hc)
theorem run_next (k : Nat) (ks : List Nat) : ∀ (L : List Nat) (s : H8), L.length = 16 → s.run (k :: ks) (extW (ks.length + 1) L) = (s.step k (L.getD 0 0)).run ks (extW ks.length (L.drop 1 ++ [newW L]))
 | v :: L, s, hl => by
  have e : extW (ks.length + 1) (v :: L) = v :: extW ks.length (L ++ [newW (v :: L)]) := by
   rw [extW, List.cons_append, extW_cons _ _ (by simp at hl ⊢; omega)]
  rw [e]
  rfl
 | [], s, hl => by simp at hl
theorem rdP_eq {R : Type} (n : Nat) (K : Nat → Nat → Nat → Nat → Nat → Nat → Nat → Nat → R) : ∀ (ks : List Nat) (V : List (Nat → Nat)) (s : Nat → H8), (∀ k ∈ ks, k < 4294967296) → V.length = 16 → (∀ v ∈ V, W32 v) → (∀ i, (s i).lt) → ∀ S : Nat → H8, (∀ i, S i = (s i).run ks (extW ks.length (V.map fun v => v i))) →
  rdP (pv n fun _ => 4294967295) (pv n fun _ => 1) (64 * n) (64 * n * 9) (64 * n * 14) (64 * n * 15) (2 ^ (64 * n) - 1) ks (pkB (2 ^ (64 * n)) (lanes V n)) (pv n fun i => (s i).a) (pv n fun i => (s i).b) (pv n fun i => (s i).c) (pv n fun i => (s i).d) (pv n fun i => (s i).e) (pv n fun i => (s i).f) (pv n fun i => (s i).g) (pv n fun i => (s i).h) K =
   K (pv n fun i => (S i).a) (pv n fun i => (S i).b) (pv n fun i => (S i).c) (pv n fun i => (S i).d) (pv n fun i => (S i).e) (pv n fun i => (S i).f) (pv n fun i => (S i).g) (pv n fun i => (S i).h)
 | [], V, s, _, hl, hV, hs, S, hS => by
  have : S = s := funext fun i => by rw [hS i]; rfl
  subst this; rfl
 | k :: ks, V, s, hk, hl, hV, hs, S, hS => by
  have hk0 := hk k (by simp)
  have hA : W32 fun i => (s i).a := fun i => (hs i).1
  have hB : W32 fun i => (s i).b := fun i => (hs i).2.1
  have hC : W32 fun i => (s i).c := fun i => (hs i).2.2.1
  have hD : W32 fun i => (s i).d := fun i => (hs i).2.2.2.1
  have hE : W32 fun i => (s i).e := fun i => (hs i).2.2.2.2.1
  have hF : W32 fun i => (s i).f := fun i => (hs i).2.2.2.2.2.1
  have hG : W32 fun i => (s i).g := fun i => (hs i).2.2.2.2.2.2.1
  have hH : W32 fun i => (s i).h := fun i => (hs i).2.2.2.2.2.2.2
  have hpos : 0 < 2 ^ (64 * n) := Nat.two_pow_pos _
  have lane := fun i => laneP (n := n) hV i
  have l0 : Nat.land (pkB (2 ^ (64 * n)) (lanes V n)) (2 ^ (64 * n) - 1) = pv n (V.getD 0 fun _ => 0) := lane 0
  have l1 : Nat.land (Nat.shiftRight (pkB (2 ^ (64 * n)) (lanes V n)) (64 * n)) (2 ^ (64 * n) - 1) = pv n (V.getD 1 fun _ => 0) := by have := lane 1; rwa [Nat.mul_one] at this
  have l9 := lane 9
  have l14 := lane 14
  have b0 := getW32 hV 0
  have b1 := getW32 hV 1
  have b9 := getW32 hV 9
  have b14 := getW32 hV 14
  let V' := V.drop 1 ++ [fun i => newW (V.map fun v => v i)]
  have hV' : ∀ v ∈ V', W32 v := fun v hv => by
   rcases List.mem_append.1 hv with h | h
   ·exact hV v (List.mem_of_mem_drop h)
   ·simp at h; subst h; exact fun i => newW_lt _
  have bS0' : W32 fun i => bS0 (s i).a := fun i => bS0_lt (hA i)
  have bS1' : W32 fun i => bS1 (s i).e := fun i => bS1_lt (hE i)
  have bch : W32 fun i => chN (s i).e (s i).f (s i).g := fun i => chN_lt (hF i) (hG i)
  have bmj : W32 fun i => mjN (s i).a (s i).b (s i).c := fun i => mjN_lt (hB i) (hC i)
  have bs0 : W32 fun i => sg0 ((V.getD 1 fun _ => 0) i) := fun i => sg0_lt (b1 i)
  have bs1 : W32 fun i => sg1 ((V.getD 14 fun _ => 0) i) := fun i => sg1_lt (b14 i)
  have eN : Nat.land (Nat.add (Nat.add (Nat.add (pv n (V.getD 0 fun _ => 0)) (yP (pv n fun _ => 4294967295) (Nat.mul (pv n (V.getD 1 fun _ => 0)) 4294967297) (pv n (V.getD 1 fun _ => 0)) 7 18 3)) (pv n (V.getD 9 fun _ => 0))) (yP (pv n fun _ => 4294967295) (Nat.mul (pv n (V.getD 14 fun _ => 0)) 4294967297) (pv n (V.getD 14 fun _ => 0)) 17 19 10)) (pv n fun _ => 4294967295) = pv n fun i => newW (V.map fun v => v i) := by
   show Nat.land (_ + yP _ (_ * 4294967297) _ _ _ _ + _ + yP _ (_ * 4294967297) _ _ _ _) _ = _
   rw [pv_mul, pv_mul, yP_s0 b1, yP_s1 b14, pv_add, pv_add, pv_add]
   rw [add32P fun i => by have h0 := b0 i; have h9 := b9 i; have h1 : sg0 ((V.getD 1 fun _ => 0) i) < 4294967296 := bs0 i; have h2 : sg1 ((V.getD 14 fun _ => 0) i) < 4294967296 := bs1 i; omega]
   refine pv_congr fun i _ => ?_
   unfold newW m32
   rw [List.length_map, hl, getA, getA, getA, getA]
   show ((V.getD 0 fun _ => 0) i + sg0 ((V.getD 1 fun _ => 0) i) + (V.getD 9 fun _ => 0) i + sg1 ((V.getD 14 fun _ => 0) i)) % 4294967296 = ((((V.getD 0 fun _ => 0) i + sg0 ((V.getD 1 fun _ => 0) i)) % 4294967296 + (V.getD 9 fun _ => 0) i) % 4294967296 + sg1 ((V.getD 14 fun _ => 0) i)) % 4294967296
   omega
  have eW : Nat.add (Nat.shiftRight (pkB (2 ^ (64 * n)) (lanes V n)) (64 * n)) (Nat.shiftLeft (pv n fun i => newW (V.map fun v => v i)) (64 * n * 15)) = pkB (2 ^ (64 * n)) (lanes V' n) := by
   rw [pkB_next hpos (by simp [lanes, hl]) (fun x hx => by
    obtain ⟨v, hv, rfl⟩ := List.mem_map.1 hx
    exact pv_lt (hV v hv).u) rfl]
   simp [lanes, V', List.map_append, List.map_drop]
  let T : Nat → Nat := fun i => (s i).h + bS1 (s i).e + chN (s i).e (s i).f (s i).g + 1 * k + (V.getD 0 fun _ => 0) i
  have eT : Nat.add (Nat.add (Nat.add (Nat.add (pv n fun i => (s i).h) (xP (pv n fun _ => 4294967295) (Nat.mul (pv n fun i => (s i).e) 4294967297) 6 11 25)) (Nat.xor (Nat.land (pv n fun i => (s i).e) (pv n fun i => (s i).f)) (Nat.land (Nat.xor (pv n fun _ => 4294967295) (pv n fun i => (s i).e)) (pv n fun i => (s i).g)))) (Nat.mul (pv n fun _ => 1) k)) (pv n (V.getD 0 fun _ => 0)) = pv n T := by
   show _ + xP _ (_ * 4294967297) _ _ _ + _ + _ * k + _ = _
   rw [pv_mul, pv_mul, xP_S1 hE, pv_chP hE hF hG, pv_add, pv_add, pv_add, pv_add]
  have hT : ∀ i, T i < 30000000000 := fun i => by
   have h1 : (s i).h < 4294967296 := hH i; have h2 : bS1 (s i).e < 4294967296 := bS1' i; have h3 : chN (s i).e (s i).f (s i).g < 4294967296 := bch i; have h4 := b0 i
   show (s i).h + bS1 (s i).e + chN (s i).e (s i).f (s i).g + 1 * k + (V.getD 0 fun _ => 0) i < _
   omega
  have ea : Nat.land (Nat.add (pv n T) (Nat.add (xP (pv n fun _ => 4294967295) (Nat.mul (pv n fun i => (s i).a) 4294967297) 2 13 22) (Nat.xor (Nat.xor (Nat.land (pv n fun i => (s i).a) (pv n fun i => (s i).b)) (Nat.land (pv n fun i => (s i).a) (pv n fun i => (s i).c))) (Nat.land (pv n fun i => (s i).b) (pv n fun i => (s i).c))))) (pv n fun _ => 4294967295) = pv n fun i => ((s i).step k ((V.getD 0 fun _ => 0) i)).a := by
   show Nat.land (_ + (xP _ (_ * 4294967297) _ _ _ + _)) _ = _
   rw [pv_mul, xP_S0 hA, pv_mjP hA hB hC, pv_add, pv_add, add32P fun i => by have h0 := hT i; have h1 : bS0 (s i).a < 4294967296 := bS0' i; have h2 : mjN (s i).a (s i).b (s i).c < 4294967296 := bmj i; omega]
   refine pv_congr fun i _ => ?_
   show (T i + (bS0 (s i).a + mjN (s i).a (s i).b (s i).c)) % 4294967296 = m32 (tN (s i) k ((V.getD 0 fun _ => 0) i) + m32 (bS0 (s i).a + mjN (s i).a (s i).b (s i).c))
   show ((s i).h + bS1 (s i).e + chN (s i).e (s i).f (s i).g + 1 * k + (V.getD 0 fun _ => 0) i + (bS0 (s i).a + mjN (s i).a (s i).b (s i).c)) % 4294967296 = _
   unfold tN m32
   omega
  have ee : Nat.land (Nat.add (pv n fun i => (s i).d) (pv n T)) (pv n fun _ => 4294967295) = pv n fun i => ((s i).step k ((V.getD 0 fun _ => 0) i)).e := by
   show Nat.land (_ + _) _ = _
   rw [pv_add, add32P fun i => by have h0 := hT i; have h1 : (s i).d < 4294967296 := hD i; omega]
   refine pv_congr fun i _ => ?_
   show ((s i).d + ((s i).h + bS1 (s i).e + chN (s i).e (s i).f (s i).g + 1 * k + (V.getD 0 fun _ => 0) i)) % 4294967296 = m32 ((s i).d + tN (s i) k ((V.getD 0 fun _ => 0) i))
   unfold tN m32
   omega
  have step : ∀ M O b b9' b14' b15 BM W a b' c d e f g h, rdP M O b b9' b14' b15 BM (k :: ks) W a b' c d e f g h K =
   rdP M O b b9' b14' b15 BM ks (Nat.add (Nat.shiftRight W b) (Nat.shiftLeft (Nat.land (Nat.add (Nat.add (Nat.add (Nat.land W BM) (yP M (Nat.mul (Nat.land (Nat.shiftRight W b) BM) 4294967297) (Nat.land (Nat.shiftRight W b) BM) 7 18 3)) (Nat.land (Nat.shiftRight W b9') BM)) (yP M (Nat.mul (Nat.land (Nat.shiftRight W b14') BM) 4294967297) (Nat.land (Nat.shiftRight W b14') BM) 17 19 10)) M) b15))
    (Nat.land (Nat.add (Nat.add (Nat.add (Nat.add (Nat.add h (xP M (Nat.mul e 4294967297) 6 11 25)) (Nat.xor (Nat.land e f) (Nat.land (Nat.xor M e) g))) (Nat.mul O k)) (Nat.land W BM)) (Nat.add (xP M (Nat.mul a 4294967297) 2 13 22) (Nat.xor (Nat.xor (Nat.land a b') (Nat.land a c)) (Nat.land b' c)))) M) a b' c
    (Nat.land (Nat.add d (Nat.add (Nat.add (Nat.add (Nat.add h (xP M (Nat.mul e 4294967297) 6 11 25)) (Nat.xor (Nat.land e f) (Nat.land (Nat.xor M e) g))) (Nat.mul O k)) (Nat.land W BM))) M) e f g K := by
   intros
   unfold rdP
   dsimp only
   simp only [nfc_eq]
  rw [step, l0, l1, l9, l14, eN, eW, eT, ea, ee]
  refine rdP_eq n K ks V' (fun i => (s i).step k ((V.getD 0 fun _ => 0) i)) (fun x hx => hk x (by simp [hx])) (by simp [V', hl]) hV' (fun i => H8.step_lt (hs i) _ _) S fun i => ?_
  rw [hS i]
  show (s i).run (k :: ks) (extW (ks.length + 1) (V.map fun v => v i)) = _
  rw [run_next k ks _ (s i) (by simp [hl]), getA]
  simp only [V', List.map_append, List.map_cons, List.map_nil, List.map_drop]
section
variable {R : Type}
noncomputable def blkP (M O b b9 b14 b15 BM : Nat) (W : Nat) (K : Nat → Nat → Nat → Nat → R) : R :=
 nfc (Nat.mul O 1779033703) fun a0 => nfc (Nat.mul O 3144134277) fun b0 => nfc (Nat.mul O 1013904242) fun c0 => nfc (Nat.mul O 2773480762) fun d0 =>
 rdP M O b b9 b14 b15 BM kW W a0 b0 c0 d0 (Nat.mul O 1359893119) (Nat.mul O 2600822924) (Nat.mul O 528734635) (Nat.mul O 1541459225) fun a' b' c' d' _ _ _ _ =>
  nfc (Nat.land (Nat.add a' a0) M) fun a => nfc (Nat.land (Nat.add b' b0) M) fun b => nfc (Nat.land (Nat.add c' c0) M) fun c => nfc (Nat.land (Nat.add d' d0) M) fun d => K a b c d
end
theorem kW_lt : ∀ k ∈ kW, k < 4294967296 := by decide
theorem blkP_eq {R : Type} (n : Nat) (V : List (Nat → Nat)) (hl : V.length = 16) (hV : ∀ v ∈ V, W32 v) (K : Nat → Nat → Nat → Nat → R) :
  blkP (pv n fun _ => 4294967295) (pv n fun _ => 1) (64 * n) (64 * n * 9) (64 * n * 14) (64 * n * 15) (2 ^ (64 * n) - 1) (pkB (2 ^ (64 * n)) (lanes V n)) K =
   K (pv n fun i => (iniH.block (V.map fun v => v i)).a) (pv n fun i => (iniH.block (V.map fun v => v i)).b) (pv n fun i => (iniH.block (V.map fun v => v i)).c) (pv n fun i => (iniH.block (V.map fun v => v i)).d) := by
 unfold blkP
 simp only [nfc_eq]
 have ec : ∀ c : Nat, Nat.mul (pv n fun _ => 1) c = pv n fun _ => c := fun c => by
  show (pv n fun _ => 1) * c = _
  rw [pv_mul]; simp only [Nat.one_mul]
 simp only [ec]
 have h := rdP_eq n (fun a' b' c' d' _ _ _ _ => K (Nat.land (Nat.add a' (pv n fun _ => 1779033703)) (pv n fun _ => 4294967295)) (Nat.land (Nat.add b' (pv n fun _ => 3144134277)) (pv n fun _ => 4294967295)) (Nat.land (Nat.add c' (pv n fun _ => 1013904242)) (pv n fun _ => 4294967295)) (Nat.land (Nat.add d' (pv n fun _ => 2773480762)) (pv n fun _ => 4294967295)))
  kW V (fun _ => iniH) kW_lt hl hV (fun _ => iniH_lt) (fun i => iniH.run kW (extW 48 (V.map fun v => v i))) (fun i => by
   show iniH.run kW (extW 48 _) = iniH.run kW (extW kW.length _)
   rw [run_64 iniH _ (by simp [hl])])
 refine Eq.trans h ?_
 have hr : ∀ i, (iniH.run kW (extW 48 (V.map fun v => v i))).lt := fun i => H8.run_lt _ _ iniH_lt
 have fin : ∀ (f : Nat → Nat) (c : Nat), W32 f → c < 4294967296 → Nat.land (Nat.add (pv n f) (pv n fun _ => c)) (pv n fun _ => 4294967295) = pv n fun i => m32 (c + f i) := fun f c hf hc => by
  show Nat.land (_ + _) _ = _
  rw [pv_add, add32P fun i => by have := hf i; omega]
  refine pv_congr fun i _ => ?_
  rw [Nat.add_comm]; rfl
 rw [fin _ _ (fun i => (hr i).1) (by decide), fin _ _ (fun i => (hr i).2.1) (by decide), fin _ _ (fun i => (hr i).2.2.1) (by decide), fin _ _ (fun i => (hr i).2.2.2.1) (by decide)]
 rfl
def cat4 (A B C D : Nat) : List UInt8 := be4 A ++ (be4 B ++ (be4 C ++ be4 D))
def stepF (id : List UInt8) (leaf c p : Nat) (v : List UInt8) : List UInt8 := (sha (67 :: (id ++ (be4 leaf ++ (UInt8.ofNat c :: UInt8.ofNat p :: v))))).take 16
def secF (seed : List UInt8) (leaf c : Nat) : List UInt8 := (sha (83 :: (seed ++ (be4 leaf ++ [UInt8.ofNat c])))).take 16
theorem take16 (s : H8) : s.bytes.take 16 = cat4 s.a s.b s.c s.d := rfl
def tail5 (leaf c p A B C D : Nat) : List Nat := [leaf % 256 * 16777216 + c * 65536 + p * 256 + A / 16777216, A * 256 % 4294967296 + B / 16777216, B * 256 % 4294967296 + C / 16777216, C * 256 % 4294967296 + D / 16777216, D * 256 % 4294967296 + 128, 0, 0, 0, 0, 0, 312]
theorem stepF_eq {id : List UInt8} (hid : id.length = 16) {leaf c p A B C D : Nat} (hc : c < 256) (hp : p < 256) (hA : A < 4294967296) (hB : B < 4294967296) (hC : C < 4294967296) (hD : D < 4294967296) :
  stepF id leaf c p (cat4 A B C D) = cat4 (iniH.block (words (67 :: (id ++ (be4 leaf).take 3)) ++ tail5 leaf c p A B C D)).a (iniH.block (words (67 :: (id ++ (be4 leaf).take 3)) ++ tail5 leaf c p A B C D)).b (iniH.block (words (67 :: (id ++ (be4 leaf).take 3)) ++ tail5 leaf c p A B C D)).c (iniH.block (words (67 :: (id ++ (be4 leaf).take 3)) ++ tail5 leaf c p A B C D)).d := by
 match id, hid with
 | [x0, x1, x2, x3, x4, x5, x6, x7, x8, x9, x10, x11, x12, x13, x14, x15], _ =>
  have key : words ((pad (67 :: ([x0, x1, x2, x3, x4, x5, x6, x7, x8, x9, x10, x11, x12, x13, x14, x15] ++ (be4 leaf ++ (UInt8.ofNat c :: UInt8.ofNat p :: cat4 A B C D))))).take 64) = words (67 :: ([x0, x1, x2, x3, x4, x5, x6, x7, x8, x9, x10, x11, x12, x13, x14, x15] ++ (be4 leaf).take 3)) ++ tail5 leaf c p A B C D := by
   simp only [pad, padL, padN, u8s, List.cons_append, List.nil_append, be4, cat4, List.length_cons, List.length_nil, List.take, List.replicate, beN, List.map_cons, List.map_nil, words, tail5, UInt8.toNat_ofNat', word4, List.cons.injEq, and_true, true_and]
   refine ⟨?_, ?_, ?_, ?_, ?_⟩ <;> omega
  unfold stepF sha
  have e1 : ((67 :: ([x0, x1, x2, x3, x4, x5, x6, x7, x8, x9, x10, x11, x12, x13, x14, x15] ++ (be4 leaf ++ (UInt8.ofNat c :: UInt8.ofNat p :: cat4 A B C D)))).length + 72) / 64 = 1 := by simp [be4, cat4]
  rw [e1, H8.blk, H8.blk, key, take16]
def tail9 (leaf c : Nat) : List Nat := [leaf % 256 * 16777216 + c * 65536 + 32768, 0, 0, 0, 0, 0, 304]
theorem secF_eq {seed : List UInt8} (hs : seed.length = 32) {leaf c : Nat} (hc : c < 256) :
  secF seed leaf c = cat4 (iniH.block (words (83 :: (seed ++ (be4 leaf).take 3)) ++ tail9 leaf c)).a (iniH.block (words (83 :: (seed ++ (be4 leaf).take 3)) ++ tail9 leaf c)).b (iniH.block (words (83 :: (seed ++ (be4 leaf).take 3)) ++ tail9 leaf c)).c (iniH.block (words (83 :: (seed ++ (be4 leaf).take 3)) ++ tail9 leaf c)).d := by
 match seed, hs with
 | [x0, x1, x2, x3, x4, x5, x6, x7, x8, x9, x10, x11, x12, x13, x14, x15, y0, y1, y2, y3, y4, y5, y6, y7, y8, y9, y10, y11, y12, y13, y14, y15], _ =>
  have key : words ((pad (83 :: ([x0, x1, x2, x3, x4, x5, x6, x7, x8, x9, x10, x11, x12, x13, x14, x15, y0, y1, y2, y3, y4, y5, y6, y7, y8, y9, y10, y11, y12, y13, y14, y15] ++ (be4 leaf ++ [UInt8.ofNat c])))).take 64) = words (83 :: ([x0, x1, x2, x3, x4, x5, x6, x7, x8, x9, x10, x11, x12, x13, x14, x15, y0, y1, y2, y3, y4, y5, y6, y7, y8, y9, y10, y11, y12, y13, y14, y15] ++ (be4 leaf).take 3)) ++ tail9 leaf c := by
   simp only [pad, padL, padN, u8s, List.cons_append, List.nil_append, be4, List.length_cons, List.length_nil, List.take, List.replicate, beN, List.map_cons, List.map_nil, words, tail9, UInt8.toNat_ofNat', word4, List.cons.injEq, and_true, true_and]
   omega
  unfold secF sha
  have e1 : ((83 :: ([x0, x1, x2, x3, x4, x5, x6, x7, x8, x9, x10, x11, x12, x13, x14, x15, y0, y1, y2, y3, y4, y5, y6, y7, y8, y9, y10, y11, y12, y13, y14, y15] ++ (be4 leaf ++ [UInt8.ofNat c]))).length + 72) / 64 = 1 := by simp [be4]
  rw [e1, H8.blk, H8.blk, key, take16]
theorem pkB_app (B : Nat) : ∀ (l r : List Nat), pkB B (l ++ r) = pkB B l + B ^ l.length * pkB B r
 | [], r => by simp [pkB]
 | x :: l, r => by
  simp only [List.cons_append, pkB, pkB_app B l r, List.length_cons, Nat.pow_succ, Nat.mul_add, Nat.add_assoc]
  congr 2
  rw [← Nat.mul_assoc, Nat.mul_comm B (B ^ l.length)]
noncomputable def bcP (O b k : Nat) : Nat → Nat := Nat.rec (motive := fun _ => Nat → Nat) (fun _ => 0) (fun _ ih m => nfc (Nat.shiftRight m 32) fun m' => Nat.add (Nat.mul O (w4K m)) (Nat.shiftLeft (ih m') b)) k
theorem bcP_eq (n : Nat) : ∀ (k : Nat) (l : List UInt8), 4 * k ≤ l.length → bcP (pv n fun _ => 1) (64 * n) k (natOf l) = pkB (2 ^ (64 * n)) (lanes ((words (l.take (4 * k))).map fun w _ => w) n)
 | 0, l, h => rfl
 | k + 1, x :: y :: z :: w :: l, h => by
  have e0 : bcP (pv n fun _ => 1) (64 * n) (k + 1) (natOf (x :: y :: z :: w :: l)) = nfc (Nat.shiftRight (natOf (x :: y :: z :: w :: l)) 32) fun m' => Nat.add (Nat.mul (pv n fun _ => 1) (w4K (natOf (x :: y :: z :: w :: l)))) (Nat.shiftLeft (bcP (pv n fun _ => 1) (64 * n) k m') (64 * n)) := rfl
  have hx := x.toNat_lt; have hy := y.toNat_lt; have hz := z.toNat_lt; have hw := w.toNat_lt
  have en : natOf (x :: y :: z :: w :: l) = x.toNat + 256 * (y.toNat + 256 * (z.toNat + 256 * (w.toNat + 256 * natOf l))) := rfl
  have e1 : Nat.shiftRight (natOf (x :: y :: z :: w :: l)) 32 = natOf l := by
   show natOf (x :: y :: z :: w :: l) >>> 32 = _
   rw [Nat.shiftRight_eq_div_pow, en]; omega
  have e2 : w4K (natOf (x :: y :: z :: w :: l)) = word4 x.toNat y.toNat z.toNat w.toNat := by
   show (natOf (x :: y :: z :: w :: l) % 256) * 16777216 + (natOf (x :: y :: z :: w :: l) / 256 % 256) * 65536 + (natOf (x :: y :: z :: w :: l) / 65536 % 256) * 256 + natOf (x :: y :: z :: w :: l) / 16777216 % 256 = _
   rw [en]; unfold word4; omega
  rw [e0, nfc_eq, e1, e2, bcP_eq n k l (by simp at h; omega), show 4 * (k + 1) = 4 * k + 1 + 1 + 1 + 1 by omega]
  show (pv n fun _ => 1) * _ + (_ <<< _) = _
  rw [pv_mul, Nat.shiftLeft_eq, Nat.mul_comm _ (2 ^ (64 * n))]
  simp only [Nat.one_mul]
  rfl
 | k + 1, [], h => by simp at h
 | k + 1, [_], h => by simp at h; try omega
 | k + 1, [_, _], h => by simp at h; try omega
 | k + 1, [_, _, _], h => by simp at h; try omega
end Go.K
end
