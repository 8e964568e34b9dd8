/- The program's types and functions in the abstract reading, its records as Lean structures, and the contracts of library functions. -/
import Derived.Test.YtkabooclnoiclaaGreatDoorS
set_option linter.unusedVariables false
set_option linter.unusedSimpArgs false
set_option linter.unnecessarySimpa false
section
namespace Go.Abs
open Go Go.Proofs
def ty0 : TI := ⟨true, 1, 0, .flat, (.tuple []), true, [], []⟩
def ty2 : TI := ⟨true, 1, 8, (.int .i64), (.int .i64 0), true, [], []⟩
def ty3 : TI := ⟨true, 1, 8, (.int .i64), (.int .i64 0), true, [], []⟩
def ty4 : TI := ⟨true, 1, 1, .bool, (.bool false), true, [], []⟩
def ty5 : TI := ⟨true, 1, 1, (.int .u8), (.int .u8 0), true, [], []⟩
def ty6 : TI := ⟨true, 1, 1, (.int .u8), (.int .u8 0), true, [], []⟩
def ty8 : TI := ⟨true, 4, 24, (.struct [(0, 1), (1, 1), (2, 1), (3, 1)]), (.agg [(.int .i64 0), (.int .i64 0), (.bool false), (.int .u8 0)]), true, [2, 3, 4, 6], [(.int .i64), (.int .i64), .bool, (.int .u8)]⟩
def ty9 : TI := ⟨true, 1, 16, .str, (.str []), true, [], []⟩
def ty23 : TI := ⟨true, 1, 24, (.slice 9 1 16), .nilsl, true, [], []⟩
def ty94 : TI := ⟨true, 1, 24, (.slice 5 1 1), .nilsl, true, [], []⟩
def ty254 : TI := ⟨true, 1, 8, (.int .u64), (.int .u64 0), true, [], []⟩
def ty284 : TI := ⟨true, 1, 4, (.int .u32), (.int .u32 0), true, [], []⟩
def ty285 : TI := ⟨true, 1, 24, (.slice 284 1 4), .nilsl, true, [], []⟩
def ty332 : TI := ⟨true, 1, 8, (.int .u64), (.int .u64 0), true, [], []⟩
def ty352 : TI := ⟨true, 64, 256, (.arr 64 1), (.agg [(.int .u32 0), (.int .u32 0), (.int .u32 0), (.int .u32 0), (.int .u32 0), (.int .u32 0), (.int .u32 0), (.int .u32 0), (.int .u32 0), (.int .u32 0), (.int .u32 0), (.int .u32 0), (.int .u32 0), (.int .u32 0), (.int .u32 0), (.int .u32 0), (.int .u32 0), (.int .u32 0), (.int .u32 0), (.int .u32 0), (.int .u32 0), (.int .u32 0), (.int .u32 0), (.int .u32 0), (.int .u32 0), (.int .u32 0), (.int .u32 0), (.int .u32 0), (.int .u32 0), (.int .u32 0), (.int .u32 0), (.int .u32 0), (.int .u32 0), (.int .u32 0), (.int .u32 0), (.int .u32 0), (.int .u32 0), (.int .u32 0), (.int .u32 0), (.int .u32 0), (.int .u32 0), (.int .u32 0), (.int .u32 0), (.int .u32 0), (.int .u32 0), (.int .u32 0), (.int .u32 0), (.int .u32 0), (.int .u32 0), (.int .u32 0), (.int .u32 0), (.int .u32 0), (.int .u32 0), (.int .u32 0), (.int .u32 0), (.int .u32 0), (.int .u32 0), (.int .u32 0), (.int .u32 0), (.int .u32 0), (.int .u32 0), (.int .u32 0), (.int .u32 0), (.int .u32 0)]), true, [], []⟩
def ty434 : TI := ⟨true, 1, 8, (.ptr 440), .nilp, true, [], []⟩
def ty438 : TI := ⟨true, 8, 32, (.arr 8 1), (.agg [(.int .u32 0), (.int .u32 0), (.int .u32 0), (.int .u32 0), (.int .u32 0), (.int .u32 0), (.int .u32 0), (.int .u32 0)]), true, [], []⟩
def ty440 : TI := ⟨true, 10, 64, (.struct [(0, 8), (8, 1), (9, 1)]), (.agg [(.int .u32 0), (.int .u32 0), (.int .u32 0), (.int .u32 0), (.int .u32 0), (.int .u32 0), (.int .u32 0), (.int .u32 0), .nilsl, (.int .i64 0)]), true, [438, 94, 3], []⟩
def tyTree : TT := (.node (.node (.node (.node (.node .leaf 0 ty0 .leaf) 2 ty2 .leaf) 3 ty3 (.node .leaf 4 ty4 .leaf)) 5 ty5 (.node (.node (.node .leaf 6 ty6 .leaf) 8 ty8 .leaf) 9 ty9 (.node .leaf 23 ty23 .leaf))) 94 ty94 (.node (.node (.node (.node .leaf 254 ty254 .leaf) 284 ty284 .leaf) 285 ty285 (.node .leaf 332 ty332 .leaf)) 352 ty352 (.node (.node .leaf 434 ty434 .leaf) 438 ty438 (.node .leaf 440 ty440 .leaf))))
set_option maxRecDepth 100000 in
theorem tyTree_eq : tyTree.toList.map (fun p => ti Tryz.prog p.1) = tyTree.toList.map (·.2) := by kernel_rfl
noncomputable def tyT (t : TypeId) : TI := match tyTree.get t with | some v => v | none => ti Tryz.prog t
theorem tyT_eq : tyT = ti Tryz.prog := TT.eq_of tyTree_eq
def gl0 (mx : Int) (g : Nat) : List V := []
section
variable {gl : Nat → List V} {ops : Array Oper} {K : AFr → St → Prop} {s0 : St} {cs : List Code} {AQ : Exit → AFr → St → Prop} {id : Nat} {fr fr' : AFr} {st st' : St} {i : Nat} {x : Cfg} {E : List Nat} {B : List (List Nat)} {rest seen : List Nat} {fx : List (Nat × Option V × V)}
theorem kP (k : Nat) {q : Option V} {v : V} (hq : q = some v) (h : aOpsC Tryz.prog gl ops (k + 1) (putX (runX tyT gl ops i k x) (dstAt ops k) v) K)
  (hik : Nat.ble i k = true := by kernel_rfl) (he : stepX tyT gl ops i k x = withSt q (runX tyT gl ops i k x).2 := by kernel_rfl) : aOpsC Tryz.prog gl ops i x K := c_pure tyT_eq k hq hik he h
theorem kC (k : Nat) (R : Ren) {f : FuncId} {args1 : List V} {st1 st1' : St} {r : V} (hc : ACalls Tryz.prog gl f args1 st1 (Out r st1'))
  (h : aOpsC Tryz.prog gl ops (k + 1) (setX (runX tyT gl ops i k x) (dstAt ops k) (V.ren R r) (fun st => St.after R st st1')) K)
  (hb : goB tyT gl ops i k x R f args1 st1 = true := by kernel_rfl) (he : callL R st1 args1 = goR tyT gl ops i k x R args1 st1 := by kernel_rfl) : aOpsC Tryz.prog gl ops i x K := c_go tyT_eq k R hc hb he h
theorem kA (k t : Nat) {α : Type} (c : α → List V) {l l2 l' : List α} {e e2 : TypeId} {sz bytes b2 : Nat} {tok2 : Tok} (h1 : lapp bytes l l2 = some l')
  (h : aOpsC Tryz.prog gl ops (k + 1) (setX (runX tyT gl ops i k x) (dstAt ops k) (.sl sz (l'.map c) (.fam t l'.length)) (fun st => st.setFam t l'.length)) K)
  (hb : (Nat.ble i k && appOk tyT e sz bytes) = true := by kernel_rfl) (he : ((runX tyT gl ops i k x).2.fams[t]?, stepX tyT gl ops i k x) = (some l.length, aappendT tyT (runX tyT gl ops i k x).2 (.slice e sz bytes) (.slice e2 sz b2) (.sl sz (l.map c) (.fam t l.length)) (.sl sz (l2.map c) tok2)) := by kernel_rfl) : aOpsC Tryz.prog gl ops i x K := c_app tyT_eq k t c h1 hb he h
theorem kB (k : Nat) (l : List Int) (h : aOpsC Tryz.prog gl ops (k + 1) (putX (runX tyT gl ops i k x) (dstAt ops k) (.str (b2s l))) K)
  (hik : Nat.ble i k = true := by kernel_rfl) (he : stepX tyT gl ops i k x = withSt (match toBytes (l.map (cI .u8)) with | some b => some (.str b) | none => none) (runX tyT gl ops i k x).2 := by kernel_rfl) : aOpsC Tryz.prog gl ops i x K := c_b2s tyT_eq k l hik he h
theorem kV (k m f id : Nat) {cell : Option (List V)} {q : St → Option (V × St)} {v : V} {F : St → St} (hq : ∀ st : St, st.vars.length = m → st.fams.length = f → st.vars[id]? = cell → q st = some (v, F st))
  (h : aOpsC Tryz.prog gl ops (k + 1) (setX (runX tyT gl ops i k x) (dstAt ops k) v F) K) (hik : Nat.ble i k = true := by kernel_rfl)
  (he : ((runX tyT gl ops i k x).2.vars.length, (runX tyT gl ops i k x).2.fams.length, (runX tyT gl ops i k x).2.vars[id]?, stepX tyT gl ops i k x) = (m, f, cell, q (runX tyT gl ops i k x).2) := by kernel_rfl) : aOpsC Tryz.prog gl ops i x K := c_effv tyT_eq k m f id hq hik he h
theorem dV {fx : List (Nat × Option V × V)} (hf : fxOk fx) (m f id : Nat) {cell : Option (List V)} {q : St → Option (V × St)} {v : V} {F : St → St} (hq : ∀ st : St, st.vars.length = m → st.fams.length = f → st.vars[id]? = cell → q st = some (v, F st))
  (h : aDC Tryz.prog gl ops E B rest (i :: seen) (setX x (dstAt ops i) v F) K) (hb : E.contains i = true := by kernel_rfl)
  (he : (x.2.vars.length, x.2.fams.length, x.2.vars[id]?, oneX tyT gl ops i x) = (m, f, cell, q x.2) := by kernel_rfl)
  (hs : (stX tyT gl ops E B i seen (setX x (dstAt ops i) v F), svX ops E B fx i seen (setX x (dstAt ops i) v F)) = (stY tyT gl ops E B fx i seen (setX x (dstAt ops i) v F), svY ops E B fx i seen (setX x (dstAt ops i) v F)) := by kernel_rfl) : aDC Tryz.prog gl ops E B (i :: rest) seen x K := d_effv tyT_eq hf m f id hq hb he hs h
theorem kE (R : Ren) (hb : endB tyT gl ops i x s0 R fr' st' = true := by kernel_rfl) (he : wkL R fr' st' = endR tyT gl ops i x R fr' st' := by kernel_rfl) : aOpsC Tryz.prog gl ops i x (toW s0 fr' st') := c_end tyT_eq R hb he
theorem dS (os : List Nat) (h : aDC Tryz.prog gl ops E B rest (os.reverse ++ seen) (segV tyT gl ops E os x) K) (hb : segB tyT gl ops E os x = true := by kernel_rfl) : aDC Tryz.prog gl ops E B (os ++ rest) seen x K := d_seg tyT_eq os hb h
theorem dP {q : Option V} {v : V} (hq : q = some v) (h : aDC Tryz.prog gl ops E B rest (i :: seen) (putX x (dstAt ops i) v) K) (hb : stillB ops E i = true := by kernel_rfl) (he : oneX tyT gl ops i x = withSt q x.2 := by kernel_rfl) : aDC Tryz.prog gl ops E B (i :: rest) seen x K := d_pure tyT_eq hq hb he h
theorem dF (hf : fxOk fx) (h : aDC Tryz.prog gl ops E B rest (i :: seen) (effX tyT gl ops i x) K) (hb : effB tyT gl ops E i x = true := by kernel_rfl)
  (hs : (stX tyT gl ops E B i seen (effX tyT gl ops i x), svX ops E B fx i seen (effX tyT gl ops i x)) = (stY tyT gl ops E B fx i seen (effX tyT gl ops i x), svY ops E B fx i seen (effX tyT gl ops i x)) := by kernel_rfl) : aDC Tryz.prog gl ops E B (i :: rest) seen x K := d_eff tyT_eq hf hb hs h
theorem dC (hf : fxOk fx) (R : Ren) {f : FuncId} {args1 : List V} {st1 st1' : St} {r : V} (hc : ACalls Tryz.prog gl f args1 st1 (Out r st1')) (h : aDC Tryz.prog gl ops E B rest (i :: seen) (setX x (dstAt ops i) (V.ren R r) (fun st => St.after R st st1')) K)
  (hb : goDB ops E i x R f args1 st1 = true := by kernel_rfl) (he : callL R st1 args1 = goDR ops i x R args1 st1 := by kernel_rfl)
  (hs : (stX tyT gl ops E B i seen (setX x (dstAt ops i) (V.ren R r) (fun st => St.after R st st1')), svX ops E B fx i seen (setX x (dstAt ops i) (V.ren R r) (fun st => St.after R st st1'))) = (stY tyT gl ops E B fx i seen (setX x (dstAt ops i) (V.ren R r) (fun st => St.after R st st1')), svY ops E B fx i seen (setX x (dstAt ops i) (V.ren R r) (fun st => St.after R st st1'))) := by kernel_rfl) : aDC Tryz.prog gl ops E B (i :: rest) seen x K := d_go tyT_eq hf R hc hb he hs h
theorem dE (R : Ren) (hb : wkB s0 R x.1 x.2 fr' st' = true := by kernel_rfl) (he : wkL R fr' st' = wkR R x.1 x.2 fr' st' := by kernel_rfl) : aDC Tryz.prog gl ops E B [] seen x (toW s0 fr' st') := d_end R hb he
theorem wk (R : Ren) (hb : wkB s0 R fr st fr' st' = true := by kernel_rfl) (he : wkL R fr' st' = wkR R fr st fr' st' := by kernel_rfl) : Wk s0 fr st fr' st' := Wk.gen R hb he
theorem zm {c : Code} (order E : List Nat) (B : List (List Nat)) (ks : List Nat) (new : List (Nat × V)) (st' : St) (h : aDC Tryz.prog gl ops E B order [] (fr, st) (toW s0 (carF fr ks new) st')) (h2 : BCodes Tryz.prog gl s0 (c :: cs) AQ (carF fr ks new) st')
  (hm : Tryz.prog.follows .mixedOrders = true := by kernel_rfl) (hc : drawChk ops fr.n order E B = true := by kernel_rfl) : BCodes Tryz.prog gl s0 (.region id ops true :: c :: cs) AQ fr st := c_draw order E B _ _ hm hc cl_cons h h2
theorem zs {c : Code} (order E : List Nat) (B : List (List Nat)) (ks : List Nat) (new : List (Nat × V)) (h : aDC Tryz.prog gl ops E B order [] (fr, st) (toW s0 (carF fr ks new) st)) (h2 : BCodes Tryz.prog gl s0 (c :: cs) AQ (carF fr ks new) st)
  (hm : Tryz.prog.follows .mixedOrders = true := by kernel_rfl) (hc : drawChk ops fr.n order E B = true := by kernel_rfl) : BCodes Tryz.prog gl s0 (.region id ops true :: c :: cs) AQ fr st := c_draw order E B _ _ hm hc cl_cons h h2
theorem zmN (hcl : Cl s0 (AQ .normal)) (order E : List Nat) (B : List (List Nat)) (ks : List Nat) (new : List (Nat × V)) (st' : St) (h : aDC Tryz.prog gl ops E B order [] (fr, st) (toW s0 (carF fr ks new) st')) (h2 : BCodes Tryz.prog gl s0 [] AQ (carF fr ks new) st')
  (hm : Tryz.prog.follows .mixedOrders = true := by kernel_rfl) (hc : drawChk ops fr.n order E B = true := by kernel_rfl) : BCodes Tryz.prog gl s0 [.region id ops true] AQ fr st := c_draw order E B _ _ hm hc (cl_nil hcl) h h2
theorem bF {α : Type} {c : Operand} {x y : Code} {t : Bool} {a b : Option α} {r : α} (h : (if t = true then a else b) = some r) (h1 : a = some r → BCodes Tryz.prog gl s0 (x :: cs) AQ fr st) (h2 : b = some r → BCodes Tryz.prog gl s0 (y :: cs) AQ fr st) (hc : fr.eval c = .bool t := by kernel_rfl) : BCodes Tryz.prog gl s0 (.cond c x y :: cs) AQ fr st :=
 b_if t hc (fun hb => h1 (ite_t hb h)) (fun hb => h2 (ite_f hb h))
theorem bT {c : Operand} {x y : Code} (h1 : BCodes Tryz.prog gl s0 (x :: cs) AQ fr st) (hc : fr.eval c = .bool true := by kernel_rfl) : BCodes Tryz.prog gl s0 (.cond c x y :: cs) AQ fr st := b_if true hc (fun _ => h1) (fun hb => Bool.noConfusion hb)
theorem bN {c : Operand} {x y : Code} (h2 : BCodes Tryz.prog gl s0 (y :: cs) AQ fr st) (hc : fr.eval c = .bool false := by kernel_rfl) : BCodes Tryz.prog gl s0 (.cond c x y :: cs) AQ fr st := b_if false hc (fun hb => Bool.noConfusion hb) (fun _ => h2)
theorem fnc {f : FuncId} {fn : Func} {c : Code} {args : List V} {Q : V → St → Prop} (hf : Tryz.prog.funcs[f]? = some fn) (hb : fn.body = some c) (h : BCodes Tryz.prog gl st [c] (bodyB Tryz.prog gl st fn Q) (argFr fn.ntmps args) st)
  (hn : (fn.name == "runtime.NumGoroutine") = false := by kernel_rfl) (hl : Nat.ble args.length fn.ntmps = true := by kernel_rfl) : ACalls Tryz.prog gl f args st Q := ACalls.ofB hf hb hn (Nat.le_of_ble_eq_true hl) h
theorem rt {fn : Func} {r : V} (R : Ren)
  (hb : ((aresultsT tyT gl fr st fn.results.toList).isSome && wkB s0 R ⟨1, [(0, resV tyT gl fr st fn.results.toList)]⟩ st ⟨1, [(0, r)]⟩ st') = true := by kernel_rfl)
  (hl : wkL R ⟨1, [(0, r)]⟩ st' = wkR R ⟨1, [(0, resV tyT gl fr st fn.results.toList)]⟩ st ⟨1, [(0, r)]⟩ st' := by kernel_rfl) : bodyB Tryz.prog gl s0 fn (Out r st') .ret fr st := b_end tyT_eq R (.inr rfl) hb hl
theorem rno {fn : Func} {r : V} (R : Ren)
  (hb : ((aresultsT tyT gl fr st fn.results.toList).isSome && wkB s0 R ⟨1, [(0, resV tyT gl fr st fn.results.toList)]⟩ st ⟨1, [(0, r)]⟩ st') = true := by kernel_rfl)
  (hl : wkL R ⟨1, [(0, r)]⟩ st' = wkR R ⟨1, [(0, resV tyT gl fr st fn.results.toList)]⟩ st ⟨1, [(0, r)]⟩ st' := by kernel_rfl) : bodyB Tryz.prog gl s0 fn (Out r st') .normal fr st := b_end tyT_eq R (.inl rfl) hb hl
end
abbrev AC (mx : Int) (f : FuncId) (args : List V) (s : List (List V)) (r : V) (s' : List (List V)) : Prop := ACalls Tryz.prog (gl0 mx) f args ⟨s, []⟩ (Out r ⟨s', []⟩)
section
variable {gl : Nat → List V} {ops : Array Oper} {s0 : St} {cs : List Code} {AQ : Exit → AFr → St → Prop} {id : Nat} {fr : AFr} {st : St} {i : Nat} {x y : Cfg} {c : Code}
theorem ed (hb : endOk tyT gl ops i x = true := by kernel_rfl) : aOpsC Tryz.prog gl ops i x (toW s0 (endC tyT gl ops i x).1 (endC tyT gl ops i x).2) := c_stop tyT_eq hb
theorem rg (h2 : BCodes Tryz.prog gl s0 (c :: cs) AQ (endC tyT gl ops 0 (fr, st)).1 (endC tyT gl ops 0 (fr, st)).2) (hb : endOk tyT gl ops 0 (fr, st) = true := by kernel_rfl) : BCodes Tryz.prog gl s0 (.region id ops false :: c :: cs) AQ fr st := c_regY (y := (fr, st)) (c_stop tyT_eq hb) h2
theorem rgN (hcl : Cl s0 (AQ .normal)) (h2 : AQ .normal (endC tyT gl ops 0 (fr, st)).1 (endC tyT gl ops 0 (fr, st)).2) (hb : endOk tyT gl ops 0 (fr, st) = true := by kernel_rfl) : BCodes Tryz.prog gl s0 [.region id ops false] AQ fr st := c_regYN (y := (fr, st)) hcl (c_stop tyT_eq hb) h2
theorem rC (h : aOpsC Tryz.prog gl ops 0 (fr, st) (toW s0 y.1 y.2)) (h2 : BCodes Tryz.prog gl s0 (c :: cs) AQ y.1 y.2) : BCodes Tryz.prog gl s0 (.region id ops false :: c :: cs) AQ fr st := c_regY (y := (fr, st)) h h2
theorem rCN (hcl : Cl s0 (AQ .normal)) (h : aOpsC Tryz.prog gl ops 0 (fr, st) (toW s0 y.1 y.2)) (h2 : AQ .normal y.1 y.2) : BCodes Tryz.prog gl s0 [.region id ops false] AQ fr st := c_regYN (y := (fr, st)) hcl h h2
end
def Im (p q : Prop) : Prop := p → q
section
variable {gl : Nat → List V} {ops : Array Oper} {K : AFr → St → Prop} {s0 : St} {c d : Code} {cs : List Code} {AQ : Exit → AFr → St → Prop} {id : Nat} {fr fr' : AFr} {st st' : St} {i : Nat} {x : Cfg} {E : List Nat} {B : List (List Nat)} {rest seen : List Nat} {fx : List (Nat × Option V × V)} {p Q : Prop}
theorem fnL {f : FuncId} {fn : Func} {args : List V} {Q : V → St → Prop} (hf : Tryz.prog.funcs[f]? = some fn) (hb : fn.body = some c) (h : Im (p) (BCodes Tryz.prog gl st (flat c []) (bodyB Tryz.prog gl st fn Q) (argFr fn.ntmps args) st)) (hn : (fn.name == "runtime.NumGoroutine") = false := by kernel_rfl) (hl : Nat.ble args.length fn.ntmps = true := by kernel_rfl) : Im (p) (ACalls Tryz.prog gl f args st Q) := fun k => fnc hf hb (b_flat _ (h k)) hn hl
theorem bEL {α β : Type} {x : Option α} {f : α → Option β} {y : β} (k : ∀ a, x = some a → Im (f a = some y) (Q)) : Im (x.bind f = some y) (Q) := fun h => bE h k
theorem lfL {A : Prop} (f : A → Q) (t : Im (p) (A)) : Im (p) (Q) := fun z => f (t z)
theorem imA (h : p) (t : Im (p) (Q)) : Q := t h
inductive Tg (R : Ren) : Prop | mk
theorem rtT {fn : Func} {r : V} {R : Ren} (_ : Tg R) (hb : ((aresultsT tyT gl fr st fn.results.toList).isSome && wkB s0 R ⟨1, [(0, resV tyT gl fr st fn.results.toList)]⟩ st ⟨1, [(0, r)]⟩ st') = true := by kernel_rfl)
  (hl : wkL R ⟨1, [(0, r)]⟩ st' = wkR R ⟨1, [(0, resV tyT gl fr st fn.results.toList)]⟩ st ⟨1, [(0, r)]⟩ st' := by kernel_rfl) : bodyB Tryz.prog gl s0 fn (Out r st') .ret fr st := rt R hb hl
theorem rnT {fn : Func} {r : V} {R : Ren} (_ : Tg R) (hb : ((aresultsT tyT gl fr st fn.results.toList).isSome && wkB s0 R ⟨1, [(0, resV tyT gl fr st fn.results.toList)]⟩ st ⟨1, [(0, r)]⟩ st') = true := by kernel_rfl)
  (hl : wkL R ⟨1, [(0, r)]⟩ st' = wkR R ⟨1, [(0, resV tyT gl fr st fn.results.toList)]⟩ st ⟨1, [(0, r)]⟩ st' := by kernel_rfl) : bodyB Tryz.prog gl s0 fn (Out r st') .normal fr st := rno R hb hl
theorem rJ {P : Prop} (R : Ren) (q : Tg R → P := by intro t h; cases h; exact rtT t) : P := q .mk
theorem nJ {P : Prop} (R : Ren) (q : Tg R → P := by intro t h; cases h; exact rnT t) : P := q .mk
theorem rgL (h2 : Im (p) (BCodes Tryz.prog gl s0 (c :: cs) AQ (endC tyT gl ops 0 (fr, st)).1 (endC tyT gl ops 0 (fr, st)).2)) (hb : endOk tyT gl ops 0 (fr, st) = true := by kernel_rfl) : Im (p) (BCodes Tryz.prog gl s0 (.region id ops false :: c :: cs) AQ fr st) := fun k => rg (h2 k) hb
theorem rgNL (hcl : Cl s0 (AQ .normal)) (h2 : Im (p) (AQ .normal (endC tyT gl ops 0 (fr, st)).1 (endC tyT gl ops 0 (fr, st)).2)) (hb : endOk tyT gl ops 0 (fr, st) = true := by kernel_rfl) : Im (p) (BCodes Tryz.prog gl s0 [.region id ops false] AQ fr st) := fun k => rgN hcl (h2 k) hb
theorem rCL {y : Cfg} (h : Im (True) (aOpsC Tryz.prog gl ops 0 (fr, st) (toW s0 y.1 y.2))) (h2 : Im (p) (BCodes Tryz.prog gl s0 (c :: cs) AQ y.1 y.2)) : Im (p) (BCodes Tryz.prog gl s0 (.region id ops false :: c :: cs) AQ fr st) := fun k => rC (h trivial) (h2 k)
theorem rCNL {y : Cfg} (hcl : Cl s0 (AQ .normal)) (h : Im (True) (aOpsC Tryz.prog gl ops 0 (fr, st) (toW s0 y.1 y.2))) (h2 : Im (p) (AQ .normal y.1 y.2)) : Im (p) (BCodes Tryz.prog gl s0 [.region id ops false] AQ fr st) := fun k => rCN hcl (h trivial) (h2 k)
theorem edL (hb : endOk tyT gl ops i x = true := by kernel_rfl) : Im (p) (aOpsC Tryz.prog gl ops i x (toW s0 (endC tyT gl ops i x).1 (endC tyT gl ops i x).2)) := fun _ => ed hb
theorem kPL (k : Nat) {q : Option V} {v : V} (hq : q = some v) (h : Im (p) (aOpsC Tryz.prog gl ops (k + 1) (putX (runX tyT gl ops i k x) (dstAt ops k) v) K)) (hik : Nat.ble i k = true := by kernel_rfl) (he : stepX tyT gl ops i k x = withSt q (runX tyT gl ops i k x).2 := by kernel_rfl) : Im (p) (aOpsC Tryz.prog gl ops i x K) := fun z => kP k hq (h z) hik he
theorem kCL (k : Nat) (R : Ren) {f : FuncId} {args1 : List V} {st1 st1' : St} {r : V} (hc : ACalls Tryz.prog gl f args1 st1 (Out r st1')) (h : Im (p) (aOpsC Tryz.prog gl ops (k + 1) (setX (runX tyT gl ops i k x) (dstAt ops k) (V.ren R r) (fun st => St.after R st st1')) K)) (hb : goB tyT gl ops i k x R f args1 st1 = true := by kernel_rfl) (he : callL R st1 args1 = goR tyT gl ops i k x R args1 st1 := by kernel_rfl) : Im (p) (aOpsC Tryz.prog gl ops i x K) := fun z => kC k R hc (h z) hb he
theorem bFL {α : Type} {q : Operand} {x y : Code} {t : Bool} {a b : Option α} {r : α} (h1 : Im (a = some r) (BCodes Tryz.prog gl s0 (flat x cs) AQ fr st)) (h2 : Im (b = some r) (BCodes Tryz.prog gl s0 (flat y cs) AQ fr st)) (hc : fr.eval q = .bool t := by kernel_rfl) : Im ((if t = true then a else b) = some r) (BCodes Tryz.prog gl s0 (.cond q x y :: cs) AQ fr st) := fun h => bF h (fun k => b_flat _ (h1 k)) (fun k => b_flat _ (h2 k)) hc
theorem bTL {q : Operand} {x y : Code} (h1 : Im (p) (BCodes Tryz.prog gl s0 (flat x cs) AQ fr st)) (hc : fr.eval q = .bool true := by kernel_rfl) : Im (p) (BCodes Tryz.prog gl s0 (.cond q x y :: cs) AQ fr st) := fun k => bT (b_flat _ (h1 k)) hc
theorem bNL {q : Operand} {x y : Code} (h1 : Im (p) (BCodes Tryz.prog gl s0 (flat y cs) AQ fr st)) (hc : fr.eval q = .bool false := by kernel_rfl) : Im (p) (BCodes Tryz.prog gl s0 (.cond q x y :: cs) AQ fr st) := fun k => bN (b_flat _ (h1 k)) hc
theorem b_blockL (h : Im (p) (BCodes Tryz.prog gl s0 (flat c []) (blockK id (thenK (BCodes Tryz.prog gl s0 cs AQ) AQ)) fr st)) : Im (p) (BCodes Tryz.prog gl s0 (.block id c :: cs) AQ fr st) := fun k => b_block (b_flat _ (h k))
theorem b_roundL {n : Nat} (h : Im (p) (BCodes Tryz.prog gl s0 (flat c []) (thenK (bRounds Tryz.prog gl s0 c AQ n) AQ) fr st)) : Im (p) (bRounds Tryz.prog gl s0 c AQ (n + 1) fr st) := fun k => b_round (b_flat _ (h k))
theorem tk_roundL {n : Nat} (h : Im (p) (BCodes Tryz.prog gl s0 (flat c []) (thenK (bRounds Tryz.prog gl s0 c AQ n) AQ) fr st)) : Im (p) (thenK (bRounds Tryz.prog gl s0 c AQ (n + 1)) AQ .normal fr st) := fun k => tk_round (b_flat _ (h k))
theorem b_retL (h : Im (p) (AQ .ret fr st)) : Im (p) (BCodes Tryz.prog gl s0 (.ret :: cs) AQ fr st) := fun k => b_ret (h k)
theorem b_exitL (h : Im (p) (AQ (.exit id) fr st)) : Im (p) (BCodes Tryz.prog gl s0 (.exit id :: cs) AQ fr st) := fun k => b_exit (h k)
theorem b_wkL (hw : Wk s0 fr st fr' st') (h : Im (p) (BCodes Tryz.prog gl s0 (c :: cs) AQ fr' st')) : Im (p) (BCodes Tryz.prog gl s0 (c :: cs) AQ fr st) := fun k => b_wk hw (h k)
theorem tk_exitL (h : Im (p) (AQ (.exit id) fr st)) : Im (p) (thenK K AQ (.exit id) fr st) := h
theorem bk_normL (h : Im (p) (K fr st)) : Im (p) (blockK id (thenK K AQ) .normal fr st) := h
theorem bk_exitL (h : Im (p) (K fr st)) : Im (p) (blockK id (thenK K AQ) (.exit id) fr st) := fun k => bk_exit (h k)
theorem bl_exitL {Y : Type} {F : Y → AFr} {S : Y → St} {L : Y → Prop} (h : Im (p) (loopW s0 F S L fr st)) : Im (p) (blockL s0 id F S L AQ (.exit id) fr st) := fun k => bl_exit (h k)
theorem jnL {Y : Type} {F : Y → AFr} {S : Y → St} {v y : Y} (R : Ren) (hb : wkB s0 R fr st (F v) (S v) = true := by kernel_rfl) (he : wkL R (F v) (S v) = wkR R fr st (F v) (S v) := by kernel_rfl) : Im (some v = some y) (loopW s0 F S (fun z => y = z) fr st) := fun h => ⟨v, sI h, Wk.gen R hb he⟩
theorem lpL {X Y : Type} (g : Nat → X → Option Y) {o : Y} {n : Nat} (x0 : X) (R : Ren) (F : X → AFr) (S : X → St) (round : ∀ k x, Im (g (k + 1) x = some o) (BCodes Tryz.prog gl s0 (flat c []) (thenK (loopW s0 F S (fun x => g k x = some o)) AQ) (F x) (S x))) (h0 : ∀ x, g 0 x = none := by intro _; rfl) (hb : wkB s0 R fr st (F x0) (S x0) = true := by kernel_rfl) (he : wkL R (F x0) (S x0) = wkR R fr st (F x0) (S x0) := by kernel_rfl) : Im (g n x0 = some o) (BCodes Tryz.prog gl s0 (.loop c :: cs) AQ fr st) :=
 fun h => b_loop F S (fun k x => g k x = some o) (fun x hx => by rw [h0] at hx; cases hx) n x0 h (Wk.gen R hb he) fun k x h => b_flat _ (round k x h)
theorem cuL {Y Z : Type} {o : Option Y} {f : Y → Option Z} {r : Z} (F : Y → AFr) (S : Y → St) (h1 : ∀ y, Im (o = some y) (BCodes Tryz.prog gl s0 [c] (thenK (loopW s0 F S (fun z => y = z)) AQ) fr st)) (h2 : ∀ y, Im (f y = some r) (BCodes Tryz.prog gl s0 (d :: cs) AQ (F y) (S y))) : Im (o.bind f = some r) (BCodes Tryz.prog gl s0 (c :: d :: cs) AQ fr st) := fun h => cuE h F S h1 h2
theorem blL {Y Z : Type} {o : Option Y} {f : Y → Option Z} {r : Z} (F : Y → AFr) (S : Y → St) (h1 : ∀ y, Im (o = some y) (BCodes Tryz.prog gl s0 (flat c []) (blockL s0 id F S (fun z => y = z) AQ) fr st)) (h2 : ∀ y, Im (f y = some r) (BCodes Tryz.prog gl s0 (d :: cs) AQ (F y) (S y))) : Im (o.bind f = some r) (BCodes Tryz.prog gl s0 (.block id c :: d :: cs) AQ fr st) := fun h => blE h F S (fun y k => b_flat _ (h1 y k)) h2
end
end Go.Abs
end
section
namespace Go.Abs
open Go.RowKit (Below)
open Go Go.Proofs
section
variable {P : Program} {T : TypeId → TI} {gl : Nat → List V} {ops : Array Oper} {K : AFr → St → Prop} {E : List Nat} {B : List (List Nat)}
end
section
variable {gl : Nat → List V} {ops : Array Oper} {K : AFr → St → Prop} {s0 : St} {cs : List Code} {AQ : Exit → AFr → St → Prop} {id : Nat} {fr fr' : AFr} {st st' : St} {i : Nat} {x : Cfg} {E : List Nat} {B : List (List Nat)} {rest seen : List Nat} {fx : List (Nat × Option V × V)}
end
theorem x_oappS {T : TypeId → TI} {l l' : List Int} {s : List UInt8} {n id m f : Nat} {e : TypeId} {bytes : Nat} (ho : appOk T e 1 bytes = true) (h : oapp bytes n l (s2b s) = some l') :
  ∀ st : St, st.vars.length = m → st.fams.length = f → st.vars[id]? = some [.buf (l.map (vI .u8))] →
   aappendT T st (.slice e 1 bytes) .str (.own id n 1) (.str s) = some (.own m (n + (s2b s).length) 1, (st.put id []).push [.buf (l'.map (vI .u8))]) := by
 intro st hm hf hc
 have h1 := x_oapp (T := T) (c := vI .u8) (e := e) (e2 := e) (bytes := bytes) (b2 := bytes) (tok2 := .none) ho h st hm hf hc
 rw [← h1]
 have h2 : (s2b s).map (fun x => [vI .u8 x]) = byteRow s := by rw [byteRow_s2b]; rfl
 rw [h2]
 rfl
section
variable {s0 st : St} {fr : AFr}
theorem VO.repl {G : Gh} {r : Nat} {cs : List V} {o : Obj} {i : Nat} {u v : V} (hi : cs[i]? = some u) (hu : (∀ es, u ≠ .mp es) ∧ (∀ s p, u ≠ .sit s p) ∧ (∀ b, u ≠ .buf b)) (hv : ∀ c, VR G u c → VR G v c) (h : VO G r cs o) : VO G r (cs.set i v) o := by
 cases h with
 | @cells _ C el h1 h2 h3 =>
  refine .cells (by rw [List.length_set]; exact h1) ?_ h3
  intro k x c hx hc
  rw [List.getElem?_set] at hx
  split at hx
  ·rename_i e; subst e
   split at hx
   ·injection hx with hx; subst hx
    exact hv c (h2 _ _ _ hi hc)
   ·cases hx
  ·exact h2 k x c hx hc
 | @mp es _ _ _ _ =>
  exfalso
  cases i with
  | zero => simp at hi; exact hu.1 _ hi.symm
  | succ i => simp at hi
 | sit s pos =>
  exfalso
  cases i with
  | zero => simp at hi; exact hu.2.1 _ _ hi.symm
  | succ i => simp at hi
 | buf _ _ _ _ =>
  exfalso
  cases i with
  | zero => simp at hi; exact hu.2.2 _ hi.symm
  | succ i => simp at hi
theorem Wk.frzM {α : Type} {c : α → V} {l l' : List α} {cs : List V} (j i id n : Nat) (hh : ofrz n l = some l') (h : (st.vars[j]?, cs[i]?, st.vars[id]?) = (some cs, some (.own id n 1), some [.buf (l.map c)])) :
  Wk s0 fr st fr ((st.put id []).put j (cs.set i (.sl 1 (l'.map fun x => [c x]) .none))) := by
 unfold ofrz at hh
 split at hh
 ·rename_i hle; injection hh with hh; subst hh
  injection h with hj h; injection h with hi hid
  have hne : j ≠ id := fun e => by
   subst e; rw [hj] at hid; injection hid with hid; subst hid
   cases i with
   | zero => simp at hi
   | succ i => simp at hi
  have hu : (∀ es, V.own id n 1 ≠ .mp es) ∧ (∀ s p, V.own id n 1 ≠ .sit s p) ∧ (∀ b, V.own id n 1 ≠ .buf b) := ⟨(fun _ e => by cases e), (fun _ _ e => by cases e), (fun _ e => by cases e)⟩
  have hchunk : chunk 1 n ((l.map c).take (n * 1)) = (l.take n).map fun x => [c x] := by
   have hl : (l.take n).length = n := by simp; omega
   rw [Nat.mul_one, ← List.map_take, ← chunk_one c (l.take n), hl]
  have hgone : V.gone cs = false := by
   match cs, hi with
   | [], hi => simp at hi
   | [x], hi =>
    cases i with
    | zero => simp at hi; subst hi; rfl
    | succ i => simp at hi
   | _ :: _ :: _, _ => simp [V.gone]
  intro gl w0 G0 G w a g1 g2 g3 g4
  have hle1 : st.le (st.put id []) := St.le_put st id []
  have hle2 : (st.put id []).le ((st.put id []).put j (cs.set i (.sl 1 ((l.take n).map fun x => [c x]) .none))) := St.le_put _ _ _
  have hle3 := hle1.trans hle2
  have fin : ∀ G', Ext st G G' → Rel gl w0 G' (st.put id []) w → (∀ x, VR G' (.own id n 1) x → VR G' (.sl 1 ((l.take n).map fun x => [c x]) .none) x) → s0.le ((st.put id []).put j (cs.set i (.sl 1 ((l.take n).map fun x => [c x]) .none))) ∧ ∃ G', Ext s0 G0 G' ∧ Rel gl w0 G' ((st.put id []).put j (cs.set i (.sl 1 ((l.take n).map fun x => [c x]) .none))) w ∧ FrRel G' ((st.put id []).put j (cs.set i (.sl 1 ((l.take n).map fun x => [c x]) .none))) fr a := by
   intro G' hx hr hv
   have g5 := g4.ext hx hle1
   refine ⟨g1.trans hle3, G', g2.trans g1 hx, hr.forget (by simp) (fun t p h => h) ?_, g5.defers, g5.size, fun t => ⟨V.sc_mono hle2 _ (g5.slot t).1, (g5.slot t).2⟩⟩
   have hj' : (st.put id []).vars[j]? = some cs := by
    simp only [St.put, List.getElem?_set, hne.symm, if_false]; exact hj
   intro id' cc hc
   rcases St.put_get hc with ⟨rfl, rfl⟩ | ⟨hne', hc⟩
   ·refine ⟨V.scs_mono hle2 _ ((V.scs_iff _ _).2 ?_), ?_⟩
    ·intro v hv'
     rcases List.mem_or_eq_of_mem_set hv' with hm | rfl
     ·exact (V.scs_iff _ _).1 (hr.sc _ _ hj') v hm
     ·simp [V.sc]
    ·intro hn
     exact ⟨cs, hj', hgone, fun r o ho => VO.repl hi hu hv ho⟩
   ·refine ⟨V.scs_mono hle2 _ (hr.sc _ _ hc), ?_⟩
    intro hn
    exact ⟨cc, hc, hn, fun r o ho => ho⟩
  rcases Nat.eq_zero_or_pos n with hn0 | hpos
  ·subst hn0
   refine fin G (.refl _ _) (g3.kill id) ?_
   intro x hx
   cases hx with
   | own k0 _ _ _ => exact absurd k0 (Nat.lt_irrefl _)
   | ownnil => simp only [List.take_zero, List.map_nil]; exact .slnil _ _
  ·obtain ⟨b0, o0, m1, m2, m3, m4, m5⟩ := g3.vars j cs hj hgone
   have hown : ∃ x, VR G (.own id n 1) x := by
    cases m4 with
    | @cells _ C el h1 h2 h3 =>
     have hlt : i < cs.length := by
      rcases Nat.lt_or_ge i cs.length with h | h
      ·exact h
      ·rw [List.getElem?_eq_none h] at hi; cases hi
     exact ⟨C[i]'(by omega), h2 i _ _ hi (by simp)⟩
    | _ =>
     exfalso
     cases i with
     | zero => simp at hi
     | succ i => simp at hi
   obtain ⟨x, hx⟩ := hown
   cases hx with
   | ownnil => exact absurd hpos (Nat.lt_irrefl _)
   | @own _ _ _ b cap k0 k1 k2 k3 =>
    obtain ⟨G', r1, r2, r3⟩ := g3.freeze hid k1 k0 (by decide) (by simpa using hle) k2 k3 n
    have hf : Rel gl w0 G' (st.put id []) w := by
     refine r1.forget (by simp [St.pushFam, St.put]) ?_ ?_
     ·intro t' q ht'
      have : t' < st.fams.length := get_lt' ht'
      simp only [St.pushFam, St.put] at ht' ⊢
      rw [List.getElem?_append_left this]; exact ht'
     ·intro x c hc
      exact ⟨(g3.kill id).sc x c hc, fun hn => ⟨c, hc, hn, fun _ _ x => x⟩⟩
    refine fin G' r2 hf ?_
    rw [hchunk] at r3
    intro y hy
    cases hy with
    | ownnil => exact absurd hpos (Nat.lt_irrefl _)
    | @own _ _ _ b' cap' q0 q1 q2 q3 =>
     have hb : b' = b := by
      have := r2.var id (get_lt' hid)
      rw [q1, k1] at this; injection this
     subst hb
     have hlen : ((l.take n).map fun x => [c x]).length = n := by simp; omega
     generalize hrows : ((l.take n).map fun x => [c x]) = rows at r3 hlen ⊢
     subst hlen
     cases r3 with
     | sl e1 e2 e3 => exact .sl e1 trivial q2
 ·cases hh
end
section
variable {P : Program}
theorem idxA_run {G : Gh} {w : World} {t el : TypeId} {n : Nat} {vs : List V} {x : Value} {k m : IntKind} {i : Nat} {z : Int} (hu : P.underlying t = some (.array n el)) (hok : ((ti P el).ok, (ti P el).sz, (ti P el).d) = (true, 1, .int m)) (hi : i < n) (hx : VR G (.agg vs) x) (hc : vs[i]? = some (.int m z)) :
  (Instr.index t x (.int k i)).run P w = .ok (.int m z) w := by
 injection hok with h1 hok; injection hok with h2 h3
 obtain ⟨inf, d, hin, hdd, hsz, htd⟩ := ti_ok h1
 have hne : (ti P el).d ≠ .other := by rw [h3]; simp
 have hag : (ti P el).d.agg = isAggD d := by rw [htd] at hne ⊢; exact agg_of_d hne
 have hs1 : inf.size = 1 := by rw [← hsz]; exact h2
 have ha' : (ti P el).d.agg = false := by rw [h3]; rfl
 cases hx with
 | @agg _ ca hl hr =>
  have hlt : i < ca.size := by rw [← hl]; exact get_lt' hc
  have hv := hr i _ (ca[i]) hc (by simp [hlt])
  have he : ca[i] = .int m z := by
   generalize ca[i] = y at hv
   cases hv; rfl
  simp only [Instr.index, asIntOf, Sem.run_bind, Sem.run_pure, run_underlying hu, Result.andThen_ok, Int.natCast_nonneg, Int.ofNat_lt, hi, and_self, if_true, run_sizeOf' hin, part, run_isAgg hdd, ← hag, ha', Bool.false_eq_true, if_false, Int.toNat_natCast, hs1, Nat.mul_one]
  have : ca[i]? = some ca[i] := by simp [hlt]
  rw [this, he]; rfl
theorem b_idxA {gl : Nat → List V} {s0 : St} {cs : List Code} {AQ : Exit → AFr → St → Prop} {id : Nat} {ops : Array Oper} {fr : AFr} {st : St} {t el n i a b : Nat} {k m : IntKind} {z : Int} {vs : List V} (fr' : AFr) (st' : St) (hcl : Cl s0 (BCodes P gl s0 cs AQ))
  (ho : (ops.toList.head?.map fun o => (o.op, o.guard)) = some (.index t (.tmp a) (.tmp b), none)) (hu : P.underlying t = some (.array n el)) (hok : ((ti P el).ok, (ti P el).sz, (ti P el).d) = (true, 1, .int m)) (hin : i < n)
  (hx : lget fr.l a = .agg vs) (hi : lget fr.l b = .int k i) (hc : vs[i]? = some (.int m z)) (h : aOpsC P gl ops 1 (putX (fr, st) (dstAt ops 0) (.int m z)) (toW s0 fr' st'))
  (h2 : BCodes P gl s0 cs AQ fr' st') : BCodes P gl s0 (.region id ops false :: cs) AQ fr st := by
 refine BCode.of ?_
 intro w0 G w ac h1 hf
 refine wp_region ?_
 obtain ⟨o, rest, hops, hoo, hg⟩ : ∃ o rest, ops.toList = o :: rest ∧ o.op = .index t (.tmp a) (.tmp b) ∧ o.guard = none := by
  cases hl : ops.toList with
  | nil => rw [hl] at ho; simp at ho
  | cons o r =>
   rw [hl] at ho
   simp only [List.head?_cons, Option.map_some, Option.some.injEq, Prod.mk.injEq] at ho
   exact ⟨o, r, rfl, ho.1, ho.2⟩
 have ho0 : ops[0]? = some o := by rw [← Array.getElem?_toList, hops]; rfl
 have hsz : ops.size = rest.length + 1 := by rw [← Array.length_toList, hops]; rfl
 have hd : dstAt ops 0 = o.dst := by simp [dstAt, opsGet, ho0]
 rw [putX_eq, hd] at h
 have hs1 := (hf.slot a).2
 have hs2 := (hf.slot b).2
 rw [hx] at hs1; rw [hi] at hs2
 have e1 : ac.eval (.tmp b) = .int k i := by
  show ac.tmps.getD b undef = _
  generalize ac.tmps.getD b undef = y at hs2
  cases hs2; rfl
 have hrun := idxA_run (w := w) (k := k) hu hok hin hs1 hc
 rw [List.range_eq_range', hsz, List.range'_succ]
 simp only [wpOps, ho0]
 rw [if_pos (by simp [Region.wanted, hg])]
 refine .inl ?_
 have he : (execOp ac.eval o).run P w = .ok (.value (.int m z)) w := by
  have e0 : ac.eval (.tmp a) = ac.tmps.getD a undef := rfl
  simp only [execOp, hoo, Sem.run_bind, e1, e0, hrun, Result.andThen_ok, Sem.run_pure]
 simp only [Oper.wp, he, Oper.upon]
 have hd1 : ops.toList.drop 1 = rest := by rw [hops]; rfl
 unfold aOpsC at h
 rw [hd1] at h
 refine aOps_sound (P := P) (gl := gl) (w0 := w0) (ops := ops) rest 1 _ st G w _ hd1 h h1 (hf.put o.dst (by simp [V.sc]) (.int m z)) ?_
 intro fr2 st2 G2 a2 w2 m1 m2 m3 m4 m5
 exact ⟨fr2, st2, G2, hcl _ _ _ _ m1 h2, m2, m3, m4, m5⟩
end
section
variable {gl : Nat → List V} {ops : Array Oper} {s0 : St} {c : Code} {cs : List Code} {AQ : Exit → AFr → St → Prop} {id : Nat} {fr : AFr} {st : St} {p : Prop}
theorem b_wkNL {fr' : AFr} {st' : St} (hcl : Cl s0 (AQ .normal)) (hw : Wk s0 fr st fr' st') (h : Im p (AQ .normal fr' st')) : Im p (AQ .normal fr st) := fun k => hcl _ _ _ _ hw (h k)
theorem idL (t el n i a b : Nat) (m : IntKind) (z : Int) (vs : List V) (R : Ren) (fr' : AFr) (st' : St) (h2 : Im p (BCodes Tryz.prog gl s0 (c :: cs) AQ fr' st'))
  (ho : (ops.toList.head?.map fun o => (o.op, o.guard)) = some (.index t (.tmp a) (.tmp b), none) := by kernel_rfl) (hu : Tryz.prog.underlying t = some (.array n el) := by kernel_rfl) (hok : ((ti Tryz.prog el).ok, (ti Tryz.prog el).sz, (ti Tryz.prog el).d) = (true, 1, .int m) := by kernel_rfl) (hin : Nat.blt i n = true := by kernel_rfl)
  (hx : lget fr.l a = .agg vs := by kernel_rfl) (hi : lget fr.l b = .int .i64 i := by kernel_rfl) (hc : vs[i]? = some (.int m z) := by kernel_rfl)
  (hb : endB tyT gl ops 1 (putX (fr, st) (dstAt ops 0) (.int m z)) s0 R fr' st' = true := by kernel_rfl) (he : wkL R fr' st' = endR tyT gl ops 1 (putX (fr, st) (dstAt ops 0) (.int m z)) R fr' st' := by kernel_rfl) : Im p (BCodes Tryz.prog gl s0 (.region id ops false :: c :: cs) AQ fr st) :=
 fun k => b_idxA fr' st' cl_cons ho hu hok (Nat.le_of_ble_eq_true hin) hx hi hc (kE R hb he) (h2 k)
end
end Go.Abs
end
section
namespace Go.Abs
open Go Go.Proofs
structure T_hash_state where
 f_0 : Int
 f_1 : Int
 f_2 : Int
 f_3 : Int
 f_4 : Int
 f_5 : Int
 f_6 : Int
 f_7 : Int
def T_hash_state.cells (x : T_hash_state) : List V := [.int .u32 x.f_0, .int .u32 x.f_1, .int .u32 x.f_2, .int .u32 x.f_3, .int .u32 x.f_4, .int .u32 x.f_5, .int .u32 x.f_6, .int .u32 x.f_7]
structure T_hash_Stream where
 f_h : T_hash_state
 f_rest : (List Int)
 f_n : Int
def T_hash_Stream.cells (x : T_hash_Stream) : List V := [.int .u32 x.f_h.f_0, .int .u32 x.f_h.f_1, .int .u32 x.f_h.f_2, .int .u32 x.f_h.f_3, .int .u32 x.f_h.f_4, .int .u32 x.f_h.f_5, .int .u32 x.f_h.f_6, .int .u32 x.f_h.f_7, ql 1 (cI .u8) x.f_rest, qi x.f_n]
structure T_S352 where
 f_0 : Int
 f_1 : Int
 f_2 : Int
 f_3 : Int
 f_4 : Int
 f_5 : Int
 f_6 : Int
 f_7 : Int
 f_8 : Int
 f_9 : Int
 f_10 : Int
 f_11 : Int
 f_12 : Int
 f_13 : Int
 f_14 : Int
 f_15 : Int
 f_16 : Int
 f_17 : Int
 f_18 : Int
 f_19 : Int
 f_20 : Int
 f_21 : Int
 f_22 : Int
 f_23 : Int
 f_24 : Int
 f_25 : Int
 f_26 : Int
 f_27 : Int
 f_28 : Int
 f_29 : Int
 f_30 : Int
 f_31 : Int
 f_32 : Int
 f_33 : Int
 f_34 : Int
 f_35 : Int
 f_36 : Int
 f_37 : Int
 f_38 : Int
 f_39 : Int
 f_40 : Int
 f_41 : Int
 f_42 : Int
 f_43 : Int
 f_44 : Int
 f_45 : Int
 f_46 : Int
 f_47 : Int
 f_48 : Int
 f_49 : Int
 f_50 : Int
 f_51 : Int
 f_52 : Int
 f_53 : Int
 f_54 : Int
 f_55 : Int
 f_56 : Int
 f_57 : Int
 f_58 : Int
 f_59 : Int
 f_60 : Int
 f_61 : Int
 f_62 : Int
 f_63 : Int
def T_S352.cells (x : T_S352) : List V := [.int .u32 x.f_0, .int .u32 x.f_1, .int .u32 x.f_2, .int .u32 x.f_3, .int .u32 x.f_4, .int .u32 x.f_5, .int .u32 x.f_6, .int .u32 x.f_7, .int .u32 x.f_8, .int .u32 x.f_9, .int .u32 x.f_10, .int .u32 x.f_11, .int .u32 x.f_12, .int .u32 x.f_13, .int .u32 x.f_14, .int .u32 x.f_15, .int .u32 x.f_16, .int .u32 x.f_17, .int .u32 x.f_18, .int .u32 x.f_19, .int .u32 x.f_20, .int .u32 x.f_21, .int .u32 x.f_22, .int .u32 x.f_23, .int .u32 x.f_24, .int .u32 x.f_25, .int .u32 x.f_26, .int .u32 x.f_27, .int .u32 x.f_28, .int .u32 x.f_29, .int .u32 x.f_30, .int .u32 x.f_31, .int .u32 x.f_32, .int .u32 x.f_33, .int .u32 x.f_34, .int .u32 x.f_35, .int .u32 x.f_36, .int .u32 x.f_37, .int .u32 x.f_38, .int .u32 x.f_39, .int .u32 x.f_40, .int .u32 x.f_41, .int .u32 x.f_42, .int .u32 x.f_43, .int .u32 x.f_44, .int .u32 x.f_45, .int .u32 x.f_46, .int .u32 x.f_47, .int .u32 x.f_48, .int .u32 x.f_49, .int .u32 x.f_50, .int .u32 x.f_51, .int .u32 x.f_52, .int .u32 x.f_53, .int .u32 x.f_54, .int .u32 x.f_55, .int .u32 x.f_56, .int .u32 x.f_57, .int .u32 x.f_58, .int .u32 x.f_59, .int .u32 x.f_60, .int .u32 x.f_61, .int .u32 x.f_62, .int .u32 x.f_63]
end Go.Abs
end
