/- Layer: an abstract reading of values and worlds, and that the model's operations, regions, loops and calls keep to it. No condition beyond each statement's own. -/
import Derived.Test.YtbggpcnbbhjiaaaGreatDoorA13
set_option linter.unusedVariables false
set_option linter.unusedSimpArgs false
set_option linter.unnecessarySimpa false
section
namespace Go.Abs
open Go.RowKit (Below)
@[congr] theorem ux.congr {p p' A A' B B' : Prop} (hp : p = p') (ha : p' → A = A') (hb : ¬p' → B = B') : ux p A B = ux p' A' B' := by
 subst hp
 apply propext
 exact⟨fun h=>⟨fun x=>(ha x)▸h.1 x,fun x=>(hb x)▸h.2 x⟩,fun h=>⟨fun x=>(ha x).symm▸h.1 x,fun x=>(hb x).symm▸h.2 x⟩⟩
theorem ux.posE {p A B:Prop} (h:p):ux p A B=A:=propext ⟨fun x=>x.1 h,fun x=>⟨fun _=>x,fun y=>absurd h y⟩⟩
theorem ux.negE {p A B:Prop} (h:¬p):ux p A B=B:=propext ⟨fun x=>x.2 h,fun x=>⟨fun y=>absurd y h,fun _=>x⟩⟩
@[simp] theorem ux.true_ (A B : Prop) : ux True A B = A := ux.posE trivial
@[simp] theorem ux.false_ (A B : Prop) : ux False A B = B := ux.negE id
@[simp] theorem ux.not_ (p A B : Prop) : ux (¬p) A B = ux p B A := by
 by_cases h:p
 ·rw [ux.negE (by simpa using h),ux.posE h]
 ·rw [ux.posE h,ux.negE h]
@[simp] theorem ux.same (p A : Prop) : ux p A A = A := by
 by_cases h:p
 ·rw [ux.posE h]
 ·rw [ux.negE h]
@[simp] theorem ux.in1 (p A B C : Prop) : ux p (ux p A B) C = ux p A C := by
 by_cases h:p
 ·simp only [ux.posE h]
 ·simp only [ux.negE h]
@[simp] theorem ux.in2 (p A B C : Prop) : ux p A (ux p B C) = ux p A C := by
 by_cases h:p
 ·simp only [ux.posE h]
 ·simp only [ux.negE h]
@[simp] theorem ux.meet (p : Prop) [Decidable p] (K : AFr → St → Prop) (x x' : AFr) (y y' : St) : ux p (K x y) (K x' y') = K (if p then x else x') (if p then y else y') := by
 by_cases h:p
 ·rw [ux.posE h,if_pos h,if_pos h]
 ·rw [ux.negE h,if_neg h,if_neg h]
@[simp] theorem ux.exL {α : Type} (p : Prop) [Decidable p] (x y : α) (R : α → Prop) : (∃ v, ux p (x = v) (v = y) ∧ R v) = R (if p then x else y) := by
 apply propext
 by_cases h:p
 ·simp only [ux.posE h,if_pos h]
  exact⟨fun⟨v,hv,hr⟩=>hv▸hr,fun hr=>⟨_,rfl,hr⟩⟩
 ·simp only [ux.negE h,if_neg h]
  exact⟨fun⟨v,hv,hr⟩=>hv▸hr,fun hr=>⟨_,rfl,hr⟩⟩
@[simp] theorem ux.eqL {α : Type} (p : Prop) [Decidable p] (x y : α) : ux p (x = if p then x else y) ((if p then x else y) = y) = True := by
 by_cases h:p
 ·simp only [ux.posE h,if_pos h]
 ·simp only [ux.negE h,if_neg h]
@[simp] theorem lN {α : Type} (p : Prop) [Decidable p] (a b c : α) : (if p then (if p then a else b) else c) = if p then a else c := by
 by_cases h:p<;>simp [h]
@[simp] theorem lP {α : Type} (p : Prop) [Decidable p] (a b c : α) : (if p then a else if p then b else c) = if p then a else c := by
 by_cases h:p<;>simp [h]
@[simp] theorem oP (p : Prop) [Decidable p] (n : Nat) (l l' : List (Nat × V)) : (if p then (⟨n, l⟩ : AFr) else ⟨n, l'⟩) = ⟨n, if p then l else l'⟩ := by
 by_cases h:p<;>simp [h]
@[simp] theorem n9 (p : Prop) [Decidable p] (k : Nat) (v v' : V) (r r' : List (Nat × V)) : (if p then (k, v) :: r else (k, v') :: r') = (k, if p then v else v') :: (if p then r else r') := by
 by_cases h:p<;>simp [h]
@[simp] theorem lM (p : Prop) [Decidable p] (a b : Bool) : (if p then V.bool a else V.bool b) = V.bool (if p then a else b) := by
 by_cases h:p<;>simp [h]
@[simp] theorem mA (p : Prop) [Decidable p] (k : IntKind) (a b : Int) : (if p then V.int k a else V.int k b) = V.int k (if p then a else b) := by
 by_cases h:p<;>simp [h]
@[simp] theorem mt (p : Prop) [Decidable p] (a b : List UInt8) : (if p then V.str a else V.str b) = V.str (if p then a else b) := by
 by_cases h:p<;>simp [h]
theorem ux.callL {P:Program} {gl:Nat→List V} {p B:Prop} {f:FuncId} {args:List V} {st:St} {v:V} {Q:V→St→Prop} (h:p→wN P gl f args st fun r s=>s=st∧r=v) (h2:ux p (Q v st) B):ux p (wN P gl f args st Q) B:=
 ⟨fun hp=>(h hp).mono (by rintro r s ⟨rfl,rfl⟩; exact h2.1 hp),h2.2⟩
theorem ux.callR {P:Program} {gl:Nat→List V} {p A:Prop} {f:FuncId} {args:List V} {st:St} {v:V} {Q:V→St→Prop} (h:¬p→wN P gl f args st fun r s=>s=st∧r=v) (h2:ux p A (Q v st)):ux p A (wN P gl f args st Q):=
 ⟨h2.1,fun hp=>(h hp).mono (by rintro r s ⟨rfl,rfl⟩; exact h2.2 hp)⟩
@[congr] theorem wN.congrArgs {P : Program} {gl : Nat → List V} {f f' : FuncId} {args args' : List V} {st st' : St} {Q : V → St → Prop} (hf : f = f') (ha : args = args') (hs : st = st') : wN P gl f args st Q = wN P gl f' args' st' Q := by
 subst hf ha hs; rfl
attribute [simp ↓] kl aOp pO
attribute [simp] qX Y3 wj AFr.eval AFr.put xH U9 dc XB Pr PM aun BP uL GG W0 Xx rd TD.agg V.isCells V.isCell V.cells V.of V.ofCell V.add V.isNil uU gU qN Z7 W8 kK Wj WC Bg V.pure V.pures V.pcell V.pcells V.sc V.scs YY
attribute [simp] List.getElem?_cons_zero List.getElem?_cons_succ List.getElem?_nil IntKind.bits
def St.ext (st:St) (xs:List (List V)) (ys:List Nat):St:=⟨st.vars++xs,st.fams++ys⟩
theorem St.ext_nil (st:St):st.ext [] []=st:=by simp [St.ext]
@[simp] theorem St.ext_push (st : St) (xs : List (List V)) (ys : List Nat) (c : List V) : (st.ext xs ys).push c = st.ext (xs ++ [c]) ys := by simp [St.ext, St.push]
@[simp] theorem St.ext_pushFam (st : St) (xs : List (List V)) (ys : List Nat) (p : Nat) : (st.ext xs ys).pushFam p = st.ext xs (ys ++ [p]) := by simp [St.ext, St.pushFam]
@[simp] theorem St.ext_vars_length (st : St) (xs : List (List V)) (ys : List Nat) : (st.ext xs ys).vars.length = st.vars.length + xs.length := by simp [St.ext]
@[simp] theorem St.ext_fams_length (st : St) (xs : List (List V)) (ys : List Nat) : (st.ext xs ys).fams.length = st.fams.length + ys.length := by simp [St.ext]
@[simp high] theorem St.ext_get (st : St) (xs : List (List V)) (ys : List Nat) (k : Nat) : (st.ext xs ys).vars[st.vars.length + k]? = xs[k]? := by simp only [St.ext]; rw [List.getElem?_append_right (by omega)]; congr 1; omega
@[simp high] theorem St.ext_get0 (st : St) (xs : List (List V)) (ys : List Nat) : (st.ext xs ys).vars[st.vars.length]? = xs[0]? := by simp only [St.ext]; rw [List.getElem?_append_right (by omega)]; congr 1; omega
@[simp high] theorem St.ext_fam (st : St) (xs : List (List V)) (ys : List Nat) (k : Nat) : (st.ext xs ys).fams[st.fams.length + k]? = ys[k]? := by simp only [St.ext]; rw [List.getElem?_append_right (by omega)]; congr 1; omega
@[simp high] theorem St.ext_fam0 (st : St) (xs : List (List V)) (ys : List Nat) : (st.ext xs ys).fams[st.fams.length]? = ys[0]? := by simp only [St.ext]; rw [List.getElem?_append_right (by omega)]; congr 1; omega
@[simp high] theorem St.ext_put (st : St) (xs : List (List V)) (ys : List Nat) (k : Nat) (c : List V) : (st.ext xs ys).put (st.vars.length + k) c = st.ext (xs.set k c) ys := by simp [St.ext, St.put]
@[simp high] theorem St.ext_put0 (st : St) (xs : List (List V)) (ys : List Nat) (c : List V) : (st.ext xs ys).put st.vars.length c = st.ext (xs.set 0 c) ys := by
 have:=St.ext_put st xs ys 0 c; simpa using this
@[simp high] theorem St.ext_setFam (st : St) (xs : List (List V)) (ys : List Nat) (k p : Nat) : (st.ext xs ys).setFam (st.fams.length + k) p = st.ext xs (ys.set k p) := by simp [St.ext, St.setFam]
@[simp high] theorem St.ext_setFam0 (st : St) (xs : List (List V)) (ys : List Nat) (p : Nat) : (st.ext xs ys).setFam st.fams.length p = st.ext xs (ys.set 0 p) := by
 have:=St.ext_setFam st xs ys 0 p; simpa using this
@[simp] theorem St.ext_ext (st : St) (xs xs' : List (List V)) (ys ys' : List Nat) : (st.ext xs ys).ext xs' ys' = st.ext (xs ++ xs') (ys ++ ys') := by simp [St.ext]
theorem JH {α:Type} {l:List α} {i:Nat} {x:α} (h:l[i]? =some x):i<l.length:=by
 rcases Nat.lt_or_ge i l.length with h'|h'
 ·exact h'
 ·rw [List.getElem?_eq_none h']at h; cases h
theorem St.ext_old (st:St) (xs:List (List V)) (ys:List Nat) {id:Nat} {c:List V} (h:st.vars[id]? =some c):(st.ext xs ys).vars[id]? =some c:=by
 simp [St.ext,List.getElem?_append_left (JH h),h]
theorem St.ext_oldFam (st:St) (xs:List (List V)) (ys:List Nat) {t p:Nat} (h:st.fams[t]? =some p):(st.ext xs ys).fams[t]? =some p:=by
 simp [St.ext,List.getElem?_append_left (JH h),h]
@[simp] theorem St.put_vars_length (st : St) (id : Nat) (c : List V) : (st.put id c).vars.length = st.vars.length := by simp [St.put]
@[simp] theorem St.put_fams (st : St) (id : Nat) (c : List V) : (st.put id c).fams = st.fams := rfl
theorem St.le_ext (st:St) (xs:List (List V)) (ys:List Nat):st.le (st.ext xs ys):=
 ⟨by simp,fun t p h=>⟨p,St.ext_oldFam st xs ys h,Nat.le_refl _⟩⟩
theorem gr.pop {st:St} (h:st.ok) (xs:List (List V)) (ys:List Nat):gr (st.ext xs ys) st:=
 ⟨by simp,fun t p hp=>St.ext_oldFam st xs ys hp,fun id cs hc=>⟨h id cs hc,St.ext_old st xs ys hc⟩⟩
theorem gr.refl {st:St} (h:st.ok):gr st st:=⟨Nat.le_refl _,fun t p hp=>hp,fun id cs hc=>⟨h id cs hc,hc⟩⟩
theorem GD.ends {P:Program} {gl:Nat→List V} {fn:Func} {st:St} {Q:V→St→Prop} {e:Exit} {fr:AFr} {xs:List (List V)} {ys:List Nat} {vs:List V} (he:e= .normal∨e= .ret) (hok:st.ok)
  (hv:qN P gl fr (st.ext xs ys) fn.results.toList=some vs) (hs:V.sc st (W8 vs)) (hq:Q (W8 vs) st):GD P gl fn st Q e fr (st.ext xs ys):=
 ⟨he,vs,W8 vs,st,hv, .refl _,hs,gr.pop hok xs ys, .refl _,hq⟩
theorem wN.body {P : Program} {gl : Nat → List V} {f : FuncId} {fn : Func} {c : Code} {args : List V} {st : St} {Q : V → St → Prop} (hf : P.funcs[f]? = some fn) (hb : fn.body = some c) (hn : (fn.name == "runtime.NumGoroutine") = false) (hl : args.length ≤ fn.ntmps)
  (h:st.ok→uC P gl c (GD P gl fn st Q) (YY fn.ntmps args) (st.ext [] [])):wN P gl f args st Q:=
 wN.of_body hf hb hn hl (by rw [St.ext_nil]at h; exact h)
end Go.Abs
end
