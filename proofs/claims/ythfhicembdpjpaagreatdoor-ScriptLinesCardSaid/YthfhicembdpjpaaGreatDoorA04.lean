/- Abstract values: a part. No condition beyond each statement's own. -/
import Derived.Test.YthfhicembdpjpaaGreatDoorA03
set_option linter.all false
section
namespace Go.Abs
open Go.RowKit (Below)
theorem VR.ofCell (G:Gh) (v:Value):VR G (V.ofCell v) v:=by
 unfold V.ofCell
 split<;>first|exact .bool _|exact .int _ _|exact .str _|exact .nilp|exact .nilsl|exact .nilfunc|exact .niliface|exact .junk _
theorem V.pure_ofCell (v:Value):V.pure (V.ofCell v)=true:=by
 unfold V.ofCell
 split<;>rfl
theorem VRs.ofCells (G:Gh) (cs:Array Value):VRs G (cs.toList.map V.ofCell) cs:=by
 refine⟨O2, ?_⟩
 intro i v c hv hc
 rw [List.getElem?_map,Array.getElem?_toList,hc]at hv
 simp at hv; subst hv
 exact VR.ofCell G c
theorem VR.of (G:Gh) (v:Value):VR G (V.of v) v:=by
 cases v with
 |agg cs=>exact .agg (VRs.ofCells G cs).1 (VRs.ofCells G cs).2
 |tuple cs=>exact .tuple (VRs.ofCells G cs).1 (VRs.ofCells G cs).2
 |_=>simp only [V.of]; exact VR.ofCell G _
theorem V.pures_ofCells (cs:List Value):V.pures (cs.map V.ofCell)=true:=by
 rw [V.pures_iff]
 intro v hv
 obtain⟨c,_,rfl⟩:=List.mem_map.1 hv
 exact V.pure_ofCell c
theorem V.pure_of (v:Value):V.pure (V.of v)=true:=by
 cases v with
 |agg cs=>simpa only [V.of,V.pure] using V.pures_ofCells _
 |tuple cs=>simpa only [V.of,V.pure] using V.pures_ofCells _
 |_=>simp only [V.of]; exact V.pure_ofCell _
structure vX (G:Gh) (st:St) (fr:AFr) (a:Act):Prop where
 defers:a.defers= []
 size:a.tmps.size=fr.n
 slot:∀t,V.sc st (wh fr.l t)∧VR G (wh fr.l t) (a.tmps.getD t undef)
theorem dz (l:List (Nat×V)) (d:Nat) (v:V) (t:Nat):wh (Uy l d v) t=if t=d then v else wh l t:=by
 induction l with
 |nil=>simp only [Uy,wh]; split<;>split<;>simp_all
 | cons x r ih=>
  obtain⟨k,y⟩:=x
  simp only [Uy]
  by_cases hk:k=d
  ·subst hk
   simp only [if_true,wh]
   by_cases ht:t=k
   ·subst ht; simp
   ·simp [ht,Ne.symm ht]
  ·simp only [hk,if_false,wh,ih]
   by_cases ht:t=d
   ·subst ht; simp [hk]
   ·simp [ht]
section
variable {G:Gh} {st:St} {fr:AFr} {a:Act}
theorem vX.eval (h:vX G st fr a) (x:Operand):V.sc st (fr.eval x)∧VR G (fr.eval x) (a.eval x):=by
 cases x with
 |tmp t=>exact h.slot t
 |const v=>exact⟨V.sc_of_pure st _ (V.pure_of v),VR.of G v⟩
 |global g=>exact⟨by simp [AFr.eval,V.sc], .gptr g 0⟩
 |func f=>exact⟨by simp [AFr.eval,V.sc,V.scs], .func rfl O2 rfl O2⟩
theorem vX.evals (h:vX G st fr a) (xs:List Operand):V.scs st (xs.map fr.eval)∧VRs G (xs.map fr.eval) (xs.map a.eval).toArray:=by
 refine⟨(V.scs_iff st _).2 fun v hv=> ?_,O2, ?_⟩
 ·obtain⟨x,_,rfl⟩:=List.mem_map.1 hv
  exact(h.eval x).1
 ·intro i v c hv hc
  simp only [List.getElem?_map,List.getElem?_toArray]at hv hc
  cases hx:xs[i]? with
  |none=>simp [hx]at hv
  |some x=>simp [hx]at hv hc; subst hv hc; exact(h.eval x).2
theorem vX.put (h:vX G st fr a) (dst:Option Tmp) {v:V} {c:Value} (hs:V.sc st v) (hv:VR G v c):vX G st (fr.put dst v) (a.put dst c):=by
 cases dst with
 |none=>exact h
 | some d=>
  by_cases hd:d<fr.n
  ·refine ⟨by simp [Act.put,h.defers],by simp [Act.put,AFr.put,hd,h.size], ?_⟩
   intro t
   simp only [AFr.put,hd,if_true,dz,Act.put]
   have hd':d<a.tmps.size:=by rw [h.size]; exact hd
   by_cases ht:t=d
   ·subst ht
    simp only [if_true]
    refine⟨hs, ?_⟩
    simpa [Array.getD,hd'] using hv
   ·simp only [ht,if_false]
    refine⟨(h.slot t).1, ?_⟩
    have:=(h.slot t).2
    simp only [Array.getD_eq_getD_getElem?,Array.getElem?_setIfInBounds]at this ⊢
    rwa [if_neg (Ne.symm ht)]
  ·refine⟨by simp [Act.put,h.defers],by simp [Act.put,AFr.put,hd,h.size], ?_⟩
   intro t
   simp only [AFr.put,hd,if_false,Act.put]
   have hd':a.tmps.size≤d:=by rw [h.size]; exact Nat.le_of_not_lt hd
   rw [Array.setIfInBounds_eq_of_size_le hd']
   exact h.slot t
theorem vX.ext {G':Gh} {st':St} (h:vX G st fr a) (hx:Ext st G G') (hl:st.le st'):vX G' st' fr a:=
 ⟨h.defers,h.size,fun t=>⟨V.sc_mono hl _ (h.slot t).1,(h.slot t).2.ext hx (h.slot t).1⟩⟩
end
end Go.Abs
end
