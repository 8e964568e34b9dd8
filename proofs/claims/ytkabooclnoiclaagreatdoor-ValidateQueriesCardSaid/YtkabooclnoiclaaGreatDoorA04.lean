/- Abstract values. No condition. -/
import Derived.Test.YtkabooclnoiclaaGreatDoorA03
set_option linter.all false
section
namespace Go.Abs
open Go.RowKit (Below)
def VR.ofCell (G:Gh) (v:Value):VR G (V.ofCell v) v:=by
 unfold V.ofCell;split<;>first|exact .bool _|exact .int _ _|exact .str _|exact .nilp|exact .nilsl|exact .nilfunc|exact .junk _
def V.pure_ofCell (v:Value):V.pure (V.ofCell v)=true:=by
 unfold V.ofCell;split<;>rfl
def VRs.ofCells (G:Gh) (cs:Array Value):VRs G (cs.toList.map V.ofCell) cs:=by
 refine⟨O2, ?_⟩;intro i v c b e;rw [iV,Array.getElem?_toList,e]at b;simp at b; subst b;exact VR.ofCell G c
def VR.of (G:Gh) (v:Value):VR G (V.of v) v:=by
 cases v with
 |agg b=>exact .agg (VRs.ofCells G b).1 (VRs.ofCells G b).2
 |tuple b=>exact .tuple (VRs.ofCells G b).1 (VRs.ofCells G b).2
 |_=>simp only [V.of]; exact VR.ofCell G _
def V.pures_ofCells (cs:List Value):V.pures (cs.map V.ofCell)=true:=by
 rw [V.pures_iff];intro v b;obtain⟨c,_,rfl⟩:=List.mem_map.1 b;exact V.pure_ofCell c
def V.pure_of (v:Value):V.pure (V.of v)=true:=by
 cases v with
 |agg b=>simpa only [V.of,V.pure] using V.pures_ofCells _
 |tuple b=>simpa only [V.of,V.pure] using V.pures_ofCells _
 |_=>simp only [V.of]; exact V.pure_ofCell _
structure wP (G:Gh) (st:St) (fr:AFr) (a:Act):Prop where
 defers:a.defers= []
 size:a.tmps.size=fr.n
 slot:∀t,V.sc st (yG fr.l t)∧VR G (yG fr.l t) (a.tmps.getD t undef)
def bj (l:List (Nat×V)) (d:Nat) (v:V) (t:Nat):yG (Zs l d v) t=if t=d then v else yG l t:=by
 induction l with
 |nil=>simp only [Zs,yG]; split<;>split<;>simp_all
 | cons x r e=>
  obtain⟨k,y⟩:=x;simp only [Zs]
  by_cases c:k=d
  ·subst c;simp only [if_true,yG]
   by_cases b:t=k
   ·subst b; simp
   ·simp [b,Ne.symm b]
  ·simp only [c,if_false,yG,e]
   by_cases b:t=d
   ·subst b; simp [c]
   ·simp [b]
section
variable {G:Gh} {st:St} {fr:AFr} {a:Act}
def wP.eval (h:wP G st fr a) (x:Operand):V.sc st (fr.eval x)∧VR G (fr.eval x) (a.eval x):=by
 cases x with
 |tmp t=>exact h.slot t
 |const v=>exact⟨V.sc_of_pure st _ (V.pure_of v),VR.of G v⟩
 |global g=>exact⟨by simp [AFr.eval,V.sc], .gptr g 0⟩
 |func f=>exact⟨by simp [AFr.eval,V.sc,V.scs], .func rfl O2 rfl O2⟩
def wP.evals (h:wP G st fr a) (xs:List Operand):V.scs st (xs.map fr.eval)∧VRs G (xs.map fr.eval) (xs.map a.eval).toArray:=by
 refine⟨(V.scs_iff st _).2 fun v b=> ?_,O2, ?_⟩
 ·obtain⟨x,_,rfl⟩:=List.mem_map.1 b;exact(h.eval x).1
 ·intro i v c b e;simp only [iV,List.getElem?_toArray]at b e
  cases f:xs[i]? with
  |none=>simp [f]at b
  |some x=>simp [f]at b e; subst b e; exact(h.eval x).2
def wP.put (h:wP G st fr a) (dst:Option Tmp) {v:V} {c:Value} (f:V.sc st v) (g:VR G v c):wP G st (fr.put dst v) (a.put dst c):=by
 cases dst with
 |none=>exact h
 | some d=>
  by_cases hd:d<fr.n
  ·refine ⟨by simp [Act.put,h.defers],by simp [Act.put,AFr.put,hd,h.size], ?_⟩;intro t;simp only [AFr.put,hd,if_true,bj,Act.put];have b:d<a.tmps.size:=by rw [h.size]; exact hd
   by_cases e:t=d
   ·subst e;simp only [if_true];refine⟨f, ?_⟩;simpa [Array.getD,b] using g
   ·simp only [e,if_false];refine⟨(h.slot t).1, ?_⟩;have:=(h.slot t).2;simp only [Array.getD_eq_getD_getElem?,Array.getElem?_setIfInBounds]at this ⊢
    rwa [iH (Ne.symm e)]
  ·refine⟨by simp [Act.put,h.defers],by simp [Act.put,AFr.put,hd,h.size], ?_⟩;intro t;simp only [AFr.put,hd,if_false,Act.put];have b:a.tmps.size<=d:=by rw [h.size]; exact Nat.le_of_not_lt hd
   rw [Array.setIfInBounds_eq_of_size_le b];exact h.slot t
def wP.ext {G':Gh} {st':St} (h:wP G st fr a) (c:Ext st G G') (b:st.le st'):wP G' st' fr a:=
 ⟨h.defers,h.size,fun t=>⟨V.sc_mono b _ (h.slot t).1,(h.slot t).2.ext c (h.slot t).1⟩⟩
end
end Go.Abs
end
