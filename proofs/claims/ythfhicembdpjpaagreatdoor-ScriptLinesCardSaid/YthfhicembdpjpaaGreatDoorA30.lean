/- Abstract values: a part. No condition beyond each statement's own. -/
import Derived.Test.YthfhicembdpjpaaGreatDoorA29
set_option linter.all false
section
namespace Go.Abs
open Go
def gS (ops:Array Oper) (x y:Nat):Array Oper:=ops.modify y fun o=> {o with after:=o.after.push ⟨x, .data⟩}
theorem X2 (ops:Array Oper) (x y i:Nat):(gS ops x y)[i]? =(ops[i]?).map fun o=>if y=i then {o with after:=o.after.push ⟨x, .data⟩} else o:=by
 unfold gS
 rw [Array.getElem?_modify]
 by_cases h:y=i
 ·subst h; simp
 ·simp only [h,if_false]; cases ops[i]? <;> rfl
theorem Wt (ops:Array Oper) (x y:Nat):(gS ops x y).size=ops.size:=by simp [gS]
section
variable {P:Program} {ops:Array Oper} {Q:Exit→Act→World→Prop} {x y:Nat}
theorem U6 (t:Array Value):yielded (gS ops x y) t=yielded ops t:=by
 funext j
 unfold yielded
 rw [X2]
 cases ops[j]? with
 |none=>rfl
 | some o=>
  simp only [Option.map_some]
  by_cases h:y=j
  ·rw [if_pos h]; rfl
  ·rw [if_neg h]
theorem Bh (i:Nat) (K:Act→World→Prop) (a:Act) (w:World):wpOp P (gS ops x y) Q i K a w=wpOp P ops Q i K a w:=by
 unfold wpOp
 rw [X2,U6]
 cases ops[i]? with
 |none=>rfl
 | some o=>
  simp only [Option.map_some]
  by_cases h:y=i
  ·rw [if_pos h]; rfl
  ·rw [if_neg h]
theorem UP {md:Region.Mode} {ops:Array Oper} {l:Array Bool} {i:Nat}:i∈Region.ready md ops l↔i<ops.size∧l.getD i true=false∧((ops[i]?).map (·.after.all fun e=> !Region.binds md e||l.getD e.on false)).getD false=true:=by
 unfold Region.ready
 rw [List.mem_filter,List.mem_range,iE,Bool.not_eq_true']
theorem Q2 {l:Array Bool} {i:Nat} (h:i∈Region.ready .any ops l) (hy:i=y→l.getD x false=true):i∈Region.ready .any (gS ops x y) l:=by
 rw [UP]at h ⊢
 refine⟨by rw [Wt]; exact h.1,h.2.1, ?_⟩
 obtain⟨_,_,h3⟩:=h
 rw [X2]
 cases ho:ops[i]? with
 |none=>rw [ho]at h3; cases h3
 | some o=>
  rw [ho]at h3
  simp only [Option.map_some,Option.getD_some]at h3 ⊢
  split
  ·rename_i hi
   simp only [Array.all_push,h3,Bool.true_and]
   rw [hy hi.symm,Bool.or_true]
  ·exact h3
theorem Ko {l:Array Bool} {i:Nat} (h:i∈Region.ready .any (gS ops x y) l):i∈Region.ready .any ops l:=by
 rw [UP]at h ⊢
 refine⟨by rw [Wt]at h; exact h.1,h.2.1, ?_⟩
 obtain⟨_,_,h3⟩:=h
 rw [X2]at h3
 cases ho:ops[i]? with
 |none=>rw [ho]at h3; cases h3
 | some o=>
  rw [ho]at h3
  simp only [Option.map_some,Option.getD_some]at h3 ⊢
  split at h3
  ·simp only [Array.all_push,iE]at h3; exact h3.1
  ·exact h3
theorem Gr (hxy:x≠y) (hx:x<ops.size):∀(fuel t:Nat) (listed:Array Bool) (a:Act) (w:World),listed.size=ops.size→(listed.getD x false=true∨y∉(Region.linearise.go .any ops fuel t listed []).takeWhile (· !=x)) →
  wpAny P .any (gS ops x y) Q fuel listed a w→wpOps P ops Q (Region.linearise.go .any ops fuel t listed []) a w:=by
 intro fuel
 induction fuel with
 |zero=>intro t listed a w _ _ h; simpa [Region.linearise.go,wpOps] using h.2
 | succ fuel ih=>
  intro t listed a w hsz hc h
  obtain⟨h₀,h₁⟩:=h
  have key:Region.linearise.go .any ops (fuel+1) t listed []=(match(Region.ready .any ops listed)[t%(Region.ready .any ops listed).length]? with
   |some i=>Region.linearise.go .any ops fuel (t/(Region.ready .any ops listed).length) (listed.setIfInBounds i true) [i]
   |none=> [].reverse):=rfl
  rw [key]at hc ⊢
  cases hi:(Region.ready .any ops listed)[t%(Region.ready .any ops listed).length]? with
  | none=>
   have hnil:Region.ready .any ops listed= []:=by
    cases hr:Region.ready .any ops listed with
    |nil=>rfl
    | cons z zs=>
     rw [hr]at hi
     have hlt:t%(z::zs).length<(z::zs).length:=Nat.mod_lt _ O2
     simp at hi
     simp at hlt
     omega
   have hnil':Region.ready .any (gS ops x y) listed= []:=by
    cases hr:Region.ready .any (gS ops x y) listed with
    |nil=>rfl
    | cons z zs=>
     have:=Ko (ops:=ops) (x:=x) (y:=y) (l:=listed) (i:=z) (by rw [hr]; simp)
     rw [hnil]at this; cases this
   simpa [wpOps] using h₀ hnil'
  | some i=>
   rw [hi]at hc
   simp only []at hc ⊢
   rw [linearise_go_acc,List.reverse_singleton,List.singleton_append]at hc ⊢
   rw [wpOps_cons]
   have him:=List.mem_of_getElem? hi
   have hir:=Q2 (ops:=ops) (x:=x) (y:=y) him (fun e=>by
    rcases hc with hc|hc
    ·exact hc
    ·subst e
     rw [List.takeWhile_cons,if_pos (by simpa using fun e=>hxy e.symm)]at hc
     exact absurd (List.mem_cons_self ..) hc)
   have hw:=h₁ i hir
   rw [Bh]at hw
   refine wpOp_mono (fun a w=>ih _ _ a w (O7 hsz) ?_) hw
   by_cases hix:i=x
   ·subst hix
    left
    simp [Array.getD_eq_getD_getElem?,Array.getElem?_setIfInBounds,hsz,hx]
   ·rcases hc with hc|hc
    ·left
     simpa [Array.getD_eq_getD_getElem?,Array.getElem?_setIfInBounds,hix] using hc
    ·right
     rw [List.takeWhile_cons,if_pos (O7 hix)]at hc
     exact fun h=>hc (List.mem_cons_of_mem _ h)
theorem D3 (hxy:x≠y):∀l:List Nat,y∉l.takeWhile (· !=x)∨x∉l.takeWhile (· !=y)
 | []=> .inl O2
 | z ::l=>by
  by_cases h1:z=x
  ·subst h1; exact .inl O2
  ·by_cases h2:z=y
   ·subst h2; exact .inr O2
   ·rcases D3 hxy l with h|h
    ·left
     rw [List.takeWhile_cons,if_pos (O7 h1)]
     intro hm
     rcases List.mem_cons.1 hm with e|e
     ·exact h2 e.symm
     ·exact h e
    ·right
     rw [List.takeWhile_cons,if_pos (O7 h2)]
     intro hm
     rcases List.mem_cons.1 hm with e|e
     ·exact h1 e.symm
     ·exact h e
theorem Ks {id:Nat} {a:Act} {w:World} (hm:P.follows .mixedOrders=true) (hxy:x≠y) (hx:x<ops.size) (hy:y<ops.size)
  (h1:wpAny P .any (gS ops x y) Q (gS ops x y).size (Array.replicate (gS ops x y).size false) a {w with drawn:=w.drawn+1})
  (h2:wpAny P .any (gS ops y x) Q (gS ops y x).size (Array.replicate (gS ops y x).size false) a {w with drawn:=w.drawn+1}):(Code.region id ops true).wp P Q a w:=by
 rw [Wt]at h1 h2
 refine wp_region_draw fun t=> ?_
 simp only [Region.schedule,hm,Bool.true_or,if_true]
 rcases D3 hxy (Region.linearise.go .any ops ops.size t (Array.replicate ops.size false) [])with h|h
 ·exact Gr hxy hx _ _ _ _ _ O2 (.inr h) h1
 ·exact Gr (fun e=>hxy e.symm) hy _ _ _ _ _ O2 (.inr h) h2
end
section
variable {P:Program} {gl:Nat→List V} {ops:Array Oper} {E:List Nat} {B:List (List Nat)} {x y:Nat}
theorem JE {fr:AFr} {st:St} {AQ:Exit→AFr→St→Prop} (order E:List Nat) (B:List (List Nat)) (hc:kf ops fr.n order E B=true)
  (h:aD P gl ops E B order [] fr st (AQ .normal)) {w0:qQ} {G:Gh} {w:World} {a:Act} (hr:Rel gl w0 G st w) (hf:vX G st fr a):
  wpAny P .any ops (LQ gl w0 st G AQ) ops.size (Array.replicate ops.size false) a {w with drawn:=w.drawn+1}:=by
 have c:=Chk.of hc
 have hr':Rel gl w0 G st {w with drawn:=w.drawn+1}:=hr.of_heap rfl rfl rfl rfl
 obtain⟨rest',seen',F',g1,g2,g3,g4,g5,g6,g7,g8⟩:=Vo c order [] fr O2 rfl h
 have hnone:∀j,¬Dn (Array.replicate ops.size false) j:=by
  intro j hd
  simp only [Dn,Array.getD_eq_getD_getElem?,Array.getElem?_replicate]at hd
  split at hd<;>simp at hd
 refine Gt (P:=P) (gl:=gl) c (w0:=w0) (st0:=st) (G0:=G) (K:=AQ .normal) (Q:=LQ gl w0 st G AQ) (fun fr' st' G' a' w' m1 m2 m3 m4 m5=>⟨fr',st',G',m1,m2,m3,m4,m5⟩) ops.size _ rest' seen' F' st G _ a ?_ ?_
 ·refine {size:=O2,split:=g1,headE:=g2,doneSeen:=fun i hi=>absurd hi (hnone i),effDone:=fun i hi he=>absurd he (g4 i hi O2).1,closed:=fun j k hj=>absurd hj (hnone j),inv:=fun j hj _=>(g4 j hj O2).2,ad:=g5,rel:=hr',defers:=hf.defers,tmps:=by rw [hf.size,g6],slot:= ?_,n:=g6,ext:= .refl _ _,le:= .refl _}
  intro t ht
  rw [g8 t (fun j hj _=>ht j hj (hnone j))]
  exact hf.slot t
 ·refine Nat.le_trans (List.length_filter_le _ _) O2
theorem uj.draw2 {fr:AFr} {st:St} {AQ:Exit→AFr→St→Prop} {id:Nat} (x y:Nat) (order1 E1 order2 E2:List Nat) (B1 B2:List (List Nat)) (hm:P.follows .mixedOrders=true) (hxy:(!(x==y)&&(decide (x<ops.size)&&decide (y<ops.size)))=true)
  (hc1:kf (gS ops x y) fr.n order1 E1 B1=true) (h1:aD P gl (gS ops x y) E1 B1 order1 [] fr st (AQ .normal))
  (hc2:kf (gS ops y x) fr.n order2 E2 B2=true) (h2:aD P gl (gS ops y x) E2 B2 order2 [] fr st (AQ .normal)):uj P gl (.region id ops true) AQ fr st:=by
 intro w0 G w a hr hf
 simp only [iE,Bool.not_eq_true',beq_eq_false_iff_ne,decide_eq_true_eq]at hxy
 obtain⟨h3,h4,h5⟩:=hxy
 exact Ks hm h3 h4 h5 (JE order1 E1 B1 hc1 h1 hr hf) (JE order2 E2 B2 hc2 h2 hr hf)
theorem DV {s0:St} {cs:List Code} {AQ:Exit→AFr→St→Prop} {id:Nat} {fr:AFr} {st:St} (x y:Nat) (order1 E1 order2 E2:List Nat) (B1 B2:List (List Nat)) (fr':AFr) (st':St) (hm:P.follows .mixedOrders=true) (hxy:(!(x==y)&&(decide (x<ops.size)&&decide (y<ops.size)))=true)
  (hc1:kf (gS ops x y) fr.n order1 E1 B1=true) (hc2:kf (gS ops y x) fr.n order2 E2 B2=true) (hcl:Cl s0 (zE P gl s0 cs AQ))
  (h1:aDC P gl (gS ops x y) E1 B1 order1 [] (fr,st) (toW s0 fr' st')) (h2:aDC P gl (gS ops y x) E2 B2 order2 [] (fr,st) (toW s0 fr' st')) (h3:zE P gl s0 cs AQ fr' st'):zE P gl s0 (.region id ops true::cs) AQ fr st:=by
 refine gI.of (uj.draw2 x y order1 E1 order2 E2 B1 B2 hm hxy hc1 (X7 ?_ _ _ _ _ (by unfold aDC at h1; exact h1)) hc2 (X7 ?_ _ _ _ _ (by unfold aDC at h2; exact h2)))
 ·intro fr1 st1 hw; exact hcl _ _ _ _ hw h3
 ·intro fr1 st1 hw; exact hcl _ _ _ _ hw h3
end
section
variable {P:Program} {gl:Nat→List V} {ops:Array Oper} {K:AFr→St→Prop}
def zX (T:TypeId→TI) (gl:Nat→List V) (ops:Array Oper) (i k:Nat) (x:Cfg):Option (V×St):=atX T gl ops i k x none fun o fr1 st1=>match YC ops o fr1 with
 | true=>(match o.op with
  | .call ⟨.builtin .append,⟨[dd,xx]⟩,⟨[t,tx]⟩⟩=>(match fr1.eval dd with
   | .sl _ [] .exact=>Z3 T st1 (T t).d (T tx).d (fr1.eval xx)
   |_=>none)
  |_=>none)
 |false=>none
theorem PT {T:TypeId→TI} (hT:T=ti P) {i:Nat} {x:Cfg} (k m f id:Nat) {n sz:Nat} {cell:Option (List V)} {q q2:St→Option (V×St)} {z:V} {F:St→St} {cells:List V} (hq:∀st:St,st.vars.length=m→st.fams.length=f→st.vars[id]? =cell→q st=some (z,F st))
  (hq2:∀st:St,st.vars.length=m→st.fams.length=f→st.vars[id]? =cell→q2 st=some (.own m n sz,st.push [.buf cells])) (hn:0<n) (hik:Nat.ble i k=true)
  (he:((ve T gl ops i k x).2.vars.length,(ve T gl ops i k x).2.fams.length,(ve T gl ops i k x).2.vars[id]?,gy T gl ops i k x,zX T gl ops i k x)=(m,f,cell,q (ve T gl ops i k x).2,q2 (ve T gl ops i k x).2))
  (h:y0 P gl ops (k+1) (bg (ve T gl ops i k x) (we ops k) (.own m n sz) (fun st=>st.push [.buf cells])) K):y0 P gl ops i x K:=by
 simp only [Prod.mk.injEq]at he
 obtain⟨e1,e2,e3,e4,e5⟩:=he
 have hs:=hq _ e1 e2 e3
 have hz:=hq2 _ e1 e2 e3
 rw [←e4]at hs
 rw [←e5]at hz
 rw [qO,pw]at h
 rw [qO]at hz hs
 rw [zX,Wr]at hz
 unfold y0 at h ⊢
 cases hr:bW T gl ops (seg ops i k) x.1 x.2 with
 |none=>rw [hr]at hz; cases hz
 | some y=>
  obtain⟨fr1,st1⟩:=y
  have hrf:bD T gl ops i k x.1 x.2=(fr1,st1):=by simp only [bD,hr,Option.getD_some]
  rw [hrf]at hs hz h
  rw [hr]at hz
  simp only at hz
  cases ho:ops.toList[k]? with
  |none=>rw [ho]at hz; cases hz
  | some o=>
   rw [ho]at hz
   simp only at hz
   cases hb:YC ops o fr1 with
   |false=>rw [hb]at hz; cases hz
   | true=>
    rw [hb]at hz
    simp only at hz
    have hx:∃y,jp T gl fr1 st1 o.op=some y:=by
     rw [gy,Wr,hr]at hs
     simp only [ho,hb]at hs
     exact⟨_,hs⟩
    obtain⟨y,hx⟩:=hx
    rw [pW ho (iD hik)]
    refine gu hT _ _ _ _ _ _ hr (Xe hb ?_)
    simp only [we,ho]at h
    split at hz
    ·rename_i dd xx t tx hop
     split at hz
     ·rename_i sz' hdd
      have hx':xY P gl fr1 st1 o.op=some y:=by rw [←kW,←hT]; exact hx
      have h2:dT P st1 (ti P t).d (ti P tx).d (fr1.eval xx)=some (.own m n sz,st1.push [.buf cells]):=by
       show Z3 (ti P) st1 (ti P t).d (ti P tx).d (fr1.eval xx)=_; rw [←hT]; exact hz
      unfold pU
      rw [hop]at hx' ⊢
      simp only
      rw [hx']
      refine .inr ?_
      unfold Kb
      exact⟨sz',_,_,hdd,h2,⟨m,n,sz,rfl,hn⟩,h⟩
     ·cases hz
    ·cases hz
theorem fF {α:Type} {bytes:Nat} {l2 l':List α} (h:Ul bytes l2=some l') (hb:List.isEmpty l2=false):KC bytes [] l2=some l'∧0<l'.length:=by
 unfold Ul at h
 split at h
 ·rename_i hc
  injection h with h; subst h
  cases l2 with
  |nil=>cases hb
  | cons a r=>
   refine⟨?_,O2⟩
   unfold KC
   rw [if_pos ⟨O2,by simpa using hc⟩]
   rfl
 ·cases h
end
end Go.Abs
end
