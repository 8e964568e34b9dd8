/- Abstract values: a part. No condition beyond each statement's own. -/
import Derived.Test.YthfhicembdpjpaaGreatDoorA19
set_option linter.all false
section
namespace Go.Abs
open Go.RowKit (Below)
section
variable {P:Program} {gl:Nat→List V} {s0:St}
def BQ (gl:Nat→List V) (s0:St) (w0:qQ) (G0:Gh) (AQ:Exit→AFr→St→Prop):Exit→Act→World→Prop:=
 fun e a w=>∃fr st G,AQ e fr st∧Rel gl w0 G st w∧vX G st fr a∧Ext s0 G0 G∧s0.le st
def gI (P:Program) (gl:Nat→List V) (s0:St) (c:Code) (AQ:Exit→AFr→St→Prop) (fr:AFr) (st:St):Prop:=
 ∀(w0:qQ) (G0 G:Gh) (w:World) (a:Act),s0.le st→Ext s0 G0 G→Rel gl w0 G st w→vX G st fr a→c.wp P (BQ gl s0 w0 G0 AQ) a w
def zE (P:Program) (gl:Nat→List V) (s0:St):List Code→(Exit→AFr→St→Prop)→AFr→St→Prop
 | [],AQ,fr,st=>AQ .normal fr st
 |c::cs,AQ,fr,st=>gI P gl s0 c (jl (fun fr st=>zE P gl s0 cs AQ fr st) AQ) fr st
def Wk (s0:St) (fr:AFr) (st:St) (fr':AFr) (st':St):Prop:=
 ∀(gl:Nat→List V) (w0:qQ) (G0 G:Gh) (w:World) (a:Act),s0.le st→Ext s0 G0 G→Rel gl w0 G st w→vX G st fr a→s0.le st'∧∃G',Ext s0 G0 G'∧Rel gl w0 G' st' w∧vX G' st' fr' a
theorem Wk.refl (s0:St) (fr:AFr) (st:St):Wk s0 fr st fr st:=fun _ _ _ G _ _ h1 h2 h3 h4=>⟨h1,G,h2,h3,h4⟩
theorem Wk.trans {fr fr' fr'':AFr} {st st' st'':St} (h:Wk s0 fr st fr' st') (k:Wk s0 fr' st' fr'' st''):Wk s0 fr st fr'' st'':=fun gl w0 G0 G w a h1 h2 h3 h4=>by
 obtain⟨g1,G',g2,g3,g4⟩:=h gl w0 G0 G w a h1 h2 h3 h4
 exact k gl w0 G0 G' w a g1 g2 g3 g4
variable {c:Code} {cs:List Code} {AQ AQ':Exit→AFr→St→Prop} {fr fr':AFr} {st st':St}
theorem gI.of (h:uj P gl c AQ fr st):gI P gl s0 c AQ fr st:=by
 intro w0 G0 G w a h1 h2 h3 h4
 refine wp_mono (h w0 G w a h3 h4) ?_
 rintro e a' w' ⟨fr',st',G',k1,k2,k3,k4,k5⟩
 exact⟨fr',st',G',k1,k2,k3,h2.trans h1 k4,h1.trans k5⟩
theorem gI.mono (h:gI P gl s0 c AQ fr st) (hq:∀e fr st,AQ e fr st→AQ' e fr st):gI P gl s0 c AQ' fr st:=by
 intro w0 G0 G w a h1 h2 h3 h4
 refine wp_mono (h w0 G0 G w a h1 h2 h3 h4) ?_
 rintro e a' w' ⟨fr',st',G',k1,k2⟩
 exact⟨fr',st',G',hq _ _ _ k1,k2⟩
theorem gI.wk (hw:Wk s0 fr st fr' st') (h:gI P gl s0 c AQ fr' st'):gI P gl s0 c AQ fr st:=by
 intro w0 G0 G w a h1 h2 h3 h4
 obtain⟨g1,G',g2,g3,g4⟩:=hw gl w0 G0 G w a h1 h2 h3 h4
 exact h w0 G0 G' w a g1 g2 g3 g4
theorem lN (hw:Wk s0 fr st fr' st') (h:zE P gl s0 (c::cs) AQ fr' st'):zE P gl s0 (c::cs) AQ fr st:=gI.wk hw h
theorem K5 (h:zE P gl s0 [c] AQ fr st):gI P gl s0 c AQ fr st:=by
 simp only [zE,XJ]at h; exact h
theorem eS {a b:Code} (h:zE P gl s0 (a::b::cs) AQ fr st):zE P gl s0 (.seq a b::cs) AQ fr st:=by
 intro w0 G0 G w ac h1 h2 h3 h4
 refine wp_seq (wp_mono (h w0 G0 G w ac h1 h2 h3 h4) ?_)
 intro e a' w' hq
 cases e with
 | normal=>
  obtain⟨fr',st',G',k1,k2,k3,k4,k5⟩:=hq
  exact k1 w0 G0 G' w' a' k5 k4 k2 k3
 |_=>exact hq
theorem D9 (h:zE P gl s0 cs AQ fr st):zE P gl s0 (.skip::cs) AQ fr st:=
 fun w0 G0 G w a h1 h2 h3 h4=>wp_skip ⟨fr,st,G,h,h3,h4,h2,h1⟩
theorem cT (h:AQ .ret fr st):zE P gl s0 (.ret::cs) AQ fr st:=
 fun w0 G0 G w a h1 h2 h3 h4=>wp_ret ⟨fr,st,G,h,h3,h4,h2,h1⟩
theorem PF {id:Nat} (h:AQ (.exit id) fr st):zE P gl s0 (.exit id::cs) AQ fr st:=
 fun w0 G0 G w a h1 h2 h3 h4=>wp_exit ⟨fr,st,G,h,h3,h4,h2,h1⟩
def Cl (s0:St) (K:AFr→St→Prop):Prop:=∀fr st fr' st',Wk s0 fr st fr' st'→K fr' st'→K fr st
theorem yF:Cl s0 (zE P gl s0 (c::cs) AQ):=fun _ _ _ _ h k=>gI.wk h k
theorem dq (h:Cl s0 (AQ .normal)):Cl s0 (zE P gl s0 [] AQ):=h
def toW (s0:St) (fr':AFr) (st':St):AFr→St→Prop:=fun fr st=>Wk s0 fr st fr' st'
theorem PQ {c:Operand} {x y:Code} (t:Bool) (hc:fr.eval c= .bool t) (h1:t=true→zE P gl s0 (x::cs) AQ fr st) (h2:t=false→zE P gl s0 (y::cs) AQ fr st):zE P gl s0 (.cond c x y::cs) AQ fr st:=by
 intro w0 G0 G w a g1 g2 g3 g4
 have hv:=(g4.eval c).2
 rw [hc]at hv
 have hc':a.eval c= .bool t:=by generalize a.eval c=q at hv; cases hv; rfl
 exact wp_cond_split hc' (fun ht=>h1 ht w0 G0 G w a g1 g2 g3 g4) (fun ht=>h2 ht w0 G0 G w a g1 g2 g3 g4)
theorem KI {id:Nat} (h:zE P gl s0 [c] (bV id (jl (zE P gl s0 cs AQ) AQ)) fr st):zE P gl s0 (.block id c::cs) AQ fr st:=by
 intro w0 G0 G w a g1 g2 g3 g4
 refine wp_block (wp_mono (h w0 G0 G w a g1 g2 g3 g4) ?_)
 rintro e a' w' ⟨fr',st',G',k1,k2⟩
 cases e with
 | exit id'=>
  simp only [bV,jl]at k1
  simp only [Exit.inBlock]
  split
  ·rename_i he; rw [if_pos he]at k1; exact⟨fr',st',G',k1,k2⟩
  ·rename_i he; rw [if_neg he]at k1; exact⟨fr',st',G',k1,k2⟩
 |_=>exact⟨fr',st',G',k1,k2⟩
def dR (s0:St) {X:Type} (F:X→AFr) (S:X→St) (L:X→Prop):AFr→St→Prop:=fun fr st=>∃x,L x∧Wk s0 fr st (F x) (S x)
theorem Pa {X:Type} (F:X→AFr) (S:X→St) (L:Nat→X→Prop) (h0:∀x,¬L 0 x) (n:Nat) (x0:X) (hL:L n x0) (hw:Wk s0 fr st (F x0) (S x0))
  (round:∀k x,L (k+1) x→zE P gl s0 [c] (jl (dR s0 F S (L k)) AQ) (F x) (S x)):zE P gl s0 (.loop c::cs) AQ fr st:=by
 intro w0 G0 G w a g1 g2 g3 g4
 let Good:Nat→Act→World→Prop:=fun n a w=>∃x G,L n x∧s0.le (S x)∧Ext s0 G0 G∧Rel gl w0 G (S x) w∧vX G (S x) (F x) a
 have key:∀n a w,Good n a w→(Code.loop c).wp P (BQ gl s0 w0 G0 (jl (fun fr st=>zE P gl s0 cs AQ fr st) AQ)) a w:=by
  intro n a w hg
  refine wp_loop (fun a w=>∃m,Good m a w) (fun a w=>dM fun m=>Good m a w) ⟨n,hg⟩ ?_
  intro a w hI
  have hmin:=XS hI
  generalize hm:dM (fun m=>Good m a w)=m at hmin
  obtain⟨x,G1,l1,l2,l3,l4,l5⟩:=hmin
  cases m with
  |zero=>exact absurd l1 (h0 x)
  | succ m=>
   have hr:=round m x l1
   simp only [zE,XJ]at hr
   refine wp_mono (hr w0 G0 G1 w a l2 l3 l4 l5) ?_
   rintro e a' w' ⟨fr2,st2,G2,k1,k2,k3,k4,k5⟩
   cases e with
   | normal=>
    obtain⟨x',m1,m2⟩:=k1
    obtain⟨q1,G3,q2,q3,q4⟩:=m2 gl w0 G0 G2 w' a' k5 k4 k2 k3
    have hg':Good m a' w':=⟨x',G3,m1,q1,q2,q3,q4⟩
    refine⟨⟨m,hg'⟩, ?_⟩
    have:=VI (p:=fun m=>Good m a' w') hg'
    show dM (fun m=>Good m a' w')<_
    omega
   |_=>exact⟨fr2,st2,G2,k1,k2,k3,k4,k5⟩
 obtain⟨q1,G',q2,q3,q4⟩:=hw gl w0 G0 G w a g1 g2 g3 g4
 exact key n a w ⟨x0,G',hL,q1,q2,q3,q4⟩
def pR (P:Program) (gl:Nat→List V) (s0:St) (fn:Func) (Q:V→St→Prop):Exit→AFr→St→Prop:=fun e fr st=>
 (e= .normal∨e= .ret)∧∃r st',Q r st'∧∀(w0:qQ) (G0 G:Gh) (w:World) (a:Act),s0.le st→Ext s0 G0 G→Rel gl w0 G st w→vX G st fr a →
  a.defers= []∧s0.le st'∧∃G' c,(results fn a.tmps).run P w= .ok c w∧VR G' r c∧V.sc st' r∧Rel gl w0 G' st' w∧Ext s0 G0 G'
theorem vi {fn:Func} {Q:V→St→Prop} {e:Exit}:Cl s0 (pR P gl s0 fn Q e):=by
 rintro fr st fr' st' hw ⟨he,r,st2,hq,h⟩
 refine⟨he,r,st2,hq, ?_⟩
 intro w0 G0 G w a g1 g2 g3 g4
 obtain⟨q1,G',q2,q3,q4⟩:=hw gl w0 G0 G w a g1 g2 g3 g4
 exact h w0 G0 G' w a q1 q2 q3 q4
theorem pR.ends {fn:Func} {Q:V→St→Prop} {e:Exit} {vs:List V} (r:V) (st':St) (he:e= .normal∨e= .ret) (hv:qU P gl fr st fn.results.toList=some vs)
  (hw:Wk s0 ⟨1,[(0,WE vs)]⟩ st ⟨1,[(0,r)]⟩ st') (hq:Q r st'):pR P gl s0 fn Q e fr st:=by
 refine⟨he,r,st',hq, ?_⟩
 intro w0 G0 G w a g1 g2 g3 g4
 obtain⟨c,h1,h2,h3⟩:=W8 g3 g4 hv
 have hf:vX G st ⟨1,[(0,WE vs)]⟩ {tmps:= #[c],defers:= []}:=by
  refine⟨rfl,rfl, ?_⟩
  intro t
  simp only [wh]
  cases t with
  |zero=>exact⟨h3,h2⟩
  |succ t=>simp [V.sc]; exact .junk _
 obtain⟨q1,G',q2,q3,q4⟩:=hw gl w0 G0 G w _ g1 g2 g3 hf
 have:=q4.slot 0
 exact⟨g4.defers,q1,G',c,h1,this.2,this.1,q3,q2⟩
theorem wn.ofB {f : FuncId} {fn : Func} {c : Code} {args : List V} {st : St} {Q : V → St → Prop} (hf : P.funcs[f]? = some fn) (hb : fn.body = some c) (hn : (fn.name == "runtime.NumGoroutine") = false) (hl : args.length ≤ fn.ntmps)
  (h:zE P gl st [c] (pR P gl st fn Q) (YE fn.ntmps args) st):wn P gl f args st Q:=by
 refine⟨by simp [YL,hf,hb,hn], ?_⟩
 intro w0 G w cargs hr hv hs
 refine calls_of_wp hf hb ?_
 have hsz:args.length=cargs.size:=hv.1
 have hfr:vX G st (YE fn.ntmps args) {tmps:=cargs++Array.replicate (fn.ntmps-cargs.size) undef,defers:= []}:=by
  refine⟨rfl,by simp [YE]; omega, ?_⟩
  intro t
  simp only [YE,UD args 0 t,Nat.zero_le,if_true,Nat.sub_zero]
  cases hq:args[t]? with
  |none=>simp [V.sc]; exact .junk _
  | some v=>
   have ht:t<cargs.size:=by rw [←hsz]; exact yj hq
   refine⟨(V.scs_iff st _).1 hs v (List.mem_of_getElem? hq), ?_⟩
   simp only [Option.getD_some,Array.getD_eq_getD_getElem?]
   rw [Array.getElem?_append_left ht]
   simp only [ht,getElem?_pos,Option.getD_some]
   exact hv.2 t v _ hq (by simp [ht])
 refine wp_mono (K5 h w0 G G w _ (.refl _) (.refl _ _) hr hfr) ?_
 rintro e a' w' ⟨fr',st1,G1,⟨he,r,st2,hq,hend⟩,m2,m3,m4,m5⟩
 obtain⟨hd,q1,G',c',h1,h2,h3,h4,h5⟩:=hend w0 G G1 w' a' m5 m4 m2 m3
 have fin:∃v,(results fn a'.tmps).run P w'= .ok v w'∧(∃r c st' G',Ending.returned v= .returned c∧Q r st'∧VR G' r c∧V.sc st' r∧Rel gl w0 G' st' w'∧Ext st G G'∧st.le st'):=
  ⟨c',h1,r,c',st2,G',rfl,hq,h2,h3,h4,h5,q1⟩
 rcases he with rfl|rfl
 ·exact⟨hd,fin⟩
 ·exact⟨hd,fin⟩
mutual
def V.lts (nv nf:Nat):V→Bool
  | .ptr id _=>decide (id<nv)
  | .rsl id _ _ _ _=>decide (id<nv)
  | .sl _ _ (.fam t _)=>decide (t<nf)
  | .func _ a b=>V.ltss nv nf a&&V.ltss nv nf b
  | .agg cs=>V.ltss nv nf cs
  | .tuple cs=>V.ltss nv nf cs
  | .own id _ _=>decide (id<nv)
  | .mapv id=>decide (id<nv)
  | .iter id=>decide (id<nv)
  | .bobj id k _ _=>decide (id<nv)&&decide (k<nv)
  | .iface _ v=>V.lts nv nf v
  |_=>true
def V.ltss (nv nf:Nat):List V→Bool
  | []=>true
  |v::vs=>V.lts nv nf v&&V.ltss nv nf vs
end
theorem V.sc_of_ren {R:Ren} {st1 st:St} (hσ:∀k,k<st1.vars.length→k<R.σ.length) (hf:∀(k p:Nat),st1.fams[k]? =some p→∃i,R.τ[k]? =some i∧st.fams[i]? =some p):
  ∀v:V,V.lts st1.vars.length st1.fams.length v=true→V.sc st (V.ren R v)→V.sc st1 v:=by
 intro v
 refine V.rec (motive_1:=fun v=>V.lts st1.vars.length st1.fams.length v=true→V.sc st (V.ren R v)→V.sc st1 v) (motive_2:=fun l=>V.ltss st1.vars.length st1.fams.length l=true→V.scs st (V.rens R l)→V.scs st1 l) (motive_3:=fun _=>True)
  ?_ ?_ ?_ ?_ ?_ ?_ ?_ ?_ ?_ ?_ ?_ ?_ ?_ ?_ ?_ ?_ ?_ ?_ ?_ ?_ ?_ ?_ ?_ ?_ ?_ ?_ ?_ ?_ ?_ v
 all_goals try (intros; trivial)
 ·intro id off h _; simpa [V.sc,V.lts] using h
 ·intro sz es tok _ h h2
  cases tok with
  | fam t p=>
   simp only [V.sc,V.ren,V.lts,decide_eq_true_eq]at *
   obtain⟨i,a1,a2⟩:=hf t _ (List.getElem?_eq_getElem h)
   obtain⟨q,hq,hp⟩:=h2
   have:rn R.τ R.m t=i:=by simp [rn,a1]
   rw [this,a2]at hq; injection hq with hq
   exact⟨_,List.getElem?_eq_getElem h,by rw [hq]; exact hp⟩
  |_=>simp [V.sc]
 ·intro id off len cap sz h _; simpa [V.sc,V.lts] using h
 ·intro fn a b ha hb h h2; simp only [V.sc,V.ren,V.lts,iE]at *; exact⟨ha h.1 h2.1,hb h.2 h2.2⟩
 ·intro cs ih h h2; simp only [V.sc,V.ren,V.lts]at *; exact ih h h2
 ·intro cs ih h h2; simp only [V.sc,V.ren,V.lts]at *; exact ih h h2
 ·intro id n sz h _; simpa [V.sc,V.lts] using h
 ·intro id h _; simpa [V.sc,V.lts] using h
 ·intro id h _; simpa [V.sc,V.lts] using h
 ·intro t v ih h h2; simp only [V.sc,V.ren,V.lts]at *; exact ih h h2
 ·intro id k T s h _; simpa [V.sc,V.lts] using h
 ·intro v vs ih1 ih2 h h2; simp only [V.scs,V.rens,V.ltss,iE]at *; exact⟨ih1 h.1 h2.1,ih2 h.2 h2.2⟩
theorem V.scs_of_ren {R:Ren} {st1 st:St} (hσ:∀k,k<st1.vars.length→k<R.σ.length) (hf:∀(k p:Nat),st1.fams[k]? =some p→∃i,R.τ[k]? =some i∧st.fams[i]? =some p):
  ∀l:List V,V.ltss st1.vars.length st1.fams.length l=true→V.scs st (V.rens R l)→V.scs st1 l
 | [],_,_=>trivial
 | v::vs,h,h2=>by
  simp only [V.scs,V.rens,V.ltss,iE]at *
  exact⟨V.sc_of_ren hσ hf v h.1 h2.1,V.scs_of_ren hσ hf vs h.2 h2.2⟩
def PD (R:Ren) (st1 st:St):Bool:=
 (R.σ.length==st1.vars.length)&&(R.n==st.vars.length)&&(R.τ.length==st1.fams.length)&&(R.m==st.fams.length)&&decide R.σ.Nodup&&decide R.τ.Nodup&&st1.vars.all (V.ltss st1.vars.length st1.fams.length)
theorem Emb.k {R:Ren} {st1 st:St} (h1:PD R st1 st=true) (h2:R.σ.map (fun i=>st.vars[i]?)=st1.vars.map (fun cs=>some (V.rens R cs))) (h3:R.τ.map (fun i=>st.fams[i]?)=st1.fams.map some)
  (hok:st.ok):Emb R st1 st:=by
 simp only [PD,iE,beq_iff_eq,decide_eq_true_eq,List.all_eq_true]at h1
 obtain⟨⟨⟨⟨⟨⟨a1,a2⟩,a3⟩,a4⟩,a5⟩,a6⟩,a7⟩:=h1
 have hf:∀(k p:Nat),st1.fams[k]? =some p→∃i,R.τ[k]? =some i∧st.fams[i]? =some p:=by
  intro k p hp
  have hk:k<R.τ.length:=by rw [a3]; exact yj hp
  have:=congrArg (fun l=>l[k]?) h3
  simp only [List.getElem?_map,hp,List.getElem?_eq_getElem hk,Option.map_some,Option.some.injEq]at this
  exact⟨_,List.getElem?_eq_getElem hk,this⟩
 refine⟨a1,a2,a3,a4,a5,a6, ?_,hf⟩
 intro k cs hcs
 have hk:k<R.σ.length:=by rw [a1]; exact yj hcs
 have:=congrArg (fun l=>l[k]?) h2
 simp only [List.getElem?_map,hcs,List.getElem?_eq_getElem hk,Option.map_some,Option.some.injEq]at this
 exact⟨V.scs_of_ren (fun k hk=>by omega) hf cs (a7 cs (List.mem_of_getElem? hcs)) (hok _ _ this),_,_,List.getElem?_eq_getElem hk,this,dU.refl _⟩
def KW (s0:St) (R:Ren):Bool:=decide (s0.vars.length≤R.σ.length)&&(List.range s0.vars.length).all (fun k=>R.σ[k]? ==some k)&&decide (s0.fams.length≤R.τ.length)&&(List.range s0.fams.length).all (fun k=>R.τ[k]? ==some k)
theorem Wk.ren (R:Ren) (h1:PD R st' st=true) (h2:R.σ.map (fun i=>st.vars[i]?)=st'.vars.map (fun cs=>some (V.rens R cs))) (h3:R.τ.map (fun i=>st.fams[i]?)=st'.fams.map some)
  (h4:KW s0 R=true) (hn:fr'.n=fr.n) (h5:fr'.l.map (fun p=>(p.1,V.ren R p.2))=fr'.l.map (fun p=>(p.1,wh fr.l p.1))) (h6:fr'.l.all (fun p=>V.lts st'.vars.length st'.fams.length p.2)=true):Wk s0 fr st fr' st':=by
 intro gl w0 G0 G w a g1 g2 g3 g4
 have he:Emb R st' st:=Emb.k h1 h2 h3 g3.sc
 simp only [KW,iE,beq_iff_eq,decide_eq_true_eq,List.all_eq_true,List.mem_range]at h4
 obtain⟨⟨⟨b1,b2⟩,b3⟩,b4⟩:=h4
 have hr:=g3.embed (B:=w0) he g3.below g3.old (fun g hn=>(g3.gfix g hn).1) (by
  intro k b cs hk hn hb
  obtain⟨_,i,d,a1,a3,a4⟩:=he.vars k cs hk
  have a2:rn R.σ R.n k=i:=by simp [rn,a1]
  rw [a2]at hb
  have hdn:=a4.live hn
  obtain⟨b',o,k1,k2,_⟩:=g3.vars i d a3 hdn
  rw [hb]at k1; injection k1 with k1; subst k1; exact k2) (by
  intro k p b e l hp hb
  obtain⟨i,a1,a2,a3⟩:=he.rnτ hp
  rw [a2]at hb
  exact(g3.fam i p b e l a3 hb).1)
 refine⟨⟨by rw [←he.lenσ]; exact b1, ?_⟩,G.pull R, ?_,hr,g4.defers,by rw [g4.size,hn], ?_⟩
 ·intro t p hp
  have hlt:=yj hp
  obtain⟨q,hq,hpq⟩:=g1.fams t p hp
  have ht:=b4 t hlt
  have hk:t<st'.fams.length:=by rw [←he.lenτ]; exact yj ht
  obtain⟨i,a1,a2,a3⟩:=he.rnτ (List.getElem?_eq_getElem hk)
  rw [ht]at a1; injection a1 with a1; subst a1
  rw [hq]at a3; injection a3 with a3
  exact⟨q,by rw [a3]; exact List.getElem?_eq_getElem hk,hpq⟩
 ·refine ⟨g2.imm, ?_, ?_,fun id hid=>by rw [←g2.room id hid]; simp only [Gh.pull,rn,b2 id hid]⟩
  ·intro id hid
   rw [←g2.var id hid]
   simp only [Gh.pull,rn,b2 id hid]
  ·intro t p q hq hp
   rw [←g2.tip t p q hq hp]
   simp only [Gh.pull,rn,b4 t (yj hq)]
 ·intro t
  have key:wh fr'.l t= .junk∨(t,wh fr'.l t)∈fr'.l:=by
   generalize fr'.l=l
   induction l with
   |nil=>exact .inl rfl
   | cons x r ih=>
    obtain⟨k,v⟩:=x
    simp only [wh]
    split
    ·rename_i h; subst h; exact .inr O2
    ·rcases ih with h|h
     ·exact .inl h
     ·exact .inr (List.mem_cons_of_mem _ h)
  rcases key with h|h
  ·rw [h]; exact⟨by simp [V.sc], .junk _⟩
  ·have e1:V.ren R (wh fr'.l t)=wh fr.l t:=by
    have:=List.map_inj_left.1 h5 _ h
    simpa using this
   have hs:=g4.slot t
   rw [←e1]at hs
   have hsc:=V.sc_of_ren (R:=R) (st1:=st') (st:=st) (fun k hk=>by rw [he.lenσ]; exact hk) he.fams _ (List.all_eq_true.1 h6 _ h) hs.1
   exact⟨hsc,((G.pull_pull R st').vr hsc).2 hs.2⟩
theorem Wk.conv (t:Nat) (v:V) (hv:VLe v (wh fr.l t)) (hs:∀st,V.sc st (wh fr.l t)→V.sc st v) (ht:t<fr.n):Wk s0 fr st (fr.put (some t) v) st:=by
 intro gl w0 G0 G w a g1 g2 g3 g4
 refine⟨g1,G,g2,g3,g4.defers,by simp only [AFr.put]; split<;>exact g4.size, ?_⟩
 intro t'
 have h:=g4.slot t'
 simp only [AFr.put,ht,if_true,dz]
 split
 ·rename_i e; subst e; exact⟨hs st h.1,hv _ _ h.2⟩
 ·exact h
theorem Wk.kill (id:Nat):Wk s0 fr st fr (st.put id []):=by
 intro gl w0 G0 G w a g1 g2 g3 g4
 exact⟨g1.trans (St.le_put st id []),G,g2,g3.kill id,g4.defers,g4.size,fun t=>⟨V.sc_mono (St.le_put st id []) _ (g4.slot t).1,(g4.slot t).2⟩⟩
theorem Wk.nilVar:Wk s0 fr st fr (st.push [.buf []]):=by
 intro gl w0 G0 G w a g1 g2 g3 g4
 have hx:=Gh.setNone_ext G st
 exact⟨g1.trans (St.le_push st _),_,g2.trans g1 hx,g3.nilVar,g4.ext hx (St.le_push st _)⟩
theorem Wk.nilFam:Wk s0 fr st fr (st.pushFam 0):=by
 intro gl w0 G0 G w a g1 g2 g3 g4
 obtain⟨G',h1,h2⟩:=g3.nilFam
 exact⟨g1.trans (St.le_pushFam st 0),G',g2.trans g1 h2,h1,g4.ext h2 (St.le_pushFam st 0)⟩
end
end Go.Abs
end
