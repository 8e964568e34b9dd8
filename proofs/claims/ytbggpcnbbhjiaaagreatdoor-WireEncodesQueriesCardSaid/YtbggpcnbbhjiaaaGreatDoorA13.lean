/- Layer: an abstract reading of values and worlds, and that the model's operations, regions, loops and calls keep to it. No condition beyond each statement's own. -/
import Derived.Test.YtbggpcnbbhjiaaaGreatDoorA12
set_option linter.unusedVariables false
set_option linter.unusedSimpArgs false
set_option linter.unnecessarySimpa false
section
namespace Go.Abs
open Go.RowKit (Below)
def Y3 (v:V) (args:List V):Option (FuncId×List V):=
 match v with
 | .func (.func f) first captured=>some (f,first++args++captured)
 |_=>none
def DD (P:Program) (o:Op) (fr:AFr) (st:St) (K:V→St→Prop):Prop:=
 match o with
 | .buildSlice t len parts=>match gz P st (ti P t).d len (parts.toList.map fun(i,x)=>(i,fr.eval x))with
  |some (v,st')=>K v st'
  |none=>False
 |_=>False
def pO (P:Program) (gl:Nat→List V) (o:Oper) (fr:AFr) (st:St) (K:V→St→Prop):Prop:=
 match o.op with
 | .call ⟨.value f,args,_⟩=>
  match Y3 (fr.eval f) (args.toList.map fr.eval)with
  |some (g,vs)=>wN P gl g vs st K
  |none=>False
 | op=>match wj P gl fr st op with
  |some (v,st')=>K v st'∨DD P op fr st K
  |none=>False
def aOp (P:Program) (gl:Nat→List V) (o:Oper) (fr:AFr) (st:St) (K:AFr→St→Prop):Prop:=
 pO P gl o fr st fun v st'=>K (fr.put o.dst v) st'
def qX (ops:Array Oper) (fr:AFr) (j:Nat):Option (Option Bool):=
 match ops[j]? with
 | some o=>match o.dst with
  | some d=>match xH fr.l d with
   | .bool b=>some (some b)
   | .tuple []=>some none
   |_=>none
  |none=>none
 |none=>none
def ux (p A B:Prop):Prop:=(p→A)∧(¬p→B)
def kl (P:Program) (gl:Nat→List V) (ops:Array Oper):List Oper→AFr→St→(AFr→St→Prop)→Prop
 | [],fr,st,K=>K fr st
 | o::rest,fr,st,K=>
  match o.guard with
  |none=>aOp P gl o fr st fun fr st=>kl P gl ops rest fr st K
  | some (j,want)=>match qX ops fr j with
   |some b=>ux (b=some want) (aOp P gl o fr st fun fr st=>kl P gl ops rest fr st K) (kl P gl ops rest (fr.put o.dst (.tuple [])) st K)
   |none=>False
section
variable {P:Program} {gl:Nat→List V} {w0:kp} {G:Gh} {st:St} {w:World} {a:Act} {fr:AFr}
theorem Qf {f:FuncId} (h:Va P f=true) (args:Array Value) (w:World):(callFunc f args).run P w= .ok (.enter f args) w:=by
 unfold Va at h
 unfold callFunc
 simp only [Sem.run_bind,run_program,Result.andThen_ok]
 split at h
 ·rename_i fn hfn
  rw [hfn]
  simp only [Bool.and_eq_true,Bool.not_eq_true']at h
  have hb:fn.body.isNone=false:=by
   cases hq:fn.body with
   |none=>rw [hq]at h; simp at h
   |some c=>rfl
  simp only [h.2,hb,Bool.false_eq_true,if_false,Sem.run_pure]
 ·cases h
theorem XR {Q:Exit→Act→World→Prop} {next:Act→World→Prop} {o:Oper} {K:V→St→Prop} (h:pO P gl o fr st K) (hr:Rel gl w0 G st w) (hf:vP G st fr a)
  (hK:∀v c st' G' w',K v st'→VR G' v c→V.sc st' v→Rel gl w0 G' st' w'→Ext st G G'→st.le st'→next (a.put o.dst c) w'):o.wp P a w next Q:=by
 have plain:∀ {v st'},wj P gl fr st o.op=some (v,st')→K v st'→o.wp P a w next Q:=by
  intro v st' he hk
  obtain⟨c,w',G',h1,h2,h3,h4,h5,h6⟩:=KJ hr hf o he
  rcases h1 with h1|⟨h1,rfl⟩
  ·simp only [Oper.wp,h1,Oper.upon]
   exact hK _ _ _ _ _ hk h2 h3 h4 h5 h6
  ·simp only [Oper.wp,h1,Oper.upon]
   exact hK _ _ _ _ _ hk h2 h3 h4 h5 h6
 have own:DD P o.op fr st K→o.wp P a w next Q:=by
  intro h
  unfold DD at h
  split at h
  ·rename_i t len parts hop
   split at h
   ·rename_i v st' hv
    obtain⟨h1,h2,h3⟩:=Vg hf parts
    obtain⟨c,w',G',k1,k2,k3,k4,k5,k6⟩:=Vn hr h1 h2 hv
    have he:(execOp a.eval o).run P w= .ok (.value c) w':=by
     simp only [execOp,hop,Sem.run_bind,k1,Result.andThen_ok,Sem.run_pure]
    simp only [Oper.wp,he,Oper.upon]
    exact hK _ _ _ _ _ h k2 k3 k4 k5 k6
   ·exact h.elim
  ·exact h.elim
 unfold pO at h
 split at h
 ·rename_i f args tys hop
  split at h
  ·rename_i g vs htg
   obtain⟨hok,hcalls⟩:=h
   have hfv:=hf.eval f
   generalize hq:a.eval f=q at hfv
   obtain⟨hfs,hfv⟩:=hfv
   unfold Y3 at htg
   split at htg
   ·rename_i f' first captured heq
    injection htg with htg; injection htg with ht1 ht2; subst ht1 ht2
    rw [heq]at hfv hfs
    cases hfv with
    | func l1 r1 l2 r2=>
     rename_i c1 c2
     obtain⟨as_,av⟩:=hf.evals args.toList
     have e1:(args.toList.map a.eval).toArray=args.map a.eval:=by rw [←Array.toList_map,Array.toArray_toList]
     rw [e1]at av
     simp only [V.sc]at hfs
     have hrun:(execOp a.eval o).run P w= .ok (.enter f' (c1++args.map a.eval++c2)) w:=by
      simp only [execOp,hop,resolve,hq,Deferred.ofValue,Sem.run_bind,Sem.run_pure,Result.andThen_ok,invoke]
      exact Qf hok _ w
     simp only [Oper.wp,hrun,Oper.upon]
     have happ:∀ {x y:List V} {cx cy:Array Value},VRs G x cx→VRs G y cy→VRs G (x++y) (cx++cy):=by
      intro x y cx cy hx hy
      refine⟨by simp [hx.1,hy.1], ?_⟩
      intro i v c hv hc
      rcases Nat.lt_or_ge i x.length with hi|hi
      ·rw [List.getElem?_append_left hi]at hv
       rw [Array.getElem?_append_left (by rw [←hx.1]; exact hi)]at hc
       exact hx.2 i v c hv hc
      ·rw [List.getElem?_append_right hi]at hv
       rw [Array.getElem?_append_right (by rw [←hx.1]; exact hi),←hx.1]at hc
       exact hy.2 _ v c hv hc
     have hscs:V.scs st (first++args.toList.map fr.eval++captured):=by
      rw [V.scs_iff]
      intro v hv
      rcases List.mem_append.1 hv with hv|hv
      ·rcases List.mem_append.1 hv with hv|hv
       ·exact(V.scs_iff st _).1 hfs.1 v hv
       ·exact(V.scs_iff st _).1 as_ v hv
      ·exact(V.scs_iff st _).1 hfs.2 v hv
     refine(hcalls w0 G w (c1++args.map a.eval++c2) hr (happ (happ ⟨l1,r1⟩ av) ⟨l2,r2⟩) hscs).mono ?_
     rintro e w' ⟨r,c,st',G',rfl,hk,hv,hs,hr',hx,hl⟩
     exact hK _ _ _ _ _ hk hv hs hr' hx hl
   ·cases htg
  ·exact h.elim
 ·split at h
  ·rename_i v st' he
   rcases h with h|h
   ·exact plain he h
   ·exact own h
  ·exact h.elim
theorem JB {Q:Exit→Act→World→Prop} {next:Act→World→Prop} {o:Oper} {K:AFr→St→Prop} (h:aOp P gl o fr st K) (hr:Rel gl w0 G st w) (hf:vP G st fr a)
  (hK:∀fr' st' G' a' w',K fr' st'→Rel gl w0 G' st' w'→vP G' st' fr' a'→Ext st G G'→st.le st'→next a' w'):o.wp P a w next Q:=
 XR (K:=fun v st'=>K (fr.put o.dst v) st') h hr hf fun v c st' G' w' hk hv hs hr' hx hl=>hK _ _ _ _ _ hk hr' ((hf.ext hx hl).put o.dst hs hv) hx hl
theorem VR.undef_eq {G:Gh} {c:Value} (h:VR G (.tuple []) c):c=undef:=by
  cases h with
  | tuple h1 h2 => rename_i c; have:c= #[]:=by apply Array.eq_empty_of_size_eq_zero; simpa using h1.symm
                   subst this; rfl
theorem VR.undef (G:Gh):VR G (.tuple []) Go.undef:= .tuple rfl (by intro i v x h; simp at h)
theorem Wy {ops:Array Oper} {j:Nat} {y:Option Bool} (hf:vP G st fr a) (h:qX ops fr j=some y):yielded ops a.tmps j=y:=by
 unfold qX at h
 split at h
 ·rename_i o ho
  split at h
  ·rename_i d hd
   have hv:=(hf.slot d).2
   split at h
   ·rename_i b' hb
    injection h with h; subst h
    rw [hb]at hv
    generalize hq:a.tmps.getD d undef=q at hv
    cases hv
    unfold yielded
    simp only [ho,Option.bind_some,hd]
    rw [Array.getD_eq_getD_getElem?]at hq
    cases hx:a.tmps[d]? with
    |none=>rw [hx]at hq; simp [Go.undef]at hq
    |some x=>rw [hx]at hq; simp at hq; subst hq; rfl
   ·rename_i hb
    injection h with h; subst h
    rw [hb]at hv
    have hq:=hv.undef_eq
    unfold yielded
    simp only [ho,Option.bind_some,hd]
    rw [Array.getD_eq_getD_getElem?]at hq
    cases hx:a.tmps[d]? with
    |none=>rfl
    |some x=>rw [hx]at hq; simp at hq; subst hq; rfl
   ·cases h
  ·cases h
 ·cases h
theorem UG {ops:Array Oper} {Q:Exit→Act→World→Prop} {K:AFr→St→Prop}:∀(l:List Oper) (k:Nat) (fr:AFr) (st:St) (G:Gh) (w:World) (a:Act),ops.toList.drop k=l→kl P gl ops l fr st K→Rel gl w0 G st w→vP G st fr a →
  (∀fr' st' G' a' w',K fr' st'→Rel gl w0 G' st' w'→vP G' st' fr' a'→Ext st G G'→st.le st'→Q .normal a' w')→wpOps P ops Q (List.range' k l.length) a w
 | [],k,fr,st,G,w,a,hd,h,hr,hf,hK=>hK fr st G a w h hr hf (.refl _ _) (.refl _)
 | o ::rest,k,fr,st,G,w,a,hd,h,hr,hf,hK=>by
  have ho:ops[k]? =some o:=by
   have:(ops.toList.drop k)[0]? =some o:=by rw [hd]; rfl
   rw [List.getElem?_drop,Nat.add_zero,Array.getElem?_toList]at this
   exact this
  have hd':ops.toList.drop (k+1)=rest:=by
   have:=congrArg (List.drop 1) hd
   rw [List.drop_drop]at this
   simpa using this
  simp only [List.length_cons,List.range'_succ,wpOps,ho]
  simp only [kl]at h
  have cont:∀fr' st' G' a' w',kl P gl ops rest fr' st' K→Rel gl w0 G' st' w'→vP G' st' fr' a'→Ext st G G'→st.le st'→wpOps P ops Q (List.range' (k+1) rest.length) a' w':=
   fun fr' st' G' a' w' h1 h2 h3 h4 h5=>UG rest (k+1) fr' st' G' w' a' hd' h1 h2 h3 (fun fr2 st2 G2 a2 w2 m1 m2 m3 m4 m5=>hK fr2 st2 G2 a2 w2 m1 m2 m3 (h4.trans h5 m4) (h5.trans m5))
  split at h
  ·rename_i hg
   rw [if_pos (by simp [Region.wanted,hg])]
   exact .inl (JB h hr hf cont)
  ·rename_i j want hg
   split at h
   ·rename_i b hb
    have hy:=Wy hf hb
    by_cases hbw:b=some want
    ·rw [if_pos (by simp [Region.wanted,hg,hy,hbw])]
     exact .inl (JB (h.1 hbw) hr hf cont)
    ·rw [if_neg (by simp [Region.wanted,hg,hy,hbw])]
     exact cont _ _ G _ _ (h.2 hbw) hr (hf.put o.dst (by simp [V.sc,V.scs]) (.undef _)) (.refl _ _) (.refl _)
   ·exact h.elim
theorem uC.region {id:Nat} {ops:Array Oper} {AQ:Exit→AFr→St→Prop} (h:kl P gl ops ops.toList fr st (AQ .normal)):uC P gl (.region id ops false) AQ fr st:=by
 intro w0 G w a h1 h2
 refine wp_region ?_
 have:=UG (P:=P) (gl:=gl) (w0:=w0) (ops:=ops) (Q:=LQ gl w0 st G AQ) ops.toList 0 fr st G w a rfl h h1 h2 (fun fr' st' G' a' w' m1 m2 m3 m4 m5=>⟨fr',st',G',m1,m2,m3,m4,m5⟩)
 rw [List.range_eq_range']
 simpa using this
end
def St.ok (st:St):Prop:=∀(id:Nat) (cs:List V),st.vars[id]? =some cs→V.scs st cs
theorem uC.ok {P:Program} {gl:Nat→List V} {c:Code} {AQ:Exit→AFr→St→Prop} {fr:AFr} {st:St} (h:st.ok→uC P gl c AQ fr st):uC P gl c AQ fr st:=
 fun w0 G w a h1 h2=>h h1.sc w0 G w a h1 h2
def VLe (v u:V):Prop:=∀(G:Gh) (c:Value),VR G u c→VR G v c
theorem VLe.refl (v:V):VLe v v:=fun _ _ h=>h
theorem VLe.junk (v:V):VLe .junk v:=fun _ _ _=> .junk _
theorem VLe.sl (sz:Nat) (es:List (List V)) (tok:Tok):VLe (.sl sz es .none) (.sl sz es tok):=fun _ _ h=>by
 cases h with
 |sl a b c=>exact .sl a trivial c
 |slnil=>exact .slnil _ _
 |slz=>exact .slz _ _
theorem VLe.nil (sz:Nat) (tok:Tok):VLe (.sl sz [] tok) .nilsl:=fun _ _ h=>by cases h; exact .slnil _ _
theorem VLe.exact (sz:Nat) (es:List (List V)):VLe (.sl sz es .none) (.sl sz es .exact):=VLe.sl _ _ _
theorem VLe.trans {a b c:V} (h:VLe a b) (k:VLe b c):VLe a c:=fun G x hx=>h G x (k G x hx)
theorem VLe.agg {a b:List V} (h:a.length=b.length) (hv:∀(i:Nat) (u v:V),a[i]? =some u→b[i]? =some v→VLe u v):VLe (.agg a) (.agg b):=fun G c h'=>by
 cases h' with
 | agg h1 h2=>
  refine .agg (by rw [h,h1]) ?_
  intro i u x hu hx
  have hi:i<b.length:=by
   rw [←h]
   rcases Nat.lt_or_ge i a.length with h'|h'
   ·exact h'
   ·rw [List.getElem?_eq_none h']at hu; cases hu
  exact hv i u _ hu (List.getElem?_eq_getElem hi) G x (h2 i _ x (List.getElem?_eq_getElem hi) hx)
theorem VLe.tuple {a b:List V} (h:a.length=b.length) (hv:∀(i:Nat) (u v:V),a[i]? =some u→b[i]? =some v→VLe u v):VLe (.tuple a) (.tuple b):=fun G c h'=>by
 cases h' with
 | tuple h1 h2=>
  refine .tuple (by rw [h,h1]) ?_
  intro i u x hu hx
  have hi:i<b.length:=by
   rw [←h]
   rcases Nat.lt_or_ge i a.length with h'|h'
   ·exact h'
   ·rw [List.getElem?_eq_none h']at hu; cases hu
  exact hv i u _ hu (List.getElem?_eq_getElem hi) G x (h2 i _ x (List.getElem?_eq_getElem hi) hx)
structure gr (st st':St):Prop where
 vars:st'.vars.length≤st.vars.length
 fams:∀(t p:Nat),st'.fams[t]? =some p→st.fams[t]? =some p
 cells:∀(id:Nat) (cs:List V),st'.vars[id]? =some cs→V.scs st' cs∧st.vars[id]? =some cs
def Z7 (P:Program) (gl:Nat→List V) (fr:AFr) (st:St):ResultVar→Option V
 | .tmp t=>some (xH fr.l t)
 | .cell a t=>match W0 gl st (xH fr.l a) (ti P t).sz (ti P t).d.agg with
  |some v=>if(ti P t).ok=true∧(ti P t).d≠ .other then some v else none
  |none=>none
def qN (P:Program) (gl:Nat→List V) (fr:AFr) (st:St):List ResultVar→Option (List V)
 | []=>some []
 | r::rs=>match Z7 P gl fr st r,qN P gl fr st rs with
  |some v,some vs=>some (v::vs)
  |_,_=>none
def W8:List V→V
 | [v]=>v
 |vs=> .tuple vs
def GD (P:Program) (gl:Nat→List V) (fn:Func) (st0:St) (Q:V→St→Prop):Exit→AFr→St→Prop:=fun e fr st=>
 (e= .normal∨e= .ret)∧∃vs r st',qN P gl fr st fn.results.toList=some vs∧VLe r (W8 vs)∧V.sc st' r∧gr st st'∧st0.le st'∧Q r st'
def YY (n:Nat) (args:List V):AFr:=⟨n,args.zipIdx.map fun(v,i)=>(i,v)⟩
theorem JA (args:List V):∀(k t:Nat),xH ((args.zipIdx k).map fun(v,i)=>(i,v)) t=if k≤t then(args[t-k]?).getD .junk else .junk:=by
 induction args with
 |nil=>intro k t; simp [xH]
 | cons v r ih=>
  intro k t
  simp only [List.zipIdx_cons,List.map_cons,xH,ih]
  by_cases h:k=t
  ·subst h; simp
  ·rw [if_neg h]
   by_cases h1:k+1≤t
   ·rw [if_pos h1,if_pos (by omega),show t-k=(t-(k+1))+1 by omega,List.getElem?_cons_succ]
   ·rw [if_neg h1,if_neg (by omega)]
section
variable {P:Program} {gl:Nat→List V} {w0:kp} {G:Gh} {st:St} {w:World} {a:Act} {fr:AFr}
theorem Ko (h:Rel gl w0 G st w) (hf:vP G st fr a) {r:ResultVar} {v:V} (hv:Z7 P gl fr st r=some v):
  ∃c,((match r with| .tmp t=>(pure (a.tmps.getD t undef):Sem Value)| .cell x t=>do loadVar t (←asAddr (a.tmps.getD x undef))).run P w= .ok c w)∧VR G v c∧V.sc st v:=by
 cases r with
 |tmp t=>simp only [Z7]at hv; injection hv with hv; subst hv; exact⟨_,rfl,(hf.slot t).2,(hf.slot t).1⟩
 | cell x t=>
  simp only [Z7]at hv
  split at hv
  ·rename_i v' hl
   split at hv
   ·rename_i hc
    injection hv with hv; subst hv
    have hs:=hf.slot x
    obtain⟨c,h1,h2,h3⟩:=Ul h hc.1 hc.2 hs.2 hs.1 hl
    have hptr:∃ad,a.tmps.getD x undef= .pointer (some ad):=by
     generalize a.tmps.getD x undef=q at hs
     generalize xH fr.l x=y at hs hl
     cases hs.2 with
     |ptr _=>exact⟨_,rfl⟩
     |eptr _=>exact⟨_,rfl⟩
     |gptr=>exact⟨_,rfl⟩
     |_=>simp [W0]at hl
    obtain⟨ad,had⟩:=hptr
    rw [had]at h1
    refine⟨c, ?_,h2,h3⟩
    simp only [had,Sem.run_bind,asAddr,Sem.run_pure,Result.andThen_ok]
    simpa [Instr.loadAt,Instr.sureAddr] using h1
   ·cases hv
  ·cases hv
theorem WV (h:Rel gl w0 G st w) (hf:vP G st fr a):∀(l:List ResultVar) (vs:List V),qN P gl fr st l=some vs →
  ∃cs:List Value,(l.mapM (m:=Sem) fun r=>match r with| .tmp t=>pure (a.tmps.getD t undef)| .cell x t=>do loadVar t (←asAddr (a.tmps.getD x undef))).run P w= .ok cs w∧VRs G vs cs.toArray∧V.scs st vs
 | [],vs,hv=>by simp only [qN]at hv; injection hv with hv; subst hv; exact⟨[],rfl,⟨rfl,by simp⟩,trivial⟩
 | r ::l,vs,hv=>by
  simp only [qN]at hv
  split at hv
  ·rename_i v vs' h1 h2
   injection hv with hv; subst hv
   obtain⟨c,g1,g2,g3⟩:=Ko h hf h1
   obtain⟨cs,k1,k2,k3⟩:=WV h hf l vs' h2
   refine⟨c::cs, ?_,⟨by simpa using k2.1, ?_⟩,g3,k3⟩
   ·simp only [List.mapM_cons,Sem.run_bind,Sem.run_pure]at *
    cases r with
    |tmp t=>simp only [Sem.run_pure,Result.andThen_ok,k1]at g1 ⊢; injection g1 with g1; rw [g1]
    |cell x t=>simp only [Sem.run_bind]at g1 ⊢; simp only [g1,k1,Result.andThen_ok,Sem.run_pure]
   ·intro i u x hu hx
    cases i with
    |zero=>simp at hu hx; subst hu hx; exact g2
    |succ i=>exact k2.2 i u x (by simpa using hu) (by simpa using hx)
  ·cases hv
theorem VH (h:Rel gl w0 G st w) (hf:vP G st fr a) {fn:Func} {vs:List V} (hv:qN P gl fr st fn.results.toList=some vs):∃c,(results fn a.tmps).run P w= .ok c w∧VR G (W8 vs) c∧V.sc st (W8 vs):=by
 obtain⟨cs,h1,h2,h3⟩:=WV h hf fn.results.toList vs hv
 have hm:(fn.results.mapM (m:=Sem) fun r=>match r with| .tmp t=>pure (a.tmps.getD t undef)| .cell x t=>do loadVar t (←asAddr (a.tmps.getD x undef))).run P w= .ok cs.toArray w:=by
  rw [Array.mapM_eq_mapM_toList]
  simp only [Sem.run_map,h1,Result.andThen_ok]
 have hl:vs.length=cs.length:=by simpa using h2.1
 have fin:(results fn a.tmps).run P w= .ok (if h:cs.toArray.size=1 then cs.toArray[0]else .tuple cs.toArray) w:=by
  unfold results
  rw [Sem.run_bind]
  erw [hm]
  rfl
 cases vs with
 | nil=>
  have:cs= []:=List.eq_nil_of_length_eq_zero hl.symm
  subst this
  exact⟨.tuple #[],by rw [fin]; rfl, .tuple rfl (by simp),by simp [W8,V.sc,V.scs]⟩
 | cons v1 vs=>
  cases cs with
  |nil=>simp at hl
  | cons c1 cs=>
   cases vs with
   | nil=>
    have:cs= []:=List.eq_nil_of_length_eq_zero (by simpa using hl.symm)
    subst this
    exact⟨c1,by rw [fin]; rfl,h2.2 0 v1 c1 rfl rfl,h3.1⟩
   | cons v2 r=>
    cases cs with
    |nil=>simp at hl
    | cons c2 cr=>
     refine⟨.tuple (c1::c2::cr).toArray, ?_, .tuple h2.1 h2.2,h3⟩
     rw [fin,dif_neg (by simp)]
theorem wN.of_body {f : FuncId} {fn : Func} {c : Code} {args : List V} {Q : V → St → Prop} (hf : P.funcs[f]? = some fn) (hb : fn.body = some c) (hn : (fn.name == "runtime.NumGoroutine") = false) (hl : args.length ≤ fn.ntmps)
  (h:st.ok→uC P gl c (GD P gl fn st Q) (YY fn.ntmps args) st):wN P gl f args st Q:=by
 refine⟨by simp [Va,hf,hb,hn], ?_⟩
 intro w0 G w cargs hr hv hs
 refine calls_of_wp hf hb ?_
 have hsz:args.length=cargs.size:=hv.1
 have hfr:vP G st (YY fn.ntmps args) {tmps:=cargs++Array.replicate (fn.ntmps-cargs.size) undef,defers:= []}:=by
  refine⟨rfl,by simp [YY]; omega, ?_⟩
  intro t
  simp only [YY,JA args 0 t,Nat.zero_le,if_true,Nat.sub_zero]
  cases hq:args[t]? with
  |none=>simp [V.sc]; exact .junk _
  | some v=>
   have ht:t<cargs.size:=by
    rw [←hsz]
    rcases Nat.lt_or_ge t args.length with h'|h'
    ·exact h'
    ·rw [List.getElem?_eq_none h']at hq; cases hq
   refine⟨(V.scs_iff st _).1 hs v (List.mem_of_getElem? hq), ?_⟩
   simp only [Option.getD_some,Array.getD_eq_getD_getElem?]
   rw [Array.getElem?_append_left ht]
   simp only [ht,getElem?_pos,Option.getD_some]
   exact hv.2 t v _ hq (by simp [ht])
 refine wp_mono (h hr.sc w0 G w _ hr hfr) ?_
 rintro e a' w' ⟨fr',st',G',⟨he,vs,r,st2,k1,k2,k3,k4,k5,k6⟩,m2,m3,m4,m5⟩
 obtain⟨c',h1,h2,h3⟩:=VH m2 m3 k1
 have hrel:Rel gl w0 G' st2 w':=m2.forget k4.vars k4.fams (by
  intro id cs hcs
  obtain⟨q1,q2⟩:=k4.cells id cs hcs
  exact⟨q1,fun hn=>⟨cs,q2,hn,fun _ _ x=>x⟩⟩)
 have fin:∃v,(results fn a'.tmps).run P w'= .ok v w'∧(∃r c st' G',Ending.returned v= .returned c∧Q r st'∧VR G' r c∧V.sc st' r∧Rel gl w0 G' st' w'∧Ext st G G'∧st.le st'):=
  ⟨c',h1,r,c',st2,G',rfl,k6,k2 _ _ h2,k3,hrel,m4,k5⟩
 rcases he with rfl|rfl
 ·exact⟨m3.defers,fin⟩
 ·exact⟨m3.defers,fin⟩
end
end Go.Abs
end
