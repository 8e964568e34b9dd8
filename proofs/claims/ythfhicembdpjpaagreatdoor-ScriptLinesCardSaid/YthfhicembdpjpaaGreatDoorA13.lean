/- Abstract values: a part. No condition beyond each statement's own. -/
import Derived.Test.YthfhicembdpjpaaGreatDoorA12
set_option linter.all false
section
namespace Go.Abs
open Go.RowKit (Below)
def Y9 (v:V) (args:List V):Option (FuncId×List V):=
 match v with
 | .func (.func f) first captured=>some (f,first++args++captured)
 |_=>none
def PJ (P:Program) (e:TypeId):Prop:=∃i,P.info? e=some i∧i.zero=some (.agg #[.pointer none, .slice none 0 0])
def Kb (P:Program) (o:Op) (fr:AFr) (st:St) (K:V→St→Prop):Prop:=
 match o with
 | .buildSlice t len parts=>match Yq P st (ti P t).d len (parts.toList.map fun(i,x)=>(i,fr.eval x))with
  |some (v,st')=>K v st'
  |none=>False
 | .alloc e=>PJ P e∧∃eb,K (.ptr (st.vars.length+1) 0) ((st.push [.bbuf eb []]).push [.bobj (st.vars.length+1) st.vars.length e []])
 | .call ⟨.builtin .append,⟨[dd,x]⟩,⟨[t,tx]⟩⟩=>∃sz v st',fr.eval dd= .sl sz [] .exact∧dT P st (ti P t).d (ti P tx).d (fr.eval x)=some (v,st')∧(∃id n sz,v= .own id n sz∧0<n)∧K v st'
 |_=>False
def pU (P:Program) (gl:Nat→List V) (o:Oper) (fr:AFr) (st:St) (K:V→St→Prop):Prop:=
 match o.op with
 | .call ⟨.value f,args,_⟩=>
  match Y9 (fr.eval f) (args.toList.map fr.eval)with
  |some (g,vs)=>wn P gl g vs st K
  |none=>False
 | op=>match xY P gl fr st op with
  |some (v,st')=>K v st'∨Kb P op fr st K
  |none=>False
def aOp (P:Program) (gl:Nat→List V) (o:Oper) (fr:AFr) (st:St) (K:AFr→St→Prop):Prop:=
 pU P gl o fr st fun v st'=>K (fr.put o.dst v) st'
def ky (ops:Array Oper) (fr:AFr) (j:Nat):Option (Option Bool):=
 match ops[j]? with
 | some o=>match o.dst with
  | some d=>match wh fr.l d with
   | .bool b=>some (some b)
   | .tuple []=>some none
   |_=>none
  |none=>none
 |none=>none
def uM (p A B:Prop):Prop:=(p→A)∧(¬p→B)
def kJ (P:Program) (gl:Nat→List V) (ops:Array Oper):List Oper→AFr→St→(AFr→St→Prop)→Prop
 | [],fr,st,K=>K fr st
 | o::rest,fr,st,K=>
  match o.guard with
  |none=>aOp P gl o fr st fun fr st=>kJ P gl ops rest fr st K
  | some (j,want)=>match ky ops fr j with
   |some b=>uM (b=some want) (aOp P gl o fr st fun fr st=>kJ P gl ops rest fr st K) (kJ P gl ops rest (fr.put o.dst (.tuple [])) st K)
   |none=>False
section
variable {P:Program} {gl:Nat→List V} {w0:qQ} {G:Gh} {st:St} {w:World} {a:Act} {fr:AFr}
theorem UX {f:FuncId} (h:YL P f=true) (args:Array Value) (w:World):(callFunc f args).run P w= .ok (.enter f args) w:=by
 unfold YL at h
 unfold callFunc
 simp only [iB,run_program,iA]
 split at h
 ·rename_i fn hfn
  rw [hfn]
  simp only [iE,Bool.not_eq_true']at h
  have hb:fn.body.isNone=false:=by
   cases hq:fn.body with
   |none=>rw [hq]at h; simp at h
   |some c=>rfl
  simp only [h.2,hb,Bool.false_eq_true,if_false,iC]
 ·cases h
theorem Rel.newBld (h:Rel gl w0 G st w) {e:TypeId} (eb:TypeId):∃w' G',w'=w.alloc (.cells #[.pointer none, .slice none 0 0] e)∧G'.var (st.vars.length+1)=some w.heap.size ∧
  Rel gl w0 G' ((st.push [.bbuf eb []]).push [.bobj (st.vars.length+1) st.vars.length e []]) w'∧Ext st G G':=by
 have h1:=h.nilVarG (cells:= [.bbuf eb []]) rfl
 have x1:=Gh.setNone_ext G st
 obtain ⟨h2,x2⟩:=h1.newVar [.nilp, .nilsl] #[.pointer none, .slice none 0 0] e ⟨rfl,fun i v c hv hc=>by
  match i with
  |0=>simp at hv hc; subst hv hc; exact .nilp
  |1=>simp at hv hc; subst hv hc; exact .nilsl
  |i+2=>simp at hv⟩ (by simp [V.scs,V.sc])
 have hl:(st.push [V.bbuf eb []]).vars.length=st.vars.length+1:=by simp [St.push]
 rw [hl]at h2 x2
 have hb:(Gh.setVar {G with var:=fun k=>if k=st.vars.length then none else G.var k} (st.vars.length+1) w.heap.size).var (st.vars.length+1)=some w.heap.size:=by simp [Gh.setVar]
 have h3:=h2.storeO (id:=st.vars.length+1) (b:=w.heap.size) (w':=w.alloc (.cells #[.pointer none, .slice none 0 0] e)) (cells0:= [.nilp, .nilsl]) (cells:= [.bobj (st.vars.length+1) st.vars.length e []])
  (by simp [St.push]) rfl hb ⟨rfl,rfl,rfl,rfl,YR w _,fun _ _=>rfl⟩ (.bobj (.inl rfl) (.inl ⟨rfl,rfl⟩)) (by simp [V.scs,V.sc,St.push])
 refine⟨_,_,rfl,hb, ?_,x1.trans (St.le_push _ _) x2⟩
 have e1:(((st.push [V.bbuf eb []]).push [.nilp, .nilsl]).put (st.vars.length+1) [.bobj (st.vars.length+1) st.vars.length e []])=((st.push [.bbuf eb []]).push [.bobj (st.vars.length+1) st.vars.length e []]):=by
  simp only [St.put,St.push]
  rw [List.set_append_right _ _ O2]
  simp
 rw [←e1]
 exact h3
theorem Je (h:Rel gl w0 G st w) {t tx ty:TypeId} {sz':Nat} {x v:V} {a c:Value} {st':St} (hs:VR G (.sl sz' [] .exact) a) (hx:VR G x c) (hv:dT P st (ti P t).d (ti P tx).d x=some (v,st')) (hn:∃id n sz,v= .own id n sz∧0<n):
  SOK P gl w0 G st w (Builtin.append_ #[t,tx] ty #[a,c]) v st':=by
 have hb:∃base:Option Addr,a= .slice base 0 0:=by
  cases hs with
  |sl hr ht hc=>exact⟨_,by have:_=0:=ht; rw [this]; rfl⟩
  |slnil=>exact⟨none,rfl⟩
 obtain⟨base,rfl⟩:=hb
 unfold dT at hv
 split at hv
 ·rename_i e sz by_ hd
  obtain⟨hu,i,hi,hsz,hby⟩:=xM hd
  split at hv
  ·rename_i hz
   obtain⟨hz,hzl,hb0,hsz0⟩:=hz
   split at hv
   ·cases hv
   ·rename_i new hnew
    obtain⟨news,hsrc,hvn,hpn,hln⟩:=VS h hx hnew
    split at hv
    ·rename_i hbd
     injection hv with hv; injection hv with hv1 hv2; subst hv1 hv2
     obtain⟨id,n,z,e1,hn0⟩:=hn
     injection e1 with e2 e3 e4
     have g3:(Builtin.firstCells sz 0 (.slice base 0 0)).run P w.drew= .ok ([]:List Value).toArray w.drew:=by
      cases base with
      |none=>exact run_firstCells_none w.drew _ _ _ _
      |some y=>exact run_firstCells_some w.drew sz 0 y 0 0 [] O2 O2
     have:=Ql (ty:=ty) h hd hz hzl hb0 (base:=base) (sCap:=0) (n:=0) (id:=st.vars.length) (cells:= []) (olds:= []) hsrc hvn hpn hln O2 ⟨rfl,O2⟩ g3 O2 O0 O0 (by rw [Nat.zero_add]; exact hbd)
     have e5:st.put st.vars.length []=st:=by
      unfold St.put
      rw [List.set_eq_of_length_le (Nat.le_refl _)]
     rw [e5,Nat.zero_add,List.nil_append]at this
     exact this
    ·cases hv
  ·cases hv
 ·cases hv
theorem Xx {Q:Exit→Act→World→Prop} {next:Act→World→Prop} {o:Oper} {K:V→St→Prop} (h:pU P gl o fr st K) (hr:Rel gl w0 G st w) (hf:vX G st fr a)
  (hK:∀v c st' G' w',K v st'→VR G' v c→V.sc st' v→Rel gl w0 G' st' w'→Ext st G G'→st.le st'→next (a.put o.dst c) w'):o.wp P a w next Q:=by
 have plain:∀ {v st'},xY P gl fr st o.op=some (v,st')→K v st'→o.wp P a w next Q:=by
  intro v st' he hk
  obtain⟨c,w',G',h1,h2,h3,h4,h5,h6⟩:=JG hr hf o he
  rcases h1 with h1|⟨h1,rfl⟩
  ·simp only [Oper.wp,h1,Oper.upon]
   exact hK _ _ _ _ _ hk h2 h3 h4 h5 h6
  ·simp only [Oper.wp,h1,Oper.upon]
   exact hK _ _ _ _ _ hk h2 h3 h4 h5 h6
 have own:Kb P o.op fr st K→o.wp P a w next Q:=by
  intro h
  unfold Kb at h
  split at h
  ·rename_i t len parts hop
   split at h
   ·rename_i v st' hv
    obtain⟨h1,h2,h3⟩:=WT hf parts
    obtain⟨c,w',G',k1,k2,k3,k4,k5,k6⟩:=Wu hr h1 h2 hv
    have he:(execOp a.eval o).run P w= .ok (.value c) w':=by
     simp only [execOp,hop,iB,k1,iA,iC]
    simp only [Oper.wp,he,Oper.upon]
    exact hK _ _ _ _ _ h k2 k3 k4 k5 k6
   ·exact h.elim
  ·rename_i e hop
   obtain⟨⟨i,hi,hz⟩,eb,hk⟩:=h
   obtain⟨w',G',k1,k2,k3,k4⟩:=hr.newBld (e:=e) eb
   have he:(execOp a.eval o).run P w= .ok (.value (.pointer (some ⟨w.heap.size,0,none⟩))) w':=by
    simp only [execOp,hop,Instr.alloc,iB,vO hi hz,iA]
    rw [k1]; rfl
   simp only [Oper.wp,he,Oper.upon]
   exact hK _ _ _ _ _ hk (.ptr k2) (by simp [V.sc,St.push]) k3 k4 ((St.le_push _ _).trans (St.le_push _ _))
  ·rename_i dd x t tx hop
   obtain⟨sz,v,st',h1,h2,h3,hk⟩:=h
   have hrun:=Je (ty:=o.type) hr (h1▸(hf.eval dd).2) (hf.eval x).2 h2 h3
   obtain⟨c,w',G',k1,k2,k3,k4,k5,k6⟩:=hrun
   have he:(execOp a.eval o).run P w= .ok (.value c) w':=by
    have e0:execOp a.eval o=(do pure (.value (←Builtin.append_ ⟨[t,tx]⟩ o.type ((⟨[dd,x]⟩:Array Operand).map a.eval)))):=by
     obtain⟨dst,op,type,pos,after,guard⟩:=o
     simp only at hop
     subst hop
     have h1:builtin .append ⟨[t,tx]⟩ type ((⟨[dd,x]⟩:Array Operand).map fun| .const _=>true|_=>false) ((⟨[dd,x]⟩:Array Operand).map a.eval)=(do pure (.value (←Builtin.append_ ⟨[t,tx]⟩ type ((⟨[dd,x]⟩:Array Operand).map a.eval)))):=rfl
     show(do let d ←resolve a.eval ⟨.builtin .append,⟨[dd,x]⟩,⟨[t,tx]⟩⟩ type; invoke d.target d.args)=_
     rw [←h1]
     rfl
    have e1:((⟨[dd,x]⟩:Array Operand).map a.eval)= #[a.eval dd,a.eval x]:=O2
    rw [e0,e1]
    simp only [iB,k1,iA,iC]
   simp only [Oper.wp,he,Oper.upon]
   exact hK _ _ _ _ _ hk k2 k3 k4 k5 k6
  ·exact h.elim
 unfold pU at h
 split at h
 ·rename_i f args tys hop
  split at h
  ·rename_i g vs htg
   obtain⟨hok,hcalls⟩:=h
   have hfv:=hf.eval f
   generalize hq:a.eval f=q at hfv
   obtain⟨hfs,hfv⟩:=hfv
   unfold Y9 at htg
   split at htg
   ·rename_i f' first captured heq
    injection htg with htg; injection htg with ht1 ht2; subst ht1 ht2
    rw [heq]at hfv hfs
    cases hfv with
    | func l1 r1 l2 r2=>
     rename_i c1 c2
     obtain⟨as_,av⟩:=hf.evals args.toList
     have e1:(args.toList.map a.eval).toArray=args.map a.eval:=by rw [←Array.toList_map,Array.toArray_toList]
     rw [e1]at av
     simp only [V.sc]at hfs
     have hrun:(execOp a.eval o).run P w= .ok (.enter f' (c1++args.map a.eval++c2)) w:=by
      simp only [execOp,hop,resolve,hq,Deferred.ofValue,iB,iC,iA,invoke]
      exact UX hok _ w
     simp only [Oper.wp,hrun,Oper.upon]
     have happ:∀ {x y:List V} {cx cy:Array Value},VRs G x cx→VRs G y cy→VRs G (x++y) (cx++cy):=by
      intro x y cx cy hx hy
      refine⟨by simp [hx.1,hy.1], ?_⟩
      intro i v c hv hc
      rcases Nat.lt_or_ge i x.length with hi|hi
      ·rw [List.getElem?_append_left hi]at hv
       rw [Array.getElem?_append_left (by rw [←hx.1]; exact hi)]at hc
       exact hx.2 i v c hv hc
      ·rw [List.getElem?_append_right hi]at hv
       rw [Array.getElem?_append_right (by rw [←hx.1]; exact hi),←hx.1]at hc
       exact hy.2 _ v c hv hc
     have hscs:V.scs st (first++args.toList.map fr.eval++captured):=by
      rw [V.scs_iff]
      intro v hv
      rcases List.mem_append.1 hv with hv|hv
      ·rcases List.mem_append.1 hv with hv|hv
       ·exact(V.scs_iff st _).1 hfs.1 v hv
       ·exact(V.scs_iff st _).1 as_ v hv
      ·exact(V.scs_iff st _).1 hfs.2 v hv
     refine(hcalls w0 G w (c1++args.map a.eval++c2) hr (happ (happ ⟨l1,r1⟩ av) ⟨l2,r2⟩) hscs).mono ?_
     rintro e w' ⟨r,c,st',G',rfl,hk,hv,hs,hr',hx,hl⟩
     exact hK _ _ _ _ _ hk hv hs hr' hx hl
   ·cases htg
  ·exact h.elim
 ·split at h
  ·rename_i v st' he
   rcases h with h|h
   ·exact plain he h
   ·exact own h
  ·exact h.elim
theorem US {Q:Exit→Act→World→Prop} {next:Act→World→Prop} {o:Oper} {K:AFr→St→Prop} (h:aOp P gl o fr st K) (hr:Rel gl w0 G st w) (hf:vX G st fr a)
  (hK:∀fr' st' G' a' w',K fr' st'→Rel gl w0 G' st' w'→vX G' st' fr' a'→Ext st G G'→st.le st'→next a' w'):o.wp P a w next Q:=
 Xx (K:=fun v st'=>K (fr.put o.dst v) st') h hr hf fun v c st' G' w' hk hv hs hr' hx hl=>hK _ _ _ _ _ hk hr' ((hf.ext hx hl).put o.dst hs hv) hx hl
theorem VR.undef_eq {G:Gh} {c:Value} (h:VR G (.tuple []) c):c=undef:=by
  cases h with
  | tuple h1 h2 => rename_i c; have:c= #[]:=by apply Array.eq_empty_of_size_eq_zero; simpa using h1.symm
                   subst this; rfl
theorem VR.undef (G:Gh):VR G (.tuple []) Go.undef:= .tuple rfl (by intro i v x h; simp at h)
theorem Wa {ops:Array Oper} {j:Nat} {y:Option Bool} (hf:vX G st fr a) (h:ky ops fr j=some y):yielded ops a.tmps j=y:=by
 unfold ky at h
 split at h
 ·rename_i o ho
  split at h
  ·rename_i d hd
   have hv:=(hf.slot d).2
   split at h
   ·rename_i b' hb
    injection h with h; subst h
    rw [hb]at hv
    generalize hq:a.tmps.getD d undef=q at hv
    cases hv
    unfold yielded
    simp only [ho,Option.bind_some,hd]
    rw [Array.getD_eq_getD_getElem?]at hq
    cases hx:a.tmps[d]? with
    |none=>rw [hx]at hq; simp [Go.undef]at hq
    |some x=>rw [hx]at hq; simp at hq; subst hq; rfl
   ·rename_i hb
    injection h with h; subst h
    rw [hb]at hv
    have hq:=hv.undef_eq
    unfold yielded
    simp only [ho,Option.bind_some,hd]
    rw [Array.getD_eq_getD_getElem?]at hq
    cases hx:a.tmps[d]? with
    |none=>rfl
    |some x=>rw [hx]at hq; simp at hq; subst hq; rfl
   ·cases h
  ·cases h
 ·cases h
theorem VM {ops:Array Oper} {Q:Exit→Act→World→Prop} {K:AFr→St→Prop}:∀(l:List Oper) (k:Nat) (fr:AFr) (st:St) (G:Gh) (w:World) (a:Act),ops.toList.drop k=l→kJ P gl ops l fr st K→Rel gl w0 G st w→vX G st fr a →
  (∀fr' st' G' a' w',K fr' st'→Rel gl w0 G' st' w'→vX G' st' fr' a'→Ext st G G'→st.le st'→Q .normal a' w')→wpOps P ops Q (List.range' k l.length) a w
 | [],k,fr,st,G,w,a,hd,h,hr,hf,hK=>hK fr st G a w h hr hf (.refl _ _) (.refl _)
 | o ::rest,k,fr,st,G,w,a,hd,h,hr,hf,hK=>by
  have ho:ops[k]? =some o:=by
   have:(ops.toList.drop k)[0]? =some o:=by rw [hd]; rfl
   rw [List.getElem?_drop,Nat.add_zero,Array.getElem?_toList]at this
   exact this
  have hd':ops.toList.drop (k+1)=rest:=by
   have:=congrArg (List.drop 1) hd
   rw [List.drop_drop]at this
   simpa using this
  simp only [List.length_cons,List.range'_succ,wpOps,ho]
  simp only [kJ]at h
  have cont:∀fr' st' G' a' w',kJ P gl ops rest fr' st' K→Rel gl w0 G' st' w'→vX G' st' fr' a'→Ext st G G'→st.le st'→wpOps P ops Q (List.range' (k+1) rest.length) a' w':=
   fun fr' st' G' a' w' h1 h2 h3 h4 h5=>VM rest (k+1) fr' st' G' w' a' hd' h1 h2 h3 (fun fr2 st2 G2 a2 w2 m1 m2 m3 m4 m5=>hK fr2 st2 G2 a2 w2 m1 m2 m3 (h4.trans h5 m4) (h5.trans m5))
  split at h
  ·rename_i hg
   rw [if_pos (by simp [Region.wanted,hg])]
   exact .inl (US h hr hf cont)
  ·rename_i j want hg
   split at h
   ·rename_i b hb
    have hy:=Wa hf hb
    by_cases hbw:b=some want
    ·rw [if_pos (by simp [Region.wanted,hg,hy,hbw])]
     exact .inl (US (h.1 hbw) hr hf cont)
    ·rw [if_neg (by simp [Region.wanted,hg,hy,hbw])]
     exact cont _ _ G _ _ (h.2 hbw) hr (hf.put o.dst (by simp [V.sc,V.scs]) (.undef _)) (.refl _ _) (.refl _)
   ·exact h.elim
theorem uj.region {id:Nat} {ops:Array Oper} {AQ:Exit→AFr→St→Prop} (h:kJ P gl ops ops.toList fr st (AQ .normal)):uj P gl (.region id ops false) AQ fr st:=by
 intro w0 G w a h1 h2
 refine wp_region ?_
 have:=VM (P:=P) (gl:=gl) (w0:=w0) (ops:=ops) (Q:=LQ gl w0 st G AQ) ops.toList 0 fr st G w a rfl h h1 h2 (fun fr' st' G' a' w' m1 m2 m3 m4 m5=>⟨fr',st',G',m1,m2,m3,m4,m5⟩)
 rw [List.range_eq_range']
 simpa using this
end
def St.ok (st:St):Prop:=∀(id:Nat) (cs:List V),st.vars[id]? =some cs→V.scs st cs
theorem uj.ok {P:Program} {gl:Nat→List V} {c:Code} {AQ:Exit→AFr→St→Prop} {fr:AFr} {st:St} (h:st.ok→uj P gl c AQ fr st):uj P gl c AQ fr st:=
 fun w0 G w a h1 h2=>h h1.sc w0 G w a h1 h2
def VLe (v u:V):Prop:=∀(G:Gh) (c:Value),VR G u c→VR G v c
theorem VLe.refl (v:V):VLe v v:=fun _ _ h=>h
theorem VLe.junk (v:V):VLe .junk v:=fun _ _ _=> .junk _
theorem VLe.sl (sz:Nat) (es:List (List V)) (tok:Tok):VLe (.sl sz es .none) (.sl sz es tok):=fun _ _ h=>by
 cases h with
 |sl a b c=>exact .sl a trivial c
 |slnil=>exact .slnil _ _
 |slz=>exact .slz _ _
theorem VLe.nil (sz:Nat) (tok:Tok):VLe (.sl sz [] tok) .nilsl:=fun _ _ h=>by cases h; exact .slnil _ _
theorem VLe.exact (sz:Nat) (es:List (List V)):VLe (.sl sz es .none) (.sl sz es .exact):=VLe.sl _ _ _
theorem VLe.trans {a b c:V} (h:VLe a b) (k:VLe b c):VLe a c:=fun G x hx=>h G x (k G x hx)
theorem VLe.agg {a b:List V} (h:a.length=b.length) (hv:∀(i:Nat) (u v:V),a[i]? =some u→b[i]? =some v→VLe u v):VLe (.agg a) (.agg b):=fun G c h'=>by
 cases h' with
 | agg h1 h2=>
  refine .agg (by rw [h,h1]) ?_
  intro i u x hu hx
  have hi:i<b.length:=by
   rw [←h]
   rcases Nat.lt_or_ge i a.length with h'|h'
   ·exact h'
   ·rw [List.getElem?_eq_none h']at hu; cases hu
  exact hv i u _ hu (List.getElem?_eq_getElem hi) G x (h2 i _ x (List.getElem?_eq_getElem hi) hx)
theorem VLe.tuple {a b:List V} (h:a.length=b.length) (hv:∀(i:Nat) (u v:V),a[i]? =some u→b[i]? =some v→VLe u v):VLe (.tuple a) (.tuple b):=fun G c h'=>by
 cases h' with
 | tuple h1 h2=>
  refine .tuple (by rw [h,h1]) ?_
  intro i u x hu hx
  have hi:i<b.length:=by
   rw [←h]
   rcases Nat.lt_or_ge i a.length with h'|h'
   ·exact h'
   ·rw [List.getElem?_eq_none h']at hu; cases hu
  exact hv i u _ hu (List.getElem?_eq_getElem hi) G x (h2 i _ x (List.getElem?_eq_getElem hi) hx)
structure gV (st st':St):Prop where
 vars:st'.vars.length≤st.vars.length
 fams:∀(t p:Nat),st'.fams[t]? =some p→st.fams[t]? =some p
 cells:∀(id:Nat) (cs:List V),st'.vars[id]? =some cs→V.scs st' cs∧st.vars[id]? =some cs
def Yp (P:Program) (gl:Nat→List V) (fr:AFr) (st:St):ResultVar→Option V
 | .tmp t=>some (wh fr.l t)
 | .cell a t=>match X9 gl st (wh fr.l a) (ti P t).sz (ti P t).d.agg with
  |some v=>if(ti P t).ok=true∧(ti P t).d≠ .other then some v else none
  |none=>none
def qU (P:Program) (gl:Nat→List V) (fr:AFr) (st:St):List ResultVar→Option (List V)
 | []=>some []
 | r::rs=>match Yp P gl fr st r,qU P gl fr st rs with
  |some v,some vs=>some (v::vs)
  |_,_=>none
def WE:List V→V
 | [v]=>v
 |vs=> .tuple vs
def KN (P:Program) (gl:Nat→List V) (fn:Func) (st0:St) (Q:V→St→Prop):Exit→AFr→St→Prop:=fun e fr st=>
 (e= .normal∨e= .ret)∧∃vs r st',qU P gl fr st fn.results.toList=some vs∧VLe r (WE vs)∧V.sc st' r∧gV st st'∧st0.le st'∧Q r st'
def YE (n:Nat) (args:List V):AFr:=⟨n,args.zipIdx.map fun(v,i)=>(i,v)⟩
theorem UD (args:List V):∀(k t:Nat),wh ((args.zipIdx k).map fun(v,i)=>(i,v)) t=if k≤t then(args[t-k]?).getD .junk else .junk:=by
 induction args with
 |nil=>intro k t; simp [wh]
 | cons v r ih=>
  intro k t
  simp only [List.zipIdx_cons,List.map_cons,wh,ih]
  by_cases h:k=t
  ·subst h; simp
  ·rw [if_neg h]
   by_cases h1:k+1≤t
   ·rw [if_pos h1,if_pos O0,show t-k=(t-(k+1))+1 by omega,List.getElem?_cons_succ]
   ·rw [if_neg h1,if_neg O0]
section
variable {P:Program} {gl:Nat→List V} {w0:qQ} {G:Gh} {st:St} {w:World} {a:Act} {fr:AFr}
theorem Qk (h:Rel gl w0 G st w) (hf:vX G st fr a) {r:ResultVar} {v:V} (hv:Yp P gl fr st r=some v):
  ∃c,((match r with| .tmp t=>(pure (a.tmps.getD t undef):Sem Value)| .cell x t=>do loadVar t (←asAddr (a.tmps.getD x undef))).run P w= .ok c w)∧VR G v c∧V.sc st v:=by
 cases r with
 |tmp t=>simp only [Yp]at hv; injection hv with hv; subst hv; exact⟨_,rfl,(hf.slot t).2,(hf.slot t).1⟩
 | cell x t=>
  simp only [Yp]at hv
  split at hv
  ·rename_i v' hl
   split at hv
   ·rename_i hc
    injection hv with hv; subst hv
    have hs:=hf.slot x
    obtain⟨c,h1,h2,h3⟩:=V2 h hc.1 hc.2 hs.2 hs.1 hl
    have hptr:∃ad,a.tmps.getD x undef= .pointer (some ad):=by
     generalize a.tmps.getD x undef=q at hs
     generalize wh fr.l x=y at hs hl
     cases hs.2 with
     |ptr _=>exact⟨_,rfl⟩
     |eptr _=>exact⟨_,rfl⟩
     |gptr=>exact⟨_,rfl⟩
     |_=>simp [X9]at hl
    obtain⟨ad,had⟩:=hptr
    rw [had]at h1
    refine⟨c, ?_,h2,h3⟩
    simp only [had,iB,asAddr,iC,iA]
    simpa [Instr.loadAt,Instr.sureAddr] using h1
   ·cases hv
  ·cases hv
theorem Wo (h:Rel gl w0 G st w) (hf:vX G st fr a):∀(l:List ResultVar) (vs:List V),qU P gl fr st l=some vs →
  ∃cs:List Value,(l.mapM (m:=Sem) fun r=>match r with| .tmp t=>pure (a.tmps.getD t undef)| .cell x t=>do loadVar t (←asAddr (a.tmps.getD x undef))).run P w= .ok cs w∧VRs G vs cs.toArray∧V.scs st vs
 | [],vs,hv=>by simp only [qU]at hv; injection hv with hv; subst hv; exact⟨[],rfl,⟨rfl,O2⟩,trivial⟩
 | r ::l,vs,hv=>by
  simp only [qU]at hv
  split at hv
  ·rename_i v vs' h1 h2
   injection hv with hv; subst hv
   obtain⟨c,g1,g2,g3⟩:=Qk h hf h1
   obtain⟨cs,k1,k2,k3⟩:=Wo h hf l vs' h2
   refine⟨c::cs, ?_,⟨by simpa using k2.1, ?_⟩,g3,k3⟩
   ·simp only [List.mapM_cons,iB,iC]at *
    cases r with
    |tmp t=>simp only [iC,iA,k1]at g1 ⊢; injection g1 with g1; rw [g1]
    |cell x t=>simp only [iB]at g1 ⊢; simp only [g1,k1,iA,iC]
   ·intro i u x hu hx
    cases i with
    |zero=>simp at hu hx; subst hu hx; exact g2
    |succ i=>exact k2.2 i u x (O7 hu) (O7 hx)
  ·cases hv
theorem W8 (h:Rel gl w0 G st w) (hf:vX G st fr a) {fn:Func} {vs:List V} (hv:qU P gl fr st fn.results.toList=some vs):∃c,(results fn a.tmps).run P w= .ok c w∧VR G (WE vs) c∧V.sc st (WE vs):=by
 obtain⟨cs,h1,h2,h3⟩:=Wo h hf fn.results.toList vs hv
 have hm:(fn.results.mapM (m:=Sem) fun r=>match r with| .tmp t=>pure (a.tmps.getD t undef)| .cell x t=>do loadVar t (←asAddr (a.tmps.getD x undef))).run P w= .ok cs.toArray w:=by
  rw [Array.mapM_eq_mapM_toList]
  simp only [Sem.run_map,h1,iA]
 have hl:vs.length=cs.length:=by simpa using h2.1
 have fin:(results fn a.tmps).run P w= .ok (if h:cs.toArray.size=1 then cs.toArray[0]else .tuple cs.toArray) w:=by
  unfold results
  rw [iB]
  erw [hm]
  rfl
 cases vs with
 | nil=>
  have:cs= []:=List.eq_nil_of_length_eq_zero hl.symm
  subst this
  exact⟨.tuple #[],by rw [fin]; rfl, .tuple rfl O2,by simp [WE,V.sc,V.scs]⟩
 | cons v1 vs=>
  cases cs with
  |nil=>simp at hl
  | cons c1 cs=>
   cases vs with
   | nil=>
    have:cs= []:=List.eq_nil_of_length_eq_zero (by simpa using hl.symm)
    subst this
    exact⟨c1,by rw [fin]; rfl,h2.2 0 v1 c1 rfl rfl,h3.1⟩
   | cons v2 r=>
    cases cs with
    |nil=>simp at hl
    | cons c2 cr=>
     refine⟨.tuple (c1::c2::cr).toArray, ?_, .tuple h2.1 h2.2,h3⟩
     rw [fin,dif_neg O2]
theorem wn.of_body {f : FuncId} {fn : Func} {c : Code} {args : List V} {Q : V → St → Prop} (hf : P.funcs[f]? = some fn) (hb : fn.body = some c) (hn : (fn.name == "runtime.NumGoroutine") = false) (hl : args.length ≤ fn.ntmps)
  (h:st.ok→uj P gl c (KN P gl fn st Q) (YE fn.ntmps args) st):wn P gl f args st Q:=by
 refine⟨by simp [YL,hf,hb,hn], ?_⟩
 intro w0 G w cargs hr hv hs
 refine calls_of_wp hf hb ?_
 have hsz:args.length=cargs.size:=hv.1
 have hfr:vX G st (YE fn.ntmps args) {tmps:=cargs++Array.replicate (fn.ntmps-cargs.size) undef,defers:= []}:=by
  refine⟨rfl,by simp [YE]; omega, ?_⟩
  intro t
  simp only [YE,UD args 0 t,Nat.zero_le,if_true,Nat.sub_zero]
  cases hq:args[t]? with
  |none=>simp [V.sc]; exact .junk _
  | some v=>
   have ht:t<cargs.size:=by
    rw [←hsz]
    rcases Nat.lt_or_ge t args.length with h'|h'
    ·exact h'
    ·rw [List.getElem?_eq_none h']at hq; cases hq
   refine⟨(V.scs_iff st _).1 hs v (List.mem_of_getElem? hq), ?_⟩
   simp only [Option.getD_some,Array.getD_eq_getD_getElem?]
   rw [Array.getElem?_append_left ht]
   simp only [ht,getElem?_pos,Option.getD_some]
   exact hv.2 t v _ hq (by simp [ht])
 refine wp_mono (h hr.sc w0 G w _ hr hfr) ?_
 rintro e a' w' ⟨fr',st',G',⟨he,vs,r,st2,k1,k2,k3,k4,k5,k6⟩,m2,m3,m4,m5⟩
 obtain⟨c',h1,h2,h3⟩:=W8 m2 m3 k1
 have hrel:Rel gl w0 G' st2 w':=m2.forget k4.vars k4.fams (by
  intro id cs hcs
  obtain⟨q1,q2⟩:=k4.cells id cs hcs
  exact⟨q1,fun hn=>⟨cs,q2,hn,fun _ _ x=>x⟩⟩)
 have fin:∃v,(results fn a'.tmps).run P w'= .ok v w'∧(∃r c st' G',Ending.returned v= .returned c∧Q r st'∧VR G' r c∧V.sc st' r∧Rel gl w0 G' st' w'∧Ext st G G'∧st.le st'):=
  ⟨c',h1,r,c',st2,G',rfl,k6,k2 _ _ h2,k3,hrel,m4,k5⟩
 rcases he with rfl|rfl
 ·exact⟨m3.defers,fin⟩
 ·exact⟨m3.defers,fin⟩
end
@[congr] theorem uM.congr {p p' A A' B B' : Prop} (hp : p = p') (ha : p' → A = A') (hb : ¬p' → B = B') : uM p A B = uM p' A' B' := by
 subst hp
 apply propext
 exact⟨fun h=>⟨fun x=>(ha x)▸h.1 x,fun x=>(hb x)▸h.2 x⟩,fun h=>⟨fun x=>(ha x).symm▸h.1 x,fun x=>(hb x).symm▸h.2 x⟩⟩
theorem uM.posE {p A B:Prop} (h:p):uM p A B=A:=propext ⟨fun x=>x.1 h,fun x=>⟨fun _=>x,fun y=>absurd h y⟩⟩
theorem uM.negE {p A B:Prop} (h:¬p):uM p A B=B:=propext ⟨fun x=>x.2 h,fun x=>⟨fun y=>absurd y h,fun _=>x⟩⟩
@[simp] theorem uM.true_ (A B : Prop) : uM True A B = A := uM.posE trivial
@[simp] theorem uM.false_ (A B : Prop) : uM False A B = B := uM.negE id
@[simp] theorem uM.not_ (p A B : Prop) : uM (¬p) A B = uM p B A := by
 by_cases h:p
 ·rw [uM.negE (O7 h),uM.posE h]
 ·rw [uM.posE h,uM.negE h]
@[simp] theorem uM.same (p A : Prop) : uM p A A = A := by
 by_cases h:p
 ·rw [uM.posE h]
 ·rw [uM.negE h]
@[simp] theorem uM.in1 (p A B C : Prop) : uM p (uM p A B) C = uM p A C := by
 by_cases h:p
 ·simp only [uM.posE h]
 ·simp only [uM.negE h]
@[simp] theorem uM.in2 (p A B C : Prop) : uM p A (uM p B C) = uM p A C := by
 by_cases h:p
 ·simp only [uM.posE h]
 ·simp only [uM.negE h]
@[simp] theorem uM.meet (p : Prop) [Decidable p] (K : AFr → St → Prop) (x x' : AFr) (y y' : St) : uM p (K x y) (K x' y') = K (if p then x else x') (if p then y else y') := by
 by_cases h:p
 ·rw [uM.posE h,if_pos h,if_pos h]
 ·rw [uM.negE h,if_neg h,if_neg h]
@[simp] theorem uM.exL {α : Type} (p : Prop) [Decidable p] (x y : α) (R : α → Prop) : (∃ v, uM p (x = v) (v = y) ∧ R v) = R (if p then x else y) := by
 apply propext
 by_cases h:p
 ·simp only [uM.posE h,if_pos h]
  exact⟨fun⟨v,hv,hr⟩=>hv▸hr,fun hr=>⟨_,rfl,hr⟩⟩
 ·simp only [uM.negE h,if_neg h]
  exact⟨fun⟨v,hv,hr⟩=>hv▸hr,fun hr=>⟨_,rfl,hr⟩⟩
@[simp] theorem uM.eqL {α : Type} (p : Prop) [Decidable p] (x y : α) : uM p (x = if p then x else y) ((if p then x else y) = y) = True := by
 by_cases h:p
 ·simp only [uM.posE h,if_pos h]
 ·simp only [uM.negE h,if_neg h]
@[simp] theorem PW {α : Type} (p : Prop) [Decidable p] (a b c : α) : (if p then (if p then a else b) else c) = if p then a else c := by
 by_cases h:p<;>simp [h]
@[simp] theorem PX {α : Type} (p : Prop) [Decidable p] (a b c : α) : (if p then a else if p then b else c) = if p then a else c := by
 by_cases h:p<;>simp [h]
@[simp] theorem fQ (p : Prop) [Decidable p] (n : Nat) (l l' : List (Nat × V)) : (if p then (⟨n, l⟩ : AFr) else ⟨n, l'⟩) = ⟨n, if p then l else l'⟩ := by
 by_cases h:p<;>simp [h]
@[simp] theorem cK (p : Prop) [Decidable p] (k : Nat) (v v' : V) (r r' : List (Nat × V)) : (if p then (k, v) :: r else (k, v') :: r') = (k, if p then v else v') :: (if p then r else r') := by
 by_cases h:p<;>simp [h]
@[simp] theorem PV (p : Prop) [Decidable p] (a b : Bool) : (if p then V.bool a else V.bool b) = V.bool (if p then a else b) := by
 by_cases h:p<;>simp [h]
@[simp] theorem cU (p : Prop) [Decidable p] (k : IntKind) (a b : Int) : (if p then V.int k a else V.int k b) = V.int k (if p then a else b) := by
 by_cases h:p<;>simp [h]
@[simp] theorem cH (p : Prop) [Decidable p] (a b : List UInt8) : (if p then V.str a else V.str b) = V.str (if p then a else b) := by
 by_cases h:p<;>simp [h]
theorem uM.callL {P:Program} {gl:Nat→List V} {p B:Prop} {f:FuncId} {args:List V} {st:St} {v:V} {Q:V→St→Prop} (h:p→wn P gl f args st fun r s=>s=st∧r=v) (h2:uM p (Q v st) B):uM p (wn P gl f args st Q) B:=
 ⟨fun hp=>(h hp).mono (by rintro r s ⟨rfl,rfl⟩; exact h2.1 hp),h2.2⟩
theorem uM.callR {P:Program} {gl:Nat→List V} {p A:Prop} {f:FuncId} {args:List V} {st:St} {v:V} {Q:V→St→Prop} (h:¬p→wn P gl f args st fun r s=>s=st∧r=v) (h2:uM p A (Q v st)):uM p A (wn P gl f args st Q):=
 ⟨h2.1,fun hp=>(h hp).mono (by rintro r s ⟨rfl,rfl⟩; exact h2.2 hp)⟩
@[congr] theorem wn.congrArgs {P : Program} {gl : Nat → List V} {f f' : FuncId} {args args' : List V} {st st' : St} {Q : V → St → Prop} (hf : f = f') (ha : args = args') (hs : st = st') : wn P gl f args st Q = wn P gl f' args' st' Q := by
 subst hf ha hs; rfl
attribute [simp ↓] kJ aOp pU
attribute [simp] ky Y9 xY AFr.eval AFr.put wh Uy dO XW Gu Ga aun QC kp KM X9 XK rd TD.agg V.isCells V.isCell V.cells V.of V.ofCell V.add V.isNil jl bV qU Yp WE bt Wb X6 QV V.pure V.pures V.pcell V.pcells V.sc V.scs YE
attribute [simp] List.getElem?_cons_zero List.getElem?_cons_succ List.getElem?_nil IntKind.bits
def St.ext (st:St) (xs:List (List V)) (ys:List Nat):St:=⟨st.vars++xs,st.fams++ys⟩
theorem St.ext_nil (st:St):st.ext [] []=st:=by simp [St.ext]
@[simp] theorem St.ext_push (st : St) (xs : List (List V)) (ys : List Nat) (c : List V) : (st.ext xs ys).push c = st.ext (xs ++ [c]) ys := by simp [St.ext, St.push]
@[simp] theorem St.ext_pushFam (st : St) (xs : List (List V)) (ys : List Nat) (p : Nat) : (st.ext xs ys).pushFam p = st.ext xs (ys ++ [p]) := by simp [St.ext, St.pushFam]
@[simp] theorem St.ext_vars_length (st : St) (xs : List (List V)) (ys : List Nat) : (st.ext xs ys).vars.length = st.vars.length + xs.length := by simp [St.ext]
@[simp] theorem St.ext_fams_length (st : St) (xs : List (List V)) (ys : List Nat) : (st.ext xs ys).fams.length = st.fams.length + ys.length := by simp [St.ext]
@[simp high] theorem St.ext_get (st : St) (xs : List (List V)) (ys : List Nat) (k : Nat) : (st.ext xs ys).vars[st.vars.length + k]? = xs[k]? := by simp only [St.ext]; rw [List.getElem?_append_right O0]; congr 1; omega
@[simp high] theorem St.ext_get0 (st : St) (xs : List (List V)) (ys : List Nat) : (st.ext xs ys).vars[st.vars.length]? = xs[0]? := by simp only [St.ext]; rw [List.getElem?_append_right O0]; congr 1; omega
@[simp high] theorem St.ext_fam (st : St) (xs : List (List V)) (ys : List Nat) (k : Nat) : (st.ext xs ys).fams[st.fams.length + k]? = ys[k]? := by simp only [St.ext]; rw [List.getElem?_append_right O0]; congr 1; omega
@[simp high] theorem St.ext_fam0 (st : St) (xs : List (List V)) (ys : List Nat) : (st.ext xs ys).fams[st.fams.length]? = ys[0]? := by simp only [St.ext]; rw [List.getElem?_append_right O0]; congr 1; omega
@[simp high] theorem St.ext_put (st : St) (xs : List (List V)) (ys : List Nat) (k : Nat) (c : List V) : (st.ext xs ys).put (st.vars.length + k) c = st.ext (xs.set k c) ys := by simp [St.ext, St.put]
@[simp high] theorem St.ext_put0 (st : St) (xs : List (List V)) (ys : List Nat) (c : List V) : (st.ext xs ys).put st.vars.length c = st.ext (xs.set 0 c) ys := by
 have:=St.ext_put st xs ys 0 c; simpa using this
@[simp high] theorem St.ext_setFam (st : St) (xs : List (List V)) (ys : List Nat) (k p : Nat) : (st.ext xs ys).setFam (st.fams.length + k) p = st.ext xs (ys.set k p) := by simp [St.ext, St.setFam]
@[simp high] theorem St.ext_setFam0 (st : St) (xs : List (List V)) (ys : List Nat) (p : Nat) : (st.ext xs ys).setFam st.fams.length p = st.ext xs (ys.set 0 p) := by
 have:=St.ext_setFam st xs ys 0 p; simpa using this
@[simp] theorem St.ext_ext (st : St) (xs xs' : List (List V)) (ys ys' : List Nat) : (st.ext xs ys).ext xs' ys' = st.ext (xs ++ xs') (ys ++ ys') := by simp [St.ext]
theorem Jc {α:Type} {l:List α} {i:Nat} {x:α} (h:l[i]? =some x):i<l.length:=by
 rcases Nat.lt_or_ge i l.length with h'|h'
 ·exact h'
 ·rw [List.getElem?_eq_none h']at h; cases h
theorem St.ext_old (st:St) (xs:List (List V)) (ys:List Nat) {id:Nat} {c:List V} (h:st.vars[id]? =some c):(st.ext xs ys).vars[id]? =some c:=by
 simp [St.ext,List.getElem?_append_left (Jc h),h]
theorem St.ext_oldFam (st:St) (xs:List (List V)) (ys:List Nat) {t p:Nat} (h:st.fams[t]? =some p):(st.ext xs ys).fams[t]? =some p:=by
 simp [St.ext,List.getElem?_append_left (Jc h),h]
@[simp] theorem St.put_vars_length (st : St) (id : Nat) (c : List V) : (st.put id c).vars.length = st.vars.length := by simp [St.put]
@[simp] theorem St.put_fams (st : St) (id : Nat) (c : List V) : (st.put id c).fams = st.fams := rfl
theorem St.le_ext (st:St) (xs:List (List V)) (ys:List Nat):st.le (st.ext xs ys):=
 ⟨O2,fun t p h=>⟨p,St.ext_oldFam st xs ys h,Nat.le_refl _⟩⟩
theorem gV.pop {st:St} (h:st.ok) (xs:List (List V)) (ys:List Nat):gV (st.ext xs ys) st:=
 ⟨O2,fun t p hp=>St.ext_oldFam st xs ys hp,fun id cs hc=>⟨h id cs hc,St.ext_old st xs ys hc⟩⟩
theorem gV.refl {st:St} (h:st.ok):gV st st:=⟨Nat.le_refl _,fun t p hp=>hp,fun id cs hc=>⟨h id cs hc,hc⟩⟩
theorem KN.ends {P:Program} {gl:Nat→List V} {fn:Func} {st:St} {Q:V→St→Prop} {e:Exit} {fr:AFr} {xs:List (List V)} {ys:List Nat} {vs:List V} (he:e= .normal∨e= .ret) (hok:st.ok)
  (hv:qU P gl fr (st.ext xs ys) fn.results.toList=some vs) (hs:V.sc st (WE vs)) (hq:Q (WE vs) st):KN P gl fn st Q e fr (st.ext xs ys):=
 ⟨he,vs,WE vs,st,hv, .refl _,hs,gV.pop hok xs ys, .refl _,hq⟩
theorem wn.body {P : Program} {gl : Nat → List V} {f : FuncId} {fn : Func} {c : Code} {args : List V} {st : St} {Q : V → St → Prop} (hf : P.funcs[f]? = some fn) (hb : fn.body = some c) (hn : (fn.name == "runtime.NumGoroutine") = false) (hl : args.length ≤ fn.ntmps)
  (h:st.ok→uj P gl c (KN P gl fn st Q) (YE fn.ntmps args) (st.ext [] [])):wn P gl f args st Q:=
 wn.of_body hf hb hn hl (by rw [St.ext_nil]at h; exact h)
end Go.Abs
end
