/- Closed runs: a part. No condition beyond each statement's own. -/
import Derived.Test.YtkabooclnoiclaaGreatDoorK06
set_option linter.all false
section
namespace Go.K
open Go.Abs
inductive RdR (G:Gh):Option Nat→Fence→Prop
 |out:RdR G none Fence.wide
 |inl {l b k:Nat}:G.at_ l=some (b,k)→RdR G (some l) (Fence.wide.inRound b)
theorem RdR.le {G G':Gh} (h:G.le G') {rd:Option Nat} {F:Fence}:RdR G rd F→RdR G' rd F
 | .out=> .out
 | .inl a=> .inl (h.at_ a)
theorem RdR.fn {G:Gh} {rd:Option Nat} {F:Fence} (h:RdR G rd F) (f:FuncId):F.fn f:=by cases h<;>exact trivial
theorem RdR.depth {G:Gh} {rd:Option Nat} {F:Fence} (h:RdR G rd F):F.depth=none:=by cases h<;>rfl
theorem Glob.le {P:Program} {G G':Gh} (h:G.le G') (g:Glob P G):Glob P G':=fun i hi=>h.at_ (g i hi)
def kx (B:zJ) (G:Gh) (e:Exit) (fr:KFr) (h:KH):Exit→Act→World→Prop:=
 fun e1 a1 w1=>e1=e∧∃G',G.le G'∧FrR G' fr a1∧KRel B G' h w1
theorem kx.le {B:zJ} {G G':Gh} (hl:G.le G') {e:Exit} {fr:KFr} {h:KH} {e1:Exit} {a1:Act} {w1:World} (k:kx B G' e fr h e1 a1 w1):kx B G e fr h e1 a1 w1:=
 let⟨a,G'',b,c⟩:=k; ⟨a,G'',hl.trans b,c⟩
def KC (P:Program) (rd:Option Nat) (c:Code) (fr:KFr) (h:KH) (e:Exit) (fr':KFr) (h':KH):Prop:=
 ∀(B:zJ) (G:Gh) (w:World) (a:Act) (F:Fence) (n:Nat),Glob P G→RdR G rd F→KRel B G h w→FrR G fr a→c.wpIn F n P (kx B G e fr' h') a w
def ri (F:Fence) (n:Nat) (P:Program) (c:Code) (Q:Exit→Act→World→Prop) (a:Act) (w:World):Prop:=
 ∀ (b:Frame) (k:List Item) (cs:List Frame),b.roundOf=F.round→F.fn b.fn→F.room (cs.length+1+n) →
  ∃e a' w',Q e a' w'∧ArrivesIn (Machine.fenced P F) P (lone (b.atR a (.code c:: .inLoop c::k)) cs w) b k cs e a' w'
def KL (P:Program) (rd:Option Nat) (c:Code) (fr:KFr) (h:KH) (e:Exit) (fr':KFr) (h':KH):Prop:=
 ∀(B:zJ) (G:Gh) (w:World) (a:Act) (F:Fence) (n:Nat),Glob P G→RdR G rd F→KRel B G h w→FrR G fr a→ri F n P c (kx B G e fr' h') a w
def KO_ (P:Program) (rd:Option Nat) (ops:Array Oper) (is:List Nat) (fr:KFr) (h:KH) (fr':KFr) (h':KH):Prop:=
 ∀ (B:zJ) (G:Gh) (w:World) (a:Act) (F:Fence) (n:Nat) (Q:Exit→Act→World→Prop),Glob P G→RdR G rd F→KRel B G h w→FrR G fr a →
  (∀a1 w1,kx B G .normal fr' h' .normal a1 w1→Q .normal a1 w1)→wpOpsIn F n P ops Q is a w
def KCall (P:Program) (f:FuncId) (args:List KV) (h:KH) (r:KV) (h':KH):Prop:=
 ∀ (B:zJ) (G:Gh) (w:World) (cargs:Array Value) (n:Nat),Glob P G→KRel B G h w→KRs G args cargs →
  CallsIn Fence.wide n P f cargs w fun en w1=>∃c G',en= .returned c∧G.le G'∧KR G' r c∧KRel B G' h' w1
section
variable {P:Program} {rd:Option Nat} {fr fr1 fr':KFr} {h h1 h':KH} {e:Exit} {c x y:Code}
theorem lu:KC P rd .skip fr h .normal fr h:=fun B G w a F n hg hr k f=>wpIn_skip ⟨rfl,G, .refl _,f,k⟩
theorem cg {l:Nat}:KC P rd (.label l) fr h .normal fr h:=fun B G w a F n hg hr k f=>wpIn_label ⟨rfl,G, .refl _,f,k⟩
theorem hO {id:Nat}:KC P rd (.exit id) fr h (.exit id) fr h:=fun B G w a F n hg hr k f=>wpIn_exit ⟨rfl,G, .refl _,f,k⟩
theorem ot:KC P rd .ret fr h .ret fr h:=fun B G w a F n hg hr k f=>wpIn_ret ⟨rfl,G, .refl _,f,k⟩
theorem D5 (k1:KC P rd x fr h .normal fr1 h1) (k2:KC P rd y fr1 h1 e fr' h'):KC P rd (.seq x y) fr h e fr' h':=fun B G w a F n hg hr k f=>by
 refine wpIn_seq (wpIn_mono (k1 B G w a F n hg hr k f) ?_)
 rintro e1 a1 w1 ⟨rfl,G',g1,g2,g3⟩
 exact wpIn_mono (k2 B G' w1 a1 F n (hg.le g1) (hr.le g1) g3 g2) fun _ _ _ q=>q.le g1
theorem Kd (k1:KC P rd x fr h e fr' h') (he:e≠ .normal):KC P rd (.seq x y) fr h e fr' h':=fun B G w a F n hg hr k f=>by
 refine wpIn_seq (wpIn_mono (k1 B G w a F n hg hr k f) ?_)
 rintro e1 a1 w1 ⟨rfl,q⟩
 cases e1 with
 |normal=>exact absurd rfl he
 |_=>exact⟨rfl,q⟩
theorem KQ {ng:Nat} (hn:ng≤P.globals.size) {o:Operand} {t:Bool} (ho:zg ng fr.l o= .bool t) (k1:KC P rd (if t then x else y) fr h e fr' h'):KC P rd (.cond o x y) fr h e fr' h':=fun B G w a F n hg hr k f=>by
 have hv:=f.eval hg hn o
 rw [ho]at hv
 generalize hc:a.eval o=cv at hv
 cases hv
 exact wpIn_cond hc (k1 B G w a F n hg hr k f)
theorem uD {id:Nat} (k1:KC P rd c fr h e fr' h') (e':Exit) (he:e'=match e with| .exit i=>if i=id then .normal else .exit i|e=>e):KC P rd (.block id c) fr h e' fr' h':=fun B G w a F n hg hr k f=>by
 refine wpIn_block (wpIn_mono (k1 B G w a F n hg hr k f) ?_)
 rintro e1 a1 w1 ⟨rfl,q⟩
 subst he
 cases e1 with
 | exit i=>
  show(if i=id then kx B G _ fr' h' .normal a1 w1 else kx B G _ fr' h' (.exit i) a1 w1)
  by_cases hi:i=id
  ·rw [if_pos hi]; exact⟨by simp [hi],q⟩
  ·rw [if_neg hi]; exact⟨by simp [hi],q⟩
 |_=>exact⟨rfl,q⟩
theorem fq (k1:KL P rd c fr h e fr' h'):KC P rd (.loop c) fr h e fr' h':=fun B G w a F n hg hr k f=>by
 intro b k0 cs hro hb hroom
 obtain⟨e1,a1,w1,q,harr⟩:=k1 B G w a F n hg hr k f b k0 cs hro hb hroom
 exact⟨e1,a1,w1,q, .of_steps (.one (fenced_calm hb hroom rfl) stepR_loop) harr⟩
theorem lg (k1:KC P rd c fr h .normal fr1 h1) (k2:KL P rd c fr1 h1 e fr' h'):KL P rd c fr h e fr' h':=fun B G w a F n hg hr k f=>by
 intro b k0 cs hro hb hroom
 obtain⟨e1,a1,w1,⟨rfl,G',g1,g2,g3⟩,harr⟩:=k1 B G w a F n hg hr k f b (.inLoop c::k0) cs hro hb hroom
 obtain⟨e2,a2,w2,q,harr2⟩:=k2 B G' w1 a1 F n (hg.le g1) (hr.le g1) g3 g2 b k0 cs hro hb hroom
 exact⟨e2,a2,w2,q.le g1, .of_steps (StepsIn.trans harr (.one (fenced_calm hb hroom rfl) stepR_inLoop)) harr2⟩
theorem oO (k1:KC P rd c fr h e fr' h') (he:e≠ .normal):KL P rd c fr h e fr' h':=fun B G w a F n hg hr k f=>by
 intro b k0 cs hro hb hroom
 obtain⟨e1,a1,w1,q,harr⟩:=k1 B G w a F n hg hr k f b (.inLoop c::k0) cs hro hb hroom
 obtain⟨rfl,q'⟩:=q
 exact⟨e1,a1,w1,⟨rfl,q'⟩, .pass (x:= .inLoop c) rfl (fun _ _=> .inl he) harr⟩
theorem B6 {id:Nat} {ops:Array Oper} (k1:KO_ P rd ops (List.range ops.size) fr h fr' h'):KC P rd (.region id ops false) fr h .normal fr' h':=fun B G w a F n hg hr k f=>
 wpIn_region (k1 B G w a F n _ hg hr k f fun _ _ q=>q)
theorem o9 {ops:Array Oper}:KO_ P rd ops [] fr h fr h:=fun B G w a F n Q hg hr k f hq=>hq a w ⟨rfl,G, .refl _,f,k⟩
def KFr.put (fr:KFr) (dst:Option Tmp) (v:KV):KFr:=match dst with
 |none=>fr
 |some d=>bif Nat.blt d fr.n then {fr with l:=xp fr.l d v} else fr
theorem FrR.put {G:Gh} {fr:KFr} {a:Act} (f:FrR G fr a) (dst:Option Tmp) {v:KV} {cv:Value} (hv:KR G v cv):FrR G (fr.put dst v) (a.put dst cv):=by
 cases dst with
 |none=>exact f
 | some d=>
  simp only [KFr.put,Act.put,zL,Bool.cond_decide]
  by_cases hd:d<fr.n
  ·rw [if_pos hd]
   exact⟨f.sl.put d hv hd,f.ds⟩
  ·rw [if_neg hd]
   refine⟨?_,f.ds⟩
   have:a.tmps.setIfInBounds d cv=a.tmps:=by
    apply Array.setIfInBounds_eq_of_size_le
    rw [f.sl.size]; exact Nat.le_of_not_lt hd
   rw [this]; exact f.sl
def pa (ops:Array Oper) (l:Sl) (j:Nat):Option (Option Bool):=
 match(ops[j]?).bind (·.dst)with
 | some d=>match zN l d with
  | .bool b=>some (some b)
  | .tuple []=>some none
  |_=>none
 |none=>none
def yr (ops:Array Oper) (l:Sl) (o:Oper):Option Bool:=
 match o.guard with
 |none=>some true
 | some (j,want)=>match pa ops l j with
  |some (some b)=>some (b==want)
  |some none=>some false
  |none=>none
theorem uM {G:Gh} {ops:Array Oper} {fr:KFr} {a:Act} {o:Oper} (f:FrR G fr a) {t:Bool} (e:yr ops fr.l o=some t):Region.wanted o (yielded ops a.tmps)=t:=by
 unfold yr at e
 unfold Region.wanted
 cases hgd:o.guard with
 |none=>rw [hgd]at e; injection e
 | some g=>
  obtain⟨j,want⟩:=g
  rw [hgd]at e
  simp only at e ⊢
  unfold pa at e
  unfold yielded
  cases hd:(ops[j]?).bind (·.dst)with
  |none=>rw [hd]at e; simp at e
  | some d=>
   rw [hd]at e
   simp only [Option.bind_some]at e ⊢
   have hs:=f.sl.slot d
   cases hsg:zN fr.l d<;>rw [hsg]at e hs<;>try (first|(cases e; done)|skip)
   ·rename_i b
    cases hx:a.tmps[d]? with
    | none=>
     rw [Array.getD_eq_getD_getElem?,hx]at hs
     cases hs
    | some u=>
     rw [Array.getD_eq_getD_getElem?,hx]at hs
     simp only [Option.getD_some]at hs
     cases hs
     simp only [Option.some.injEq]at e
     simp [e]
   ·rename_i vs
    cases vs with
    |cons _ _=>simp at e
    | nil=>
     simp only [Option.some.injEq]at e
     subst e
     cases hx:a.tmps[d]? with
     |none=>rfl
     | some u=>
      rw [Array.getD_eq_getD_getElem?,hx]at hs
      simp only [Option.getD_some]at hs
      cases hs
      rfl
theorem Kc {ops:Array Oper} {i:Nat} {is:List Nat} {o:Oper} (hi:ops[i]? =some o) (hw:yr ops fr.l o=some false) (k1:KO_ P rd ops is (fr.put o.dst (.tuple [])) h fr' h'):KO_ P rd ops (i::is) fr h fr' h':=fun B G w a F n Q hg hr k f hq=>by
 simp only [wpOpsIn,hi,uM f hw,Bool.false_eq_true,if_false]
 exact⟨fun g _=>hr.fn g,k1 B G w _ F n Q hg hr k (f.put o.dst (.tuple rfl (by simp))) hq⟩
end
theorem KRs.append {G:Gh} {a b:List KV} {x y:Array Value} (h1:KRs G a x) (h2:KRs G b y):KRs G (a++b) (x++y):=by
 refine⟨by simp [h1.1,h2.1], ?_⟩
 intro i v c hv hc
 rcases Nat.lt_or_ge i a.length with hi|hi
 ·rw [List.getElem?_append_left hi]at hv
  rw [Array.getElem?_append_left (by rw [←h1.1]; exact hi)]at hc
  exact h1.2 i v c hv hc
 ·rw [List.getElem?_append_right hi]at hv
  rw [Array.getElem?_append_right (by rw [←h1.1]; exact hi),←h1.1]at hc
  exact h2.2 _ v c hv hc
structure KF_ where
 F:FuncId→Option Func
 M:TypeId→String→Option FuncId
structure KF_.Ok (P:Program) (E:KF_):Prop where
 F : ∀ {f fn}, E.F f = some fn → P.funcs[f]? = some fn ∧ (fn.name == "runtime.NumGoroutine") = false
 M:∀ {t name f},E.M t name=some f→∀(v:Value) (w:World),(method (P.types.size+Made.depth) t v name).run P w= .ok (f,v) w
def gU:List KV→Nat→Sl→Sl
 | [],_,s=>s
 |v::r,i,s=>gU r (i+1) (xp s i v)
theorem ZD:∀(l:List KV) (i:Nat) (s:Sl) (t:Nat),zN (gU l i s) t=if i≤t∧t<i+l.length then(l[t-i]?).getD .junk else zN s t
 | [],i,s,t=>by rw [if_neg (by simp only [List.length_nil]; omega)]; rfl
 | v::r,i,s,t=>by
  simp only [gU,ZD r (i+1),yS,List.length_cons]
  by_cases h:t=i
  ·subst h
   rw [if_neg (by omega),if_pos rfl,if_pos (by omega)]; simp
  ·by_cases h2:i+1≤t∧t<i+1+r.length
   ·rw [if_pos h2,if_pos (by omega),show t-i=(t-(i+1))+1 by omega]; simp
   ·rw [if_neg h2,if_neg h,if_neg (by omega)]
def dk (fn:Func) (args:List KV):KFr:=⟨fn.ntmps,gU args 0 .none,[]⟩
def vA (E:KF_) (c:Callee) (ev:Operand→KV) (args:List KV):Option (FuncId×List KV):=
 match c with
 | .value f=>match ev f with
  | .func (.func f) first cap=>some (f,first++args++cap)
  |_=>none
 | .invoke r name=>match ev r with
  | .iface t v=>match E.M t name with
   |some f=>some (f,v::args)
   |none=>none
  |_=>none
 | .builtin _=>none
section
variable {P:Program} {E:KE} {S:KF_} {B:zJ} {G:Gh} {h h1 h':KH} {w:World} {fr fr':KFr} {a:Act} {rd:Option Nat}
theorem Z3 {fn:Func} {args:List KV} {cargs:Array Value} (ha:KRs G args cargs) (hn:args.length≤fn.ntmps):FrR G (dk fn args) {tmps:=cargs++Array.replicate (fn.ntmps-cargs.size) undef,defers:= []}:=by
 refine⟨⟨by simp [dk,←ha.1]; omega,fun t=> ?_⟩, .nil⟩
 have e0:zN (dk fn args).l t=(args[t]?).getD .junk:=by
  simp only [dk,ZD,Nat.zero_le,true_and,Nat.zero_add,Nat.sub_zero,B1]
  split
  ·rfl
  ·rename_i h; rw [List.getElem?_eq_none (Nat.le_of_not_lt h)]; rfl
 rw [e0]
 cases hq:args[t]? with
 |none=>exact .junk _
 | some v=>
  have ht:=yo hq
  have hc:t<cargs.size:=by rw [←ha.1]; exact ht
  have:(cargs++Array.replicate (fn.ntmps-cargs.size) undef).getD t undef=cargs[t]:=by
   rw [Array.getD_eq_getD_getElem?,Array.getElem?_append_left hc]; simp [hc]
  rw [this]
  exact ha.2 t v _ hq (by simp [hc])
theorem vy (hS:S.Ok P) {f:FuncId} {fn:Func} (hf:S.F f=some fn) {c:Code} (hb:fn.body=some c) (args:Array Value) (w:World):(callFunc f args).run P w= .ok (.enter f args) w:=by
 obtain⟨h1,h2⟩:=hS.F hf
 simp only [callFunc,iB,run_program,iA,h1,h2,Bool.false_eq_true,if_false,hb,Option.isNone_some,iC]
theorem Uc (hS:S.Ok P) (hev:∀x,KR G (zg E.ng fr.l x) (a.eval x)) {o:Oper} {cl:Call} (hop:o.op= .call cl) {f:FuncId} {args:List KV} (e:vA S cl.callee (zg E.ng fr.l) (cl.args.toList.map (zg E.ng fr.l))=some (f,args))
  {fn:Func} (hf:S.F f=some fn) {c:Code} (hb:fn.body=some c):∃cargs,(execOp a.eval o).run P w= .ok (.enter f cargs) w∧KRs G args cargs:=by
 have hargs:=jy (E:=E) hev cl.args
 obtain⟨callee,asT,tys⟩:=cl
 unfold vA at e
 simp only at e hargs
 split at e
 ·rename_i fo
  split at e
  ·rename_i f' first cap hfo
   simp only [Option.some.injEq,Prod.mk.injEq]at e
   obtain⟨rfl,rfl⟩:=e
   have hv:=hev fo
   rw [hfo]at hv
   generalize hcv:a.eval fo=cv at hv
   cases hv with
   | func l1 r1 l2 r2=>
    rename_i c1 c2
    refine⟨c1++asT.map a.eval++c2, ?_,(KRs.append (KRs.append ⟨l1,r1⟩ hargs) ⟨l2,r2⟩)⟩
    simp only [execOp,hop,resolve,iB,hcv,Deferred.ofValue,iC,iA,invoke,vy hS hf hb]
  ·cases e
 ·rename_i ro name
  split at e
  ·rename_i t v hro
   split at e
   ·rename_i f' hM
    simp only [Option.some.injEq,Prod.mk.injEq]at e
    obtain⟨rfl,rfl⟩:=e
    have hv:=hev ro
    rw [hro]at hv
    generalize hcv:a.eval ro=cv at hv
    cases hv with
    | iface hv'=>
     rename_i c0
     refine⟨#[c0]++asT.map a.eval, ?_, ?_⟩
     ·simp only [execOp,hop,resolve,iB,hcv,iC,iA,invoke]
      have h0:(#[Value.iface t c0]++asT.map a.eval)[0]? =some (.iface t c0):=by rw [Array.getElem?_append_left (by simp)]; rfl
      have hx:(#[Value.iface t c0]++asT.map a.eval).extract 1 (#[Value.iface t c0]++asT.map a.eval).size=asT.map a.eval:=by
       apply Array.ext'
       simp only [Array.toList_extract,List.extract_eq_take_drop,Array.toList_append,List.size_toArray,Array.size_append,Array.size_map,List.length_cons,List.length_nil,Array.toList_map]
       simp only [List.cons_append,List.nil_append,List.drop_succ_cons,List.drop_zero]
       exact List.take_of_length_le (by simp)
      rw [h0,hx]
      simp only [callMethod,iB,run_program,iA,hS.M hM,vy hS hf hb]
     ·have:v::asT.toList.map (zg E.ng fr.l)= [v]++asT.toList.map (zg E.ng fr.l):=rfl
      rw [this]
      refine KRs.append ⟨rfl, ?_⟩ hargs
      intro i u x hu hx
      match i with
      |0=>simp at hu hx; subst hu hx; exact hv'
      |i+1=>simp at hu
   ·cases e
  ·cases e
 ·cases e
theorem YH {b n:Nat} {f:FuncId} {args:Array Value} {R:Ending→World→Prop} (h:CallsIn Fence.wide n P f args w R):CallsIn (Fence.wide.inRound b) n P f args w R:=h
theorem KCall.inF {f:FuncId} {args:List KV} {r:KV} (k:KCall P f args h r h') {F:Fence} (hr:RdR G rd F) {cargs:Array Value} (n:Nat) (hg:Glob P G) (kr:KRel B G h w) (ha:KRs G args cargs):
  CallsIn F n P f cargs w fun en w1=>∃c G',en= .returned c∧G.le G'∧KR G' r c∧KRel B G' h' w1:=by
 cases hr with
 |out=>exact k B G w cargs n hg kr ha
 |inl hx=>exact YH (k B G w cargs n hg kr ha)
def XJ (E:KE) (h:KH) (l:Sl):ResultVar→Option KV
 | .tmp t=>some (zN l t)
 | .cell x t=>if(E.T t).ok=true∧(E.T t).d≠ .other then qf h (zN l x) (E.T t).sz (E.T t).d.agg else none
def gz (E:KE) (h:KH) (l:Sl):List ResultVar→Option (List KV)
 | []=>some []
 |x::r=>match XJ E h l x,gz E h l r with|some v,some vs=>some (v::vs)|_,_=>none
def Bw (E:KE) (h:KH) (l:Sl) (rs:Array ResultVar):Option KV:=match gz E h l rs.toList with
 |some [v]=>some v
 |some vs=>some (.tuple vs)
 |none=>none
def UX (tmps:Array Value):ResultVar→Sem Value
 | .tmp t=>pure (tmps.getD t undef)
 | .cell x t=>do loadVar t (←asAddr (tmps.getD x undef))
theorem Yz (fn:Func) (tmps:Array Value):results fn tmps=(do let vs ←fn.results.mapM (UX tmps); pure (if h:vs.size=1 then vs[0]else .tuple vs)):=rfl
theorem BG (r:KRel B G h w) {t:TypeId} (hok:(ti P t).ok=true) (hd:(ti P t).d≠ .other) {p v:KV} {c:Value} (hp:KR G p c) (hl:qf h p (ti P t).sz (ti P t).d.agg=some v):
  ∃ad x,c= .pointer (some ad)∧(loadVar t ad).run P w= .ok x w∧KR G v x:=by
 obtain⟨i,d,hi,hdd,hsz,_⟩:=qc hok
 unfold qf at hl
 split at hl
 ·rename_i id off
  split at hl
  ·rename_i ro cs hg
   cases hp with
   | ptr ha=>
    rename_i b o
    obtain⟨x,h1,h2⟩:=Kj (P:=P) w b o t cs off _ v i d hi hdd hsz hd (r.cell hg ha) hl
    exact⟨_,x,rfl,h1,h2⟩
  ·cases hl
 ·cases hl
theorem Xj (hE:E.Ok P) (r:KRel B G h w) (hs:SlR G fr.n fr.l a.tmps):∀ {rs:List ResultVar} {vs:List KV},gz E h fr.l rs=some vs →
  ∃cs:List Value,(rs.mapM (m:=Sem) (UX a.tmps)).run P w= .ok cs w∧KRs G vs cs.toArray
 | [],vs,e=>by simp only [gz,Option.some.injEq]at e; subst e; exact⟨[],rfl,rfl,by simp⟩
 | x ::rs,vs,e=>by
  simp only [gz]at e
  split at e
  ·rename_i v vs' h1 h2
   injection e with e; subst e
   obtain⟨cs,c1,c2⟩:=Xj hE r hs h2
   have hx:∃cv,(UX a.tmps x).run P w= .ok cv w∧KR G v cv:=by
    cases x with
    |tmp t=>simp only [XJ,Option.some.injEq]at h1; subst h1; exact⟨_,rfl,hs.slot t⟩
    | cell x t=>
     simp only [XJ]at h1
     split at h1
     ·rename_i hc
      rw [hE.T]at hc h1
      have hp:=hs.slot x
      simp only [UX]
      generalize a.tmps.getD x undef=p at hp ⊢
      obtain⟨ad,cv,rfl,k1,k2⟩:=BG (P:=P) r hc.1 hc.2 hp h1
      exact⟨cv,by simp only [asAddr,iB,iC,iA,k1],k2⟩
     ·cases h1
   obtain⟨cv,k1,k2⟩:=hx
   refine⟨cv::cs, ?_, ?_⟩
   ·simp only [List.mapM_cons,iB]
    rw [k1]
    simp only [iA,iB,c1,iC]
   ·refine⟨by have:=c2.1; simp at this ⊢; exact this, ?_⟩
    intro i u y hu hy
    match i with
    |0=>simp at hu hy; subst hu hy; exact k2
    |i+1=>exact c2.2 i u y (by simpa using hu) (by simpa using hy)
  ·cases e
theorem UL (hE:E.Ok P) (r:KRel B G h w) (hs:SlR G fr.n fr.l a.tmps) {fn:Func} {v:KV} (e:Bw E h fr.l fn.results=some v):∃c,(results fn a.tmps).run P w= .ok c w∧KR G v c:=by
 unfold Bw at e
 have key:∀vs,gz E h fr.l fn.results.toList=some vs→∃cs:List Value,(fn.results.mapM (m:=Sem) (UX a.tmps)).run P w= .ok cs.toArray w∧KRs G vs cs.toArray:=fun vs hvs=>by
  obtain⟨cs,c1,c2⟩:=Xj (P:=P) hE r hs hvs
  refine⟨cs, ?_,c2⟩
  rw [Array.mapM_eq_mapM_toList]
  simp only [Sem.run_map,c1,iA]
 split at e
 ·rename_i v' hvs
  injection e with e; subst e
  obtain⟨cs,c1,c2⟩:=key _ hvs
  have hl:=c2.1
  match cs,hl with
  | [c],_=>
   refine⟨c, ?_,c2.2 0 _ _ rfl rfl⟩
   rw [Yz]
   simp only [iB,c1]
   rfl
 ·rename_i vs hne hvs
  injection e with e; subst e
  obtain⟨cs,c1,c2⟩:=key _ hvs
  refine⟨.tuple cs.toArray, ?_, .tuple c2.1 c2.2⟩
  rw [Yz]
  simp only [iB,c1,iA]
  have hsz:¬cs.toArray.size=1:=by
   intro h1
   rw [←c2.1]at h1
   match vs,h1 with
   | [v],_=>exact hne v rfl
  rw [dif_neg hsz]; rfl
 ·cases e
end
theorem uU {E:KE} {l l':Sl} {h:KH} (op:Op) (hx:∀x∈op.operands,zg E.ng l x=zg E.ng l' x):zu E l h op=zu E l' h op:=by
 cases op<;>simp only [zu]
 case call c=>
  obtain⟨callee,args,tys⟩:=c
  cases callee with
  | builtin b=>
   have:args.toList.map (zg E.ng l)=args.toList.map (zg E.ng l'):=List.map_congr_left fun x h=>hx x (by simp [Op.operands,Call.operands]; simpa using h)
   simp only [this]
  |_=>rfl
 case build t parts=>
  have:xZ (zg E.ng l) parts=xZ (zg E.ng l') parts:=List.map_congr_left fun x h=>by
   have:=hx x.2 (by simp [Op.operands]; exact⟨x.1,by simpa using h⟩)
   simp only [this]
  simp only [this]
 case buildSlice t n parts=>
  have:xZ (zg E.ng l) parts=xZ (zg E.ng l') parts:=List.map_congr_left fun x h=>by
   have:=hx x.2 (by simp [Op.operands]; exact⟨x.1,by simpa using h⟩)
   simp only [this]
  simp only [this]
 case makeFunc fn first captured=>
  have h1:first.toList.map (zg E.ng l)=first.toList.map (zg E.ng l'):=List.map_congr_left fun x h=>hx x (by simp [Op.operands]; left; simpa using h)
  have h2:captured.toList.map (zg E.ng l)=captured.toList.map (zg E.ng l'):=List.map_congr_left fun x h=>hx x (by simp [Op.operands]; right; simpa using h)
  simp only [h1,h2]
 case slice t x lo hi mx=>
  have h0:=hx x (by simp [Op.operands])
  have h1:lo.map (zg E.ng l)=lo.map (zg E.ng l'):=by cases lo with|none=>rfl|some y=>simp; exact hx y (by simp [Op.operands])
  have h2:hi.map (zg E.ng l)=hi.map (zg E.ng l'):=by cases hi with|none=>rfl|some y=>simp; exact hx y (by simp [Op.operands])
  have h3:mx.map (zg E.ng l)=mx.map (zg E.ng l'):=by cases mx with|none=>rfl|some y=>simp; exact hx y (by simp [Op.operands])
  simp only [h0,h1,h2,h3]
 case makeMap t r=>cases r with|none=>rfl|some x=>simp only [hx x (by simp [Op.operands])]
 all_goals (try (simp only [Op.operands,Array.mem_def,List.mem_cons,forall_eq_or_imp,List.not_mem_nil,false_imp_iff,implies_true,and_true,forall_const]at hx))<;>(try (simp only [hx]))
theorem YV {S:KF_} {c:Call} {ng:Nat} {l l':Sl} (hx:∀x∈(Op.call c).operands,zg ng l x=zg ng l' x):
  vA S c.callee (zg ng l) (c.args.toList.map (zg ng l))=vA S c.callee (zg ng l') (c.args.toList.map (zg ng l')):=by
 obtain⟨callee,args,tys⟩:=c
 have ha:args.toList.map (zg ng l)=args.toList.map (zg ng l'):=List.map_congr_left fun x h=>hx x (by
  simp only [Op.operands,Call.operands]
  cases callee<;>simp<;>first|(right; simpa using h)|simpa using h)
 cases callee with
 |value f=>simp only [vA,ha,hx f (by simp [Op.operands,Call.operands])]
 |invoke r name=>simp only [vA,ha,hx r (by simp [Op.operands,Call.operands])]
 |builtin b=>rfl
def KDo (P:Program) (ng:Nat) (rd:Option Nat) (o:Oper) (l:Sl) (h:KH) (v:KV) (h':KH):Prop:=
 ∀ (B:zJ) (G:Gh) (w:World) (a:Act) (F:Fence) (n:Nat) (K:Act→World→Prop) (Q:Exit→Act→World→Prop),Glob P G→RdR G rd F→KRel B G h w→(∀x∈o.op.operands,KR G (zg ng l x) (a.eval x)) →
  (∀cv G' w',G.le G'→KR G' v cv→KRel B G' h' w'→K (a.put o.dst cv) w')→o.wpIn F n P a w K Q
theorem KDo.congr {P:Program} {ng:Nat} {rd:Option Nat} {o:Oper} {l l':Sl} {h h':KH} {v:KV} (hx:∀x∈o.op.operands,zg ng l x=zg ng l' x) (k:KDo P ng rd o l h v h'):KDo P ng rd o l' h v h':=
 fun B G w a F n K Q hg hr kr hv hk=>k B G w a F n K Q hg hr kr (fun x hm=>by rw [hx x hm]; exact hv x hm) hk
section
variable {P:Program} {E:KE} {S:KF_} {rd:Option Nat} {o:Oper} {l:Sl} {h h':KH} {v:KV}
theorem ol {B:zJ} {G:Gh} {a:Act} {ng:Nat} (hn:ng≤P.globals.size) (hg:Glob P G) (hv:∀x∈o.op.operands,KR G (zg ng l x) (a.eval x)):
  ∃l',(∀x∈o.op.operands,zg ng l x=zg ng l' x)∧∀x,KR G (zg ng l' x) (a.eval x):=by
 refine⟨l.filter fun x=>(wr o).contains x, ?_, ?_⟩
 ·intro x hx
  cases x with
  | tmp t=>
   have:t∈wr o:=List.mem_filterMap.2 ⟨.tmp t,by simpa using hx,rfl⟩
   simp only [zg,yW (p:=fun x=>(wr o).contains x)]
   rw [if_pos (by simpa using this)]
  |_=>rfl
 ·have hf:FrR G ⟨a.tmps.size,l.filter fun x=>(wr o).contains x,[]⟩ {a with defers:= []}:=by
   refine⟨⟨rfl,fun t=> ?_⟩, .nil⟩
   simp only [yW (p:=fun x=>(wr o).contains x)]
   split
   ·rename_i ht
    have hm:Operand.tmp t∈o.op.operands:=by
     have:t∈wr o:=by simpa using ht
     obtain⟨x,hx,he⟩:=List.mem_filterMap.1 this
     cases x<;>simp at he
     subst he
     simpa using hx
    exact hv _ hm
   ·exact .junk _
  intro x
  have:=hf.eval hg hn x
  cases x<;>exact this
theorem KDo.exec (hE:E.Ok P) (he:zu E l h o.op=some (v,h')):KDo P E.ng rd o l h v h':=fun B G w a F n K Q hg hr kr hv hk=>by
 obtain⟨l',h1,h2⟩:=ol (B:=B) hE.ng hg hv
 rw [uU o.op h1]at he
 refine⟨fun g _=>hr.fn g, ?_⟩
 have hnd:∀d,o.op≠ .defer d:=fun d hd=>by rw [hd]at he; simp [zu]at he
 obtain⟨cv,w',G',h3,h4,h5,h6⟩:=QB (fr:=⟨a.tmps.size,l',[]⟩) hE kr h2 o he
 rw [Oper.semAt_eq _ _ _ hnd]
 rcases h3 with h3|⟨h3,rfl⟩
 ·rw [h3]; exact hk _ _ _ h4 h5 h6
 ·rw [h3]; exact hk _ _ _ h4 h5 h6
theorem KDo.call (hE:E.Ok P) (hS:S.Ok P) {cl:Call} {f:FuncId} {fn:Func} {c:Code} {args:List KV} (hop:o.op= .call cl)
  (e:vA S cl.callee (zg E.ng l) (cl.args.toList.map (zg E.ng l))=some (f,args)) (hf:S.F f=some fn) (hb:fn.body=some c) (k0:KCall P f args h v h'):KDo P E.ng rd o l h v h':=fun B G w a F n K Q hg hr kr hv hk=>by
 obtain⟨l',h1,h2⟩:=ol (B:=B) hE.ng hg hv
 rw [YV (by rw [←hop]; exact h1)]at e
 refine⟨fun g _=>hr.fn g, ?_⟩
 have hnd:∀d,o.op≠ .defer d:=fun d hd=>by rw [hop]at hd; cases hd
 obtain⟨cargs,h3,h4⟩:=Uc (fr:=⟨a.tmps.size,l',[]⟩) (w:=w) hS h2 hop e hf hb
 rw [Oper.semAt_eq _ _ _ hnd,h3]
 refine⟨fun hd=>(by rw [hr.depth]at hd; cases hd),(k0.inF hr (n-1) hg kr h4).mono ?_⟩
 rintro en w1 ⟨cv,G',rfl,g1,g2,g3⟩
 exact hk _ _ _ g1 g2 g3
theorem tt {ng:Nat} (hn:ng≤P.globals.size) {ops:Array Oper} {i:Nat} {is:List Nat} {fr fr':KFr} {h1:KH} (hi:ops[i]? =some o) (hw:yr ops fr.l o=some true) (kd:KDo P ng rd o fr.l h v h1)
  (k1:KO_ P rd ops is (fr.put o.dst v) h1 fr' h'):KO_ P rd ops (i::is) fr h fr' h':=fun B G w a F n Q hg hr k f hq=>by
 simp only [wpOpsIn,hi,uM f hw,if_true]
 refine kd B G w a F n _ _ hg hr k (fun x _=>f.eval hg hn x) ?_
 intro cv G' w' g1 g2 g3
 exact k1 B G' w' _ F n Q (hg.le g1) (hr.le g1) g3 ((f.le g1).put o.dst g2) fun a1 w2 q=>hq a1 w2 (q.le g1)
end
inductive KTm where
 |ptr
 |sl (len cap sz:Nat)
def KTm.at (t:KTm) (id:Nat):KV:=match t with
 | .ptr=> .ptr id 0
 | .sl l c s=> .sl id 0 l (some c) s
def kal (E:KE) (l:Sl):Op→Option (KTm×List KV)
 | .alloc e=>if(E.T e).zok=true∧KV.isCells (E.Z e).cells=true then some (.ptr,(E.Z e).cells)else none
 | .box _ x=>if KV.isCells (zg E.ng l x).cells=true then some (.ptr,(zg E.ng l x).cells)else none
 | .buildSlice t len ps=>match(E.T t).d with
  | .slice e sz _=>if len*sz≤16777216∧(E.T e).zok=true∧(E.Z e).cells.length=sz then(match jB (fun i=>some (i*sz,sz)) (wb len (E.Z e).cells) (xZ (zg E.ng l) ps)with|some cs=>some (.sl len len sz,cs)|none=>none)else none
  |_=>none
 | .makeSlice t n c=>match(E.T t).d,zg E.ng l n,zg E.ng l c with
  | .slice e sz bytes, .int _ l, .int _ c=>if 0≤l∧l≤c∧bytes*c≤140737488355328∧c≤140737488355328∧(E.T e).zok=true∧(E.Z e).cells.length=sz then some (.sl l.toNat c.toNat sz,wb c.toNat (E.Z e).cells)else none
  |_,_,_=>none
 |_=>none
theorem uc {E:KE} {l l':Sl} (op:Op) (hx:∀x∈op.operands,zg E.ng l x=zg E.ng l' x):kal E l op=kal E l' op:=by
 cases op<;>simp only [kal]
 case box t x=>simp only [hx x (by simp [Op.operands])]
 case buildSlice t n parts=>
  have:xZ (zg E.ng l) parts=xZ (zg E.ng l') parts:=List.map_congr_left fun x h=>by
   have:=hx x.2 (by simp [Op.operands]; exact⟨x.1,by simpa using h⟩)
   simp only [this]
  simp only [this]
 case makeSlice t n c=>simp only [hx n (by simp [Op.operands]),hx c (by simp [Op.operands])]
section
variable {P:Program} {E:KE} {G:Gh} {w:World} {l:Sl} {a:Act}
theorem fY (hE:E.Ok P) (hev:∀x,KR G (zg E.ng l x) (a.eval x)) (o:Oper) {tm:KTm} {cs:List KV} (e:kal E l o.op=some (tm,cs)):
  ∃ c C el room,(execOp a.eval o).run P w= .ok (.value c) (w.alloc (.cells C el))∧cs.length≤room∧room≤C.size∧(∀(i:Nat) (v:KV) (x:Value),cs[i]? =some v→C[i]? =some x→KR G v x) ∧
   ∀(G':Gh) (id:Nat),G'.at_ id=some (w.heap.size,0)→G'.room id=room→KR G' (tm.at id) c:=by
 have hT:=hE.T
 have hZ:=hE.Z
 unfold kal at e
 split at e
 ·rename_i el hop
  rw [hT,hZ]at e
  split at e
  ·rename_i hc
   simp only [Option.some.injEq,Prod.mk.injEq]at e
   obtain⟨rfl,rfl⟩:=e
   obtain⟨i,z,hi,hzz,hzv⟩:=qU hc.1
   have hz0:KRs G (kz P el).cells z.cells:=by rw [hzv]; exact KRs.of_zero
   refine⟨.pointer (some ⟨w.heap.size,0,none⟩),z.cells,el,(kz P el).cells.length, ?_,Nat.le_refl _,by rw [hz0.1]; exact Nat.le_refl _,hz0.2,fun G' id h1 h2=> .ptr (off:=0) h1⟩
   simp only [execOp,hop,Instr.alloc,iB,zp hi hzz,iA,newVar]
   rfl
  ·cases e
 ·rename_i t x hop
  split at e
  ·rename_i hc
   simp only [Option.some.injEq,Prod.mk.injEq]at e
   obtain⟨rfl,rfl⟩:=e
   obtain⟨hrs,_⟩:=kF (hev x) hc
   refine⟨.pointer (some ⟨w.heap.size,0,none⟩),(a.eval x).cells,t,(zg E.ng l x).cells.length, ?_,Nat.le_refl _,by rw [hrs.1]; exact Nat.le_refl _,hrs.2,fun G' id h1 h2=> .ptr (off:=0) h1⟩
   simp only [execOp,hop,Instr.box,newVar]
   rfl
  ·cases e
 ·rename_i t len ps hop
  rw [hT,hZ]at e
  split at e
  ·rename_i el sz by_ hd
   split at e
   ·rename_i hc
    obtain⟨hbig,hz,hzl⟩:=hc
    split at e
    ·rename_i cells hf
     simp only [Option.some.injEq,Prod.mk.injEq]at e
     obtain⟨rfl,rfl⟩:=e
     obtain⟨p1,p2⟩:=bA (E:=E) (fr:=⟨a.tmps.size,l,[]⟩) hev ps
     obtain⟨hu,i,hi,hsz,_⟩:=zn hd
     obtain⟨i',z,hi',hzz,hzv⟩:=qU hz
     rw [hi]at hi'; injection hi' with hi'; subst hi'
     have hz0:KRs G (kz P el).cells z.cells:=by rw [hzv]; exact KRs.of_zero
     have hrow:=jR hz0 len
     rw [hzl]at hrow
     obtain⟨R,hR,hRv,hRl⟩:=jf (G:=G) _ (xZ (zg E.ng l) ps) (ps.map fun(i,x)=>(i,a.eval x)).toList _ _ _ hrow (by simpa using p1) (fun j i v i' x h1 h2=>p2 j i v i' x h1 (by simpa using h2)) hf
     rw [vm,hzl]at hRl
     refine⟨.slice (some ⟨w.heap.size,0,none⟩) len len,R,el,cells.length, ?_,Nat.le_refl _,by rw [hRv.1]; exact Nat.le_refl _,hRv.2,fun G' id h1 h2=> .sl (off:=0) (o:=0) h1 (Nat.le_refl _) (by rw [h2]; omega) (fun x hx=>by cases hx; rfl)⟩
     simp only [execOp,hop,Instr.buildSlice,iB,run_underlying hu,iA,zk hi,←hsz]
     rw [if_neg (by simp; omega)]
     by_cases hl0:len*sz=0
     ·simp only [hl0,if_true,iB,iC,iA]at hR ⊢
      have he:((Array.range 0).map ((#[]:Array Value)[· % (#[]:Array Value).size]!))=(Array.range 0).map (z.cells[· % z.cells.size]!):=by simp
      rw [he,hR]
      rfl
     ·rw [if_neg hl0]
      simp only [iB,zp hi hzz,iA,iC,hR]
      rfl
    ·cases e
   ·cases e
  ·cases e
 ·rename_i t n c hop
  rw [hT,hZ]at e
  split at e
  ·rename_i el sz bytes k1 li k2 ci hd hn hcc
   split at e
   ·rename_i hh
    obtain⟨h0,h1,h2,h3,hz,hzl⟩:=hh
    simp only [Option.some.injEq,Prod.mk.injEq]at e
    obtain⟨rfl,rfl⟩:=e
    have x1:=hev n
    have x2:=hev c
    rw [hn]at x1; rw [hcc]at x2
    generalize hg1:a.eval n=c1 at x1
    generalize hg2:a.eval c=c2 at x2
    cases x1; cases x2
    obtain⟨hu,i,hi,hsz,hby⟩:=zn hd
    obtain⟨i',z,hi',hzz,hzv⟩:=qU hz
    rw [hi]at hi'; injection hi' with hi'; subst hi'
    have hz0:KRs G (kz P el).cells z.cells:=by rw [hzv]; exact KRs.of_zero
    have w1:IntKind.i64.wrap li=li:=IntWalk.i64_in _ (by omega)
    have w2:IntKind.i64.wrap ci=ci:=IntWalk.i64_in _ (by omega)
    have hrow:=jR hz0 ci.toNat
    rw [hzl]at hrow
    refine ⟨.slice (some ⟨w.heap.size,0,none⟩) li.toNat ci.toNat,(Array.range (ci.toNat*sz)).map (z.cells[· % z.cells.size]!),el,(wb ci.toNat (kz P el).cells).length, ?_,Nat.le_refl _,by rw [hrow.1]; exact Nat.le_refl _,hrow.2,
     fun G' id e1 e2=> .sl (off:=0) (o:=0) e1 (by omega) (by rw [e2,vm,hzl]; omega) (fun x hx=>by cases hx; rfl)⟩
    have hb1:¬((i.bytes:Int)*ci>2^48):=by
     have h48:(2:Int)^48=281474976710656:=by decide
     rw [←hby,h48]; omega
    have hb2:¬(ci<0):=by omega
    have hb3:¬(li<0):=by omega
    have hb4:¬(li>ci):=by omega
    simp only [execOp,hop,hg1,hg2,Instr.makeSlice,iB,run_underlying hu,iA,asInt,asIntOf,iC,typeInfo,run_program,hi,w1,w2]
    simp only [hb1,hb2,hb3,hb4,decide_false,Bool.or_false,Bool.false_eq_true,if_false,run_askRoom,iA,iB,iC,Bool.or_self,zk hi,←hsz]
    by_cases hc0:ci.toNat*sz=0
    ·simp only [hc0,if_true,iB,iC,iA]
     have he:((Array.range 0).map ((#[]:Array Value)[· % (#[]:Array Value).size]!))=(Array.range 0).map (z.cells[· % z.cells.size]!):=by simp
     rw [he]
     rfl
    ·simp only [hc0,if_false,iB,zp hi hzz,iC,iA]
     rfl
   ·cases e
  ·cases e
 ·cases e
theorem oC (hE:E.Ok P) {rd:Option Nat} {F:Fence} {n:Nat} {B:zJ} {h:KH} {K:Act→World→Prop} {Q:Exit→Act→World→Prop} {o:Oper} {tm:KTm} {cs:List KV} (hg:Glob P G) (hr:RdR G rd F) (hv:∀x∈o.op.operands,KR G (zg E.ng l x) (a.eval x)) (e:kal E l o.op=some (tm,cs))
  (hk:∀c C el room,cs.length≤room→room≤C.size→(∀(i:Nat) (v:KV) (x:Value),cs[i]? =some v→C[i]? =some x→KR G v x)→(∀(G':Gh) (id:Nat),G'.at_ id=some (w.heap.size,0)→G'.room id=room→KR G' (tm.at id) c)→K (a.put o.dst c) (w.alloc (.cells C el))):o.wpIn F n P a w K Q:=by
 obtain⟨l',h1,h2⟩:=ol (o:=o) (B:=B) (l:=l) hE.ng hg hv
 rw [uc o.op h1]at e
 obtain⟨c,C,el,room,h3,h4,h5,h6,h7⟩:=fY (w:=w) hE h2 o e
 refine⟨fun g _=>hr.fn g, ?_⟩
 have hnd:∀d,o.op≠ .defer d:=fun d hd=>by rw [hd]at e; simp [kal]at e
 rw [Oper.semAt_eq _ _ _ hnd,h3]
 exact hk c C el room h4 h5 h6 h7
theorem KDo.reserve {rd:Option Nat} {ng:Nat} {o:Oper} {h h':KH} {v:KV} (k:KDo P ng rd o l h v h') {B:zJ} {F:Fence} {n:Nat} {K:Act→World→Prop} {Q:Exit→Act→World→Prop} (R:Nat→Prop) [DecidablePred R] (hR:∀b,R b→b<w.heap.size∧YJ h G b)
  (hg:Glob P G) (hr:RdR G rd F) (kr:KRel B G h w) (hv:∀x∈o.op.operands,KR G (zg ng l x) (a.eval x))
  (hk:∀cv G' w',G.le G'→KR G' v cv→KRel B G' h' w'→(∀b,R b→w'.heap[b]? =w.heap[b]? ∧YJ h' G' b)→K (a.put o.dst cv) w'):o.wpIn F n P a w K Q:=
 k (zJ.reserve B w R) G w a F n K Q hg hr (kr.reserve R fun b hb=>(hR b hb).2) hv fun cv G' w' g1 g2 g3=>by
  obtain⟨q1,q2⟩:=kr.unreserve R (fun b hb=>(hR b hb).1) g3
  exact hk cv G' w' g1 g2 q1 q2
end
end Go.K
end
