/- Closed runs: a part. No condition beyond each statement's own. -/
import Derived.Test.YtkabooclnoiclaaGreatDoorK07
set_option linter.all false
section
namespace Go.K
open Go.Abs
def xM (P:Program) (ng:Nat) (rd:Option Nat) (ops:Array Oper) (j:Nat) (fr:KFr) (h:KH) (v:KV):Prop:=
 match ops[j]? with
 |none=>False
 | some o=>match yr ops fr.l o with
  |some true=>KDo P ng rd o fr.l h v h
  |some false=>v= .tuple []
  |none=>False
def xn (P:Program) (ng:Nat) (rd:Option Nat) (ops:Array Oper) (j:Nat) (fr:KFr) (h:KH):Prop:=
 match zd ops j with
 |some d=>xM P ng rd ops j fr h (zN fr.l d)
 |none=>∃v,xM P ng rd ops j fr h v
def v6 (P:Program) (ng:Nat) (rd:Option Nat) (ops:Array Oper) (E:List Nat) (Bi:List Nat):List Nat→KFr→KH→Prop
 | [],_,_=>True
 |j::r,fr,h=>(if E.contains j||Bi.contains j then True else xn P ng rd ops j fr h)∧v6 P ng rd ops E Bi r fr h
def W7 (P:Program) (ng:Nat) (rd:Option Nat) (ops:Array Oper) (i:Nat) (fr:KFr) (h:KH) (K:KFr→KH→Prop):Prop:=
 match ops[i]? with
 |none=>False
 | some o=>match yr ops fr.l o with
  |some true=>∃v h1,KDo P ng rd o fr.l h v h1∧K (fr.put o.dst v) h1
  |some false=>K (fr.put o.dst (.tuple [])) h
  |none=>False
def kD (P:Program) (ng:Nat) (rd:Option Nat) (ops:Array Oper) (E:List Nat) (B:List (List Nat)):List Nat→List Nat→KFr→KH→(KFr→KH→Prop)→Prop
 | [],_,fr,h,K=>K fr h
 | i::rest,seen,fr,h,K=>
  if E.contains i then W7 P ng rd ops i fr h fun fr' h'=>v6 P ng rd ops E (B.getD i []) seen fr' h'∧kD P ng rd ops E B rest (i::seen) fr' h' K
  else ∃v,xM P ng rd ops i fr h v∧kD P ng rd ops E B rest (i::seen) (fr.put (zd ops i) v) h K
section
variable {P:Program} {ng:Nat} {rd:Option Nat} {ops:Array Oper} {n:Nat} {order E:List Nat} {B:List (List Nat)}
theorem xb {F:KFr} {d t:Nat} {v:KV} (hd:d<F.n):zN (F.put (some d) v).l t=if t=d then v else zN F.l t:=by
 simp only [KFr.put,zL,Bool.cond_decide,hd,if_true,yS]
theorem ui (F:KFr) (d:Option Nat) (v:KV):(F.put d v).n=F.n:=by
 cases d with
 |none=>rfl
 |some d=>simp only [KFr.put,zL,Bool.cond_decide]; split<;>rfl
theorem ZS (F:KFr) (d:Option Nat) (v:KV):(F.put d v).d=F.d:=by
 cases d with
 |none=>rfl
 |some d=>simp only [KFr.put,zL,Bool.cond_decide]; split<;>rfl
theorem wK {F F':KFr} {o:Oper} (h:∀t∈wr o,zN F.l t=zN F'.l t):∀x∈o.op.operands,zg ng F.l x=zg ng F'.l x:=by
 intro x hx
 cases x with
 |tmp t=>exact h t (List.mem_filterMap.2 ⟨.tmp t,by simpa using hx,rfl⟩)
 |_=>rfl
theorem W3 {F F':KFr} {g:Nat} (h:∀d,zd ops g=some d→zN F.l d=zN F'.l d):pa ops F.l g=pa ops F'.l g:=by
 unfold pa
 cases hd:(ops[g]?).bind (·.dst)with
 |none=>rfl
 |some d=>simp only; rw [h d (by simpa [zd] using hd)]
theorem bg {F F':KFr} {j:Nat} {o:Oper} (ho:ops[j]? =some o) (h:∀t∈zo ops j,zN F.l t=zN F'.l t):yr ops F.l o=yr ops F'.l o:=by
 unfold yr
 cases hg:o.guard with
 |none=>rfl
 | some q=>
  obtain⟨g,want⟩:=q
  simp only
  rw [W3 (F:=F) (F':=F') fun d hd=>h d (by unfold zo; rw [ho]; simp [hg,hd])]
theorem xM.congr {F F':KFr} {j:Nat} {st:KH} {v:KV} (h:∀t∈zo ops j,zN F.l t=zN F'.l t) (hs:xM P ng rd ops j F st v):xM P ng rd ops j F' st v:=by
 unfold xM at hs ⊢
 cases ho:ops[j]? with
 |none=>rw [ho]at hs; exact hs
 | some o=>
  rw [ho]at hs
  simp only at hs ⊢
  rw [←bg ho h]
  split at hs
  ·exact hs.congr (wK fun t ht=>h t (by unfold zo; rw [ho]; simp [ht]))
  ·exact hs
  ·exact hs
theorem xn.put (c:Chk ops n order E B) {seen rest:List Nat} {i:Nat} (hs:order=seen.reverse++i::rest) (hi:i∉E) {j:Nat} (hj:j∈seen) {F:KFr} (hn:F.n=n) {st:KH} {v:KV} (h:xn P ng rd ops j F st):
  xn P ng rd ops j (F.put (zd ops i) v) st:=by
 have him:i∈order:=by rw [hs]; simp
 have hjm:j∈order:=by rw [hs]; simp [hj]
 have hne:i≠j:=by
  rintro rfl
  have hnd:=c.nodup
  rw [hs]at hnd
  exact(List.nodup_append.1 hnd).2.2 i (List.mem_reverse.2 hj) i (by simp) rfl
 cases hd:zd ops i with
 |none=>exact h
 | some d=>
  have hdn:d<F.n:=by rw [hn]; exact c.dlt i (c.lt i him) d hd
  have heq:∀t∈zo ops j,zN F.l t=zN (F.put (some d) v).l t:=by
   intro t ht
   rw [xb hdn,if_neg]
   rintro rfl
   exact c.not_read hs hi hj hd ht
  unfold xn at h ⊢
  cases hdj:zd ops j with
  |none=>rw [hdj]at h; obtain⟨u,hu⟩:=h; exact⟨u,hu.congr heq⟩
  | some e=>
   rw [hdj]at h
   simp only at h ⊢
   have hne':e≠d:=by
    rintro rfl
    exact c.uniq i j (c.lt i him) (c.lt j hjm) hne e hd hdj
   rw [xb hdn,if_neg hne']
   exact h.congr heq
def gq (ops:Array Oper) (listed:Array Bool) (seen:List Nat) (F:KFr):KFr:=
 {F with l:=F.l.filter fun x=>seen.all fun j=>listed.getD j false|| !(zd ops j==some x)}
theorem Bz {listed:Array Bool} {seen:List Nat} {F:KFr} {t:Nat} (h:∀j∈seen,¬Dn listed j→zd ops j≠some t):zN (gq ops listed seen F).l t=zN F.l t:=by
 simp only [gq,yW (p:=fun x=>seen.all fun j=>listed.getD j false|| !(zd ops j==some x))]
 rw [if_pos]
 rw [List.all_eq_true]
 intro j hj
 by_cases hd:Dn listed j
 ·simp only [Dn]at hd; simp [hd]
 ·have:=h j hj hd
  simp [this]
end
section
variable {P:Program} {ng:Nat} {rd:Option Nat} {ops:Array Oper} {n:Nat} {order E:List Nat} {B:List (List Nat)}
structure r8 (P:Program) (ng:Nat) (rd:Option Nat) (Fn:Fence) (ops:Array Oper) (n:Nat) (order E:List Nat) (B:List (List Nat)) (w0:zJ) (G0:Gh) (K:KFr→KH→Prop) (listed:Array Bool) (rest seen:List Nat) (F:KFr) (st:KH) (G:Gh) (w:World) (a:Act):Prop where
 size:listed.size=ops.size
 split:order=seen.reverse++rest
 headE:∀e r,rest=e::r→e∈E
 doneSeen:∀i,Dn listed i→i∈seen
 effDone:∀i∈seen,i∈E→Dn listed i
 closed:yJ ops listed
 inv:∀j∈seen,¬Dn listed j→xn P ng rd ops j F st
 ad:kD P ng rd ops E B rest seen F st K
 rel:KRel w0 G st w
 defers:KDs G F.d a.defers
 tmps:a.tmps.size=F.n
 slot:∀t,(∀j∈seen,¬Dn listed j→zd ops j≠some t)→KR G (zN F.l t) (a.tmps.getD t undef)
 n:F.n=n
 ext:G0.le G
 gl:Glob P G
 rd:RdR G rd Fn
theorem r8.mask {Fn:Fence} {w0:zJ} {G0:Gh} {K:KFr→KH→Prop} {listed:Array Bool} {rest seen:List Nat} {F:KFr} {st:KH} {G:Gh} {w:World} {a:Act}
  (h:r8 P ng rd Fn ops n order E B w0 G0 K listed rest seen F st G w a):FrR G (gq ops listed seen F) a:=by
 refine⟨⟨h.tmps,fun t=> ?_⟩,h.defers⟩
 by_cases ht:∀j∈seen,¬Dn listed j→zd ops j≠some t
 ·rw [Bz ht]; exact h.slot t ht
 ·have:zN (gq ops listed seen F).l t= .junk:=by
   simp only [gq,yW (p:=fun x=>seen.all fun j=>listed.getD j false|| !(zd ops j==some x))]
   rw [if_neg]
   intro hall
   apply ht
   intro j hj hd he
   rw [List.all_eq_true]at hall
   have:=hall j hj
   simp only [Bool.or_eq_true,Bool.not_eq_true',beq_eq_false_iff_ne]at this
   rcases this with h1|h1
   ·exact hd h1
   ·exact h1 he
  rw [this]; exact .junk _
end
def Wy (P:Program) (f:FuncId) (args:List KV) (h:KH) (h':KH):Prop:=
 ∀ (B:zJ) (G:Gh) (w:World) (u:FrameMode) (cargs:Array Value) (n:Nat),Glob P G→KRel B G h w→KRs G args cargs →
  CallsDIn Fence.wide n P f cargs u w fun en u' w1=>u'=u∧∃c G',en= .returned c∧G.le G'∧KRel B G' h' w1
section
variable {P:Program} {E:KE} {S:KF_} {B:zJ} {G:Gh} {h h1 h':KH} {w:World} {fr fr':KFr} {a:Act}
theorem Gv (hE:E.Ok P) {f:FuncId} {fn:Func} {c:Code} {args:List KV} {e:Exit} {r:KV} (hf:P.funcs[f]? =some fn) (hb:fn.body=some c) (hn:args.length≤fn.ntmps)
  (k:KC P none c (dk fn args) h e fr' h') (he:e= .normal∨e= .ret) (hd:fr'.d= []) (hr:Bw E h' fr'.l fn.results=some r):Wy P f args h h':=fun B G w u cargs n hg kr ha=>by
 refine(callsDIn_of_wp (R:=fun en w1=>∃c G',en= .returned c∧G.le G'∧KRel B G' h' w1) hf hb trivial ?_).mono fun _ _ _ q=>q
 refine wpIn_mono (k B G w _ Fence.wide n hg .out kr (Z3 ha hn)) ?_
 rintro e1 a1 w1 ⟨rfl,G',g1,g2,g3⟩
 have hds:=g2.ds
 rw [hd]at hds
 have hdd:a1.defers= []:=by cases hq:a1.defers with|nil=>rfl|cons x y=>rw [hq]at hds; cases hds
 obtain⟨cv,c1,c2⟩:=UL (P:=P) hE g3 g2.sl hr
 rcases he with rfl|rfl
 ·exact⟨hdd,cv,c1,cv,G',rfl,g1,g3⟩
 ·exact⟨hdd,cv,c1,cv,G',rfl,g1,g3⟩
inductive ko (P:Program) (S:KF_):List KD→KH→KH→Prop
 |nil {h:KH}:ko P S [] h h
 |fn {f:FuncId} {fn:Func} {c:Code} {cap args:List KV} {ds:List KD} {h h1 h':KH}:S.F f=some fn→fn.body=some c→Wy P f (args++cap) h h1→ko P S ds h1 h'→ko P S (.fn (.func f) cap args::ds) h h'
 |collected {id:Nat} {ds:List KD} {h h':KH}:h.get id=some (.defd (some []))→ko P S ds (h.set id (some (.defd none))) h'→ko P S (.collected id::ds) h h'
theorem Kp {w:World} {b:Nat} {x y:Obj} (hx:w.heap[b]? =some x):Chg w (w.putObj b y) b y:=by
 have hl:=heap_lt hx
 exact {size:=World.putObj_size,at_:=World.putObj_heap_same hl,other:=fun k hk=>World.putObj_heap_other hk,os:=rfl,tape:=rfl,output:=rfl}
theorem Jy (hS:S.Ok P) {fn:Func} {tmps:Array Value} {R:Ending→World→Prop} {n:Nat}:∀ {ds:List KD} {h h':KH},ko P S ds h h'→∀ {G:Gh} {w:World} {cds:List Deferred},Glob P G→KRel B G h w→KDs G ds cds →
  (∀G' w1,G.le G'→KRel B G' h' w1→LeavesIn Fence.wide n P fn tmps R [] .returning w1)→LeavesInM Fence.wide n P fn tmps R cds .returning w:=by
 intro ds h h' kl
 induction kl with
 | nil=>
  intro G w cds hg kr hd hk
  cases hd
  exact hk G w (.refl _) kr
 | @fn f fn' c cap args ds h h1 h' hf hb hc hl ih=>
  intro G w cds hg kr hd hk
  cases hd with
  | cons hd hds=>
   cases hd with
   | fn hcap hargs=>
    rename_i r cc ca
    refine⟨by simp, .inr ⟨fun hd=>(by cases hd), .func f,cc,f,ca++cc,rfl, ?_,fun g _=>trivial, ?_⟩⟩
    ·exact vy hS hf hb _ _
    ·refine(hc B G w .returning (ca++cc) (n-1) hg kr (KRs.append hargs hcap)).mono ?_
     rintro en u' w1 ⟨rfl,cv,G',rfl,g1,g2⟩
     exact ih (hg.le g1) g2 (hds.le g1) fun G'' w2 k1 k2=>hk G'' w2 (g1.trans k1) k2
 | @collected id ds h h' hget hl ih=>
  intro G w cds hg kr hd hk
  cases hd with
  | cons hd hds=>
   cases hd with
   | collected ha=>
    rename_i r b k
    obtain⟨b',k',ob,e1,_,e3,e4⟩:=kr.blk _ _ hget
    rw [ha]at e1; cases e1
    cases e4 with
    | defd hds0=>
     cases hds0
     have kr':=kr.chg hget rfl rfl ha (Kp (y:= .deferred none) e3) .defd0
     exact⟨by simp, .inl ⟨b,_,rfl,run_takeDeferred e3,ih hg kr' hds fun G'' w2 k1 k2=>hk G'' w2 k1 k2⟩⟩
theorem Xm (hE:E.Ok P) (hS:S.Ok P) {f:FuncId} {fn:Func} {c:Code} {args:List KV} {e:Exit} {r:KV} (hf:P.funcs[f]? =some fn) (hb:fn.body=some c) (hn:args.length≤fn.ntmps)
  (k:KC P none c (dk fn args) h e fr' h1) (he:e= .normal∨e= .ret) (hl:ko P S fr'.d h1 h') (hr:Bw E h' fr'.l fn.results=some r):KCall P f args h r h':=fun B G w cargs n hg kr ha=>by
 refine callsIn_of_wp_marks hf hb trivial ?_
 refine wpIn_mono (k B G w _ Fence.wide n hg .out kr (Z3 ha hn)) ?_
 rintro e1 a1 w1 ⟨rfl,G',g1,g2,g3⟩
 have key:LeavesInM Fence.wide n P fn a1.tmps (fun en w1=>∃c G',en= .returned c∧G.le G'∧KR G' r c∧KRel B G' h' w1) a1.defers .returning w1:=by
  refine Jy hS hl (hg.le g1) g3 g2.ds ?_
  intro G2 w2 k1 k2
  obtain⟨cv,c1,c2⟩:=UL (P:=P) hE k2 (g2.sl.le k1) hr
  exact⟨cv,c1,cv,G2,rfl,g1.trans k1,c2,k2⟩
 rcases he with rfl|rfl
 ·exact key
 ·exact key
theorem Db (hE:E.Ok P) {ops:Array Oper} {i:Nat} {is:List Nat} {o:Oper} {cl:Call} {fo:Operand} {f:FuncId} {first cap:List KV} (hi:ops[i]? =some o) (hop:o.op= .defer cl) (hw:yr ops fr.l o=some true)
  (hc:cl.callee= .value fo) (hv:zg E.ng fr.l fo= .func (.func f) first cap)
  (k1:KO_ P none ops is ({fr with d:= .fn (.func f) cap (first++cl.args.toList.map (zg E.ng fr.l))::fr.d}.put o.dst (.tuple [])) h fr' h'):KO_ P none ops (i::is) fr h fr' h':=fun B G w a F n Q hg hr k hfr hq=>by
 have hev:=fun x=>hfr.eval hg hE.ng x
 simp only [wpOpsIn,hi,uM hfr hw,if_true]
 refine⟨fun g _=>hr.fn g, ?_⟩
 cases hr
 obtain⟨callee,args,tys⟩:=cl
 simp only at hc
 subst hc
 have hx:=hev fo
 rw [hv]at hx
 generalize hcv:a.eval fo=cv at hx
 cases hx with
 | func l1 r1 l2 r2=>
  rename_i c1 c2
  have hrun:(o.semAt Fence.wide.round a.eval).run P w= .ok (.defer ⟨.fn (.func f) c2,c1++args.map a.eval⟩) w:=by
   have:o.semAt Fence.wide.round a.eval=execOp a.eval o:=rfl
   rw [this]
   simp only [execOp,hop,resolve,iB,hcv,Deferred.ofValue,iC,iA]
  rw [hrun]
  have hd':KDs G (.fn (.func f) cap (first++args.toList.map (zg E.ng fr.l))::fr.d) (⟨.fn (.func f) c2,c1++args.map a.eval⟩::a.defers):= .cons (.fn ⟨l2,r2⟩ (KRs.append ⟨l1,r1⟩ (jy (E:=E) hev args))) hfr.ds
  have hf':FrR G {fr with d:= .fn (.func f) cap (first++args.toList.map (zg E.ng fr.l))::fr.d} {a with defers:=⟨.fn (.func f) c2,c1++args.map a.eval⟩::a.defers}:=⟨hfr.sl,hd'⟩
  exact k1 B G w _ Fence.wide n Q hg .out k (hf'.put o.dst (.tuple rfl (by simp))) hq
end
def xh.fr (L:xh):KFr:=⟨L.n,L.l,[]⟩
def Ym:List Tmp→List KV→KFr→KFr
 |t::ts,v::vs,fr=>Ym ts vs (fr.put (some t) v)
 |_,_,fr=>fr
def gx:Exit→Option (Option Code)
 | .normal=>some none
 | .ret=>some (some .ret)
 | .exit i=>some (some (.exit i))
 | .goto t=>some (some (.goto t))
 |_=>none
section
variable {P:Program} {E:KE} {S:KF_} {B:zJ} {G:Gh} {h h1 h2 h3 h':KH} {w:World} {fr fr1 fr3 fr':KFr} {a:Act} {rd:Option Nat}
theorem V8:∀ {ts:List Tmp} {vs:List KV} {cs:List Value} {fr:KFr} {tmps:Array Value},vs.length=cs.length→(∀(i:Nat) v c,vs[i]? =some v→cs[i]? =some c→KR G v c)→FrR G fr {tmps,defers:= []} →
  FrR G (Ym ts vs fr) {tmps:=(ts.zip cs).foldl (fun tmps (t,a)=>tmps.setIfInBounds t a) tmps,defers:= []}
 | [],vs,cs,fr,tmps,hl,hv,hf=>by cases vs<;>exact hf
 | t::ts,[],cs,fr,tmps,hl,hv,hf=>by
  have:cs= []:=List.eq_nil_of_length_eq_zero (by simpa using hl.symm)
  subst this; exact hf
 |t::ts,v::vs,[],fr,tmps,hl,hv,hf=>by simp at hl
 | t::ts,v::vs,c::cs,fr,tmps,hl,hv,hf=>by
  simp only [Ym,List.zip_cons_cons,List.foldl_cons]
  exact V8 (by simpa using hl) (fun i u x h1 h2=>hv (i+1) u x (by simpa using h1) (by simpa using h2)) (hf.put (some t) (hv 0 v c rfl rfl))
theorem KRel.loop (r:KRel B G h w) {id:Nat} {L:xh} (hg:h.get id=some (.loop L)):∃b k C,G.at_ id=some (b,k)∧w.heap[b]? =some (.loop C)∧KO.R G (G.room id) k (.loop L) (.loop C):=by
 obtain⟨b,k,ob,e1,_,e3,e4⟩:=r.blk _ _ hg
 cases e4 with
 |loop a b c d e f g=>exact⟨_,_,_,e1,e3, .loop a b c d e f g⟩
theorem KRel.loopSet (r:KRel B G h w) {id b k:Nat} {L:xh} {C:Loop} (hg:h.get id=some (.loop L)) (ha:G.at_ id=some (b,k)) (hb:w.heap[b]? =some (.loop C)) (hr:KO.R G (G.room id) k (.loop L) (.loop C)) (s:LoopState) (p:Option Code) {p':Option Code} (hp:p'=p:=by rfl):
  KRel B G (h.set id (some (.loop {L with state:=s,pending:=p}))) (w.putObj b (.loop {C with state:=s,pending:=p'})):=by
 subst hp
 refine r.chg hg rfl rfl ha (Kp hb) ?_
 cases hr with
 |loop a b c d e f g=>exact .loop rfl rfl c d e f g
theorem RdR.inRound {F:Fence} (hr:RdR G rd F) {id b k:Nat} (ha:G.at_ id=some (b,k)):RdR G (some id) (F.inRound b):=by
 cases hr with
 |out=>exact .inl ha
 |inl _=>exact .inl ha
theorem KDo.yield (hE:E.Ok P) {o:Oper} {l:Sl} {cl:Call} {fo:Operand} {id:Nat} {L L1 L3:xh} {e:Exit} {j:Option Code} (hop:o.op= .call cl) (hc:cl.callee= .value fo) (hv:zg E.ng l fo= .yield id)
  (hL:h.get id=some (.loop L)) (hn:cl.args.size=L.params.size) (kA:KC P (some id) L.assign (Ym L.params.toList (cl.args.toList.map (zg E.ng l)) L.fr) h .normal fr1 h1)
  (hL1:h1.get id=some (.loop L1)) (hs:L1.state= .ready) (kB:KC P (some id) L.body fr1 (h1.set id (some (.loop {L1 with state:= .busy}))) e fr3 h3) (hj:gx e=some j) (hL3:h3.get id=some (.loop L3)):
  KDo P E.ng rd o l h (.bool j.isNone) (h3.set id (some (.loop {L3 with state:=if j.isNone then .ready else .done,pending:=j}))):=fun B G w a F n K Q hg hr kr hev hk=>by
 refine⟨fun g _=>hr.fn g, ?_⟩
 have hnd:∀d,o.op≠ .defer d:=fun d hd=>by rw [hop]at hd; cases hd
 obtain⟨b,k,C,ha,hb,hC⟩:=kr.loop hL
 obtain⟨callee,args,tys⟩:=cl
 simp only at hc hn kA
 subst hc
 have hx:=hev fo (by rw [hop]; simp [Op.operands,Call.operands])
 rw [hv]at hx
 generalize hcv:a.eval fo=cv at hx
 cases hx with
 | yield ha'=>
  rename_i b' k'
  rw [ha]at ha'; cases ha'
  have hC':=hC
  cases hC with
  | loop c1 c2 c3 c4 c5 c6 c7=>
   have hsz:(args.map a.eval).size=C.params.size:=by rw [Array.size_map,hn,c4]
   have hrun:(execOp a.eval o).run P w= .ok (.round b C.fn ((C.params.zip (args.map a.eval)).foldl (fun tmps (t,a)=>tmps.setIfInBounds t a) C.tmps) C.assign C.body) w:=by
    simp only [execOp,hop,resolve,iB,hcv,Deferred.ofValue,iC,iA,invoke,Array.empty_append]
    exact run_yield hb hsz
   rw [Oper.semAt_eq _ _ _ hnd,hrun]
   refine⟨fun hd=>(by rw [hr.depth]at hd; cases hd), ?_⟩
   refine(roundIn_of_wpIn (R:=fun en w1=>∃G',en= .returned (.bool j.isNone)∧G.le G'∧KRel B G' (h3.set id (some (.loop {L3 with state:=if j.isNone then .ready else .done,pending:=j}))) w1) (hr.fn _) ?_).mono ?_
   ·have hfr:FrR G (Ym L.params.toList (args.toList.map (zg E.ng l)) L.fr) {tmps:=(C.params.zip (args.map a.eval)).foldl (fun tmps (t,a)=>tmps.setIfInBounds t a) C.tmps,defers:= []}:=by
     have:(C.params.zip (args.map a.eval)).foldl (fun tmps (t,a)=>tmps.setIfInBounds t a) C.tmps=(L.params.toList.zip (args.toList.map a.eval)).foldl (fun tmps (t,a)=>tmps.setIfInBounds t a) C.tmps:=by
      rw [←Array.foldl_toList,Array.toList_zip,Array.toList_map,c4]
     rw [this]
     refine V8 (by simp) ?_ ⟨c3, .nil⟩
     intro i v c h1 h2
     rw [List.getElem?_map]at h1 h2
     cases hq:args.toList[i]? with
     |none=>rw [hq]at h1; cases h1
     | some x=>
      rw [hq]at h1 h2
      simp only [Option.map_some,Option.some.injEq]at h1 h2
      subst h1 h2
      refine hev x ?_
      rw [hop]; simp [Op.operands,Call.operands]
      right; exact Array.mem_toList_iff.1 (List.mem_of_getElem? hq)
    rw [c5]at kA
    refine wpIn_mono (kA B G w _ (F.inRound b) (n-1) hg (hr.inRound ha) kr hfr) ?_
    rintro e1 a1 w1 ⟨rfl,G1,g1,f1,r1⟩
    obtain⟨b1,k1,C1,ha1,hb1,hC1⟩:=r1.loop hL1
    rw [g1.at_ ha]at ha1; cases ha1
    have hs1:C1.state= .ready:=by cases hC1 with|loop q _ _ _ _ _ _=>rw [←q]; exact hs
    refine⟨_,run_beginRound hb1 hs1, ?_⟩
    have hp1:C1.pending=L1.pending:=by cases hC1 with|loop _ q _ _ _ _ _=>exact q.symm
    have r2:=r1.loopSet hL1 (g1.at_ ha) hb1 hC1 .busy L1.pending hp1
    rw [c6]at kB
    refine wpIn_mono (kB B G1 _ a1 (F.inRound b) (n-1) (hg.le g1) ((hr.le g1).inRound (g1.at_ ha)) r2 f1) ?_
    rintro e2 a2 w2 ⟨rfl,G2,g2,f2,r3⟩
    obtain⟨b2,k2,C3,ha2,hb2,hC3⟩:=r3.loop hL3
    rw [g2.at_ (g1.at_ ha)]at ha2; cases ha2
    have r4:=r3.loopSet hL3 (g2.at_ (g1.at_ ha)) hb2 hC3 (if j.isNone then .ready else .done) j
    have fin:∃v w',(Instr.endRound b j).run P w2= .ok v w'∧∃G',Ending.returned v= .returned (.bool j.isNone)∧G.le G'∧KRel B G' (h3.set id (some (.loop {L3 with state:=if j.isNone then .ready else .done,pending:=j}))) w':=
     ⟨_,_,run_endRound j hb2,G2,rfl,g1.trans g2,r4⟩
    cases e2 with
    |normal=>simp only [gx,Option.some.injEq]at hj; subst hj; exact fin
    |ret=>simp only [gx,Option.some.injEq]at hj; subst hj; exact fin
    |exit i=>simp only [gx,Option.some.injEq]at hj; subst hj; exact fin
    |goto t=>simp only [gx,Option.some.injEq]at hj; subst hj; exact fin
    |panic _=>simp [gx]at hj
    |outgrown=>simp [gx]at hj
   ·rintro en w1 ⟨G',rfl,g1,g2⟩
    exact hk _ G' w1 g1 (.bool _) g2
end
def qA:Option Code→Option Exit
 |none=>some .normal
 |some .ret=>some .ret
 |some (.exit i)=>some (.exit i)
 |_=>none
section
variable {P:Program} {E:KE} {S:KF_} {B:zJ} {G:Gh} {h h1 h2 h3 h':KH} {w:World} {fr fr1 fr3 fr':KFr} {a:Act} {rd:Option Nat}
theorem Gb (hE:E.Ok P) (hS:S.Ok P) {g:Operand} {f:FuncId} {fn:Func} {c:Code} {first cap:List KV} {r:KV} {e:Exit} {lid b k:Nat} {L:xh} {mark:List Deferred} {kmark:List KD}
  (hgv:zg E.ng fr.l g= .func (.func f) first cap) (hf:S.F f=some fn) (hb:fn.body=some c) (kc:KCall P f (first ++ [.yield lid]++cap) h2 r h3) (hL:h3.get lid=some (.loop L)) (hs:L.state≠ .busy) (he:qA L.pending=some e)
  {F:Fence} {n:Nat} {G2:Gh} {w2:World} (hr:RdR G2 rd F) (hg:Glob P G2) (hG:G.le G2) (kr:KRel B G2 h2 w2) (hfr:FrR G2 fr a) (hm:KDs G2 kmark mark) (ha:G2.at_ lid=some (b,k)):
  ∃ (d:Deferred) (w₁':World) (f':FuncId) (args:Array Value) (w₂:World),
   (resolve a.eval (rangeCall g b) 0).run P w2= .ok d w₁'∧(∀f'',Target.leads P w₁' d.target d.args=some f''→F.fn f'')∧(invoke d.target d.args).run P w₁'= .ok (.enter f' args) w₂∧(F.depth.isSome=true→1≤n) ∧
   CallsIn F (n-1) P f' args w₂ (rangePost F n P b (kx B G e {fr with d:=kmark++fr.d} (h3.set lid (some (.loop {L with state:= .exhausted})))) {a with defers:=mark++a.defers}):=by
 have hv:=hfr.eval hg hE.ng g
 rw [hgv]at hv
 generalize hcv:a.eval g=cv at hv
 cases hv with
 | func l1 r1 l2 r2=>
  rename_i c1 c2
  refine⟨⟨.fn (.func f) c2,c1 ++ #[.func (.yield b) #[] #[]]⟩,w2,f,c1 ++ #[.func (.yield b) #[] #[]]++c2,w2, ?_,fun f'' _=>hr.fn f'', ?_,fun hd=>(by rw [hr.depth]at hd; cases hd), ?_⟩
  ·have:(#[Operand.const (.func (.yield b) #[] #[])]).map a.eval= #[.func (.yield b) #[] #[]]:=by rw [List.map_toArray]; rfl
   simp only [resolve,rangeCall,iB,hcv,Deferred.ofValue,iC,this]
  ·exact vy hS hf hb _ _
  ·have hargs:KRs G2 (first ++ [.yield lid]++cap) (c1 ++ #[.func (.yield b) #[] #[]]++c2):=KRs.append (KRs.append ⟨l1,r1⟩ ⟨rfl,fun i u x h1 h2=>by
    match i with
    |0=>simp at h1 h2; subst h1 h2; exact .yield ha
    |i+1=>simp at h1⟩) ⟨l2,r2⟩
   refine(kc.inF hr (n-1) hg kr hargs).mono ?_
   rintro en w3 ⟨cv',G3,rfl,g1,g2,g3⟩
   obtain⟨b',k',C,ha',hb',hC⟩:=g3.loop hL
   rw [g1.at_ ha]at ha'; cases ha'
   have hsC:C.state=L.state:=by cases hC with|loop q _ _ _ _ _ _=>exact q.symm
   have hpC:C.pending=L.pending:=by cases hC with|loop _ q _ _ _ _ _=>exact q.symm
   have r4:=g3.loopSet hL (g1.at_ ha) hb' hC .exhausted L.pending hpC
   have hds:KDs G3 (kmark++fr.d) (mark++a.defers):=by
    have:∀ {x y},KDs G2 x y→KDs G3 (x++fr.d) (y++a.defers):=fun {x y} hxy=>by
     induction hxy with
     |nil=>exact hfr.ds.le g1
     |cons q _ ih=>exact .cons (q.le g1) ih
    exact this hm
   have post:kx B G e {fr with d:=kmark++fr.d} (h3.set lid (some (.loop {L with state:= .exhausted}))) e {a with defers:=mark++a.defers} (w3.putObj b (.loop {C with state:= .exhausted})):=
    ⟨rfl,G3,hG.trans g1,⟨hfr.sl.le g1,hds⟩,r4⟩
   refine⟨C.pending,_,run_endLoop hb' (by rw [hsC]; exact hs), ?_⟩
   rw [hpC]
   rw [hpC]at post
   cases hp:L.pending with
   |none=>rw [hp]at he post; simp only [qA,Option.some.injEq]at he; subst he; exact post
   | some c=>
    rw [hp]at he post
    cases c with
    |ret=>simp only [qA,Option.some.injEq]at he; subst he; exact wpIn_ret post
    |exit i=>simp only [qA,Option.some.injEq]at he; subst he; exact wpIn_exit post
    |_=>simp [qA]at he
def WA (fr:KFr) (ps:Array Tmp) (assign body:Code) (did:Nat):xh:={state:= .ready,pending:=none,n:=fr.n,l:=fr.l,params:=ps,assign,body,defers:=did}
theorem cL (hE:E.Ok P) (hS:S.Ok P) {g:Operand} {ps:Array Tmp} {assign body:Code} {f:FuncId} {fn:Func} {c:Code} {first cap:List KV} {r:KV} {e:Exit} {L:xh} (hroom:h.next+2<65000)
  (hgv:zg E.ng fr.l g= .func (.func f) first cap) (hf:S.F f=some fn) (hb:fn.body=some c)
  (kc:KCall P f (first ++ [.yield (h.next+1)]++cap) ((h.push (.defd (some []))).push (.loop (WA fr ps assign body h.next))) r h3) (hL:h3.get (h.next+1)=some (.loop L)) (hs:L.state≠ .busy) (he:qA L.pending=some e):
  KC P none (.rangeFunc g ps assign body) fr h e {fr with d:= .collected h.next::fr.d} (h3.set (h.next+1) (some (.loop {L with state:= .exhausted}))):=fun B G w a F n hg hr kr hfr=>by
 refine wpIn_rangeFunc fun fn' _=> ?_
 have k1:=kr.alloc (o:= .defd (some [])) (ob:= .deferred (some [])) (room:=0) (by omega) (.defd .nil)
 have l1:=Gh.new_le G kr.fresh (w.heap.size,0) 0
 have a1:=Gh.new_at G h.next (w.heap.size,0) 0
 have k2:=k1.alloc (o:= .loop (WA fr ps assign body h.next)) (ob:= .loop {state:= .ready,pending:=none,fn:=fn',tmps:=a.tmps,params:=ps,assign,body,defers:=w.heap.size}) (room:=0) (by show h.next+1+1<_; omega)
  (.loop rfl rfl ((hfr.sl.le l1).le (Gh.new_le _ k1.fresh _ _)) rfl rfl rfl ((Gh.new_le _ k1.fresh _ _).at_ a1))
 have l2:=Gh.new_le _ k1.fresh ((w.alloc (.deferred (some []))).heap.size,0) 0
 have a2:=Gh.new_at (G.new h.next (w.heap.size,0) 0) (h.push (.defd (some []))).next ((w.alloc (.deferred (some []))).heap.size,0) 0
 have hl:=l1.trans l2
 cases hr
 obtain⟨d,w₁',f',args,w₂,q1,q2,q3,q4,q5⟩:=Gb (F:=Fence.wide) (n:=n) (mark:= [{target:= .collected w.heap.size,args:= #[]}]) (kmark:= [.collected h.next]) hE hS hgv hf hb kc hL hs he .out (hg.le hl) hl k2 (hfr.le hl) (.cons (.collected (l2.at_ a1)) .nil) a2
 refine⟨w.heap.size+1,_,_,d,w₁',f',args,w₂,run_enterLoop_outer fn' a.tmps ps assign body, ?_⟩
 have hz:(w.alloc (.deferred (some []))).heap.size=w.heap.size+1:=by show(w.heap.push _).size=_; simp
 rw [hz]at q1 q5
 exact⟨q1,q2,q3,q4,q5⟩
theorem Vo {b:Frame} {k:List Item} {cs:List Frame} {c:Code}:step P (lone (b.atR a (.code (.scope c)::k)) cs w)= .next (lone (b.atR a (.code c:: .inScope c::k)) cs w):=
 step_lone_go (by simp [stepG,stepG.exec,Frame.atR])
theorem YK {b:Frame} {k:List Item} {cs:List Frame} {c:Code}:step P (lone (b.atR a (.inScope c::k)) cs w)= .next (lone (b.atR a k) cs w):=
 step_lone_go (by simp [stepG,stepG.exec,Frame.atR])
theorem qF {c:Code} {e:Exit} (k1:KC P rd c fr h e fr' h') (he:∀l,e≠ .goto l):KC P rd (.scope c) fr h e fr' h':=fun B G w a F n hg hr kr hfr=>by
 intro b k cs hro hb hroom
 obtain⟨e1,a1,w1,⟨rfl,q⟩,harr⟩:=k1 B G w a F n hg hr kr hfr b (.inScope c::k) cs hro hb hroom
 refine⟨e1,a1,w1,⟨rfl,q⟩, .of_steps (.one (fenced_calm hb hroom rfl) Vo) ?_⟩
 cases e1 with
 |normal=>exact StepsIn.trans harr (.one (fenced_calm hb hroom rfl) YK)
 |exit id=>exact⟨fun k' hk=>harr.1 k' (by simpa [exitTo] using hk),fun h1 hk=>harr.2 h1 (by simpa [exitTo] using hk)⟩
 |goto l=>exact absurd rfl (he l)
 |ret=>exact harr
 |panic ch=>exact harr
 |outgrown=>exact harr
end
def wV (T:TypeId→TI):Op→Bool
 | .convert _ d _=>match(T d).d with| .slice .. => false|_=>true
 | .move _| .assign _| .pick .. | .build .. | .load .. | .nilCheck _| .binOp .. | .unOp .. | .makeInterface .. | .makeFunc .. | .slice .. | .fieldAddr .. | .field .. | .indexAddr .. | .index .. | .lookup .. | .typeAssert .. | .extract .. | .entry _=>true
 | .call ⟨.builtin .len,_,_⟩=>true
 | .call ⟨.builtin .min,_,_⟩=>true
 | .call ⟨.builtin .max,_,_⟩=>true
 |_=>false
theorem ue {E:KE} {l:Sl} {h h':KH} {op:Op} {v:KV} (hp:wV E.T op=true) (e:zu E l h op=some (v,h')):h'=h:=by
 have m2:∀ {x:Option KV},(x.map fun v=>(v,h))=some (v,h')→h'=h:=fun e=>(bM e).2
 have hconv:∀ {s d:TypeId} {x:KV},(match(E.T d).d with| .slice .. => false|_=>true)=true→vV h E.T s d x=some (v,h')→h'=h:=by
  intro s d x hp e
  unfold vV at e
  split at e
  ·split at e
   ·split at e
    ·simp only [Option.some.injEq,Prod.mk.injEq]at e; exact e.2.symm
    ·cases e
   ·split at e
    ·simp only [Option.some.injEq,Prod.mk.injEq]at e; exact e.2.symm
    ·rename_i hd; rw [hd]at hp; cases hp
    ·cases e
   ·split at e
    ·split at e
     ·simp only [Option.some.injEq,Prod.mk.injEq]at e; exact e.2.symm
     ·cases e
    ·cases e
   ·split at e
    ·split at e
     ·simp only [Option.some.injEq,Prod.mk.injEq]at e; exact e.2.symm
     ·cases e
    ·cases e
   ·split at e
    ·split at e
     ·split at e
      ·split at e
       ·simp only [Option.some.injEq,Prod.mk.injEq]at e; exact e.2.symm
       ·cases e
      ·cases e
     ·cases e
    ·cases e
   ·cases e
  ·cases e
 unfold wV at hp
 split at hp
 ·simp only [zu]at e; exact hconv hp e
 all_goals (first|(cases hp; done)|skip)
 all_goals (simp only [zu]at e)
 all_goals (try (exact m2 e))
 all_goals (try (simp only [Option.some.injEq,Prod.mk.injEq]at e; exact e.2.symm))
 all_goals (try (split at e<;>first|(exact m2 e)|(simp only [Option.some.injEq,Prod.mk.injEq]at e; exact e.2.symm)|(cases e; done)|(split at e<;>first|(simp only [Option.some.injEq,Prod.mk.injEq]at e; exact e.2.symm)|(exact m2 e)|(cases e; done))))
 all_goals (unfold ur at e; split at e)
 all_goals (first|(cases e; done)|(exact m2 e)|skip)
 all_goals (first|(split at e<;>exact m2 e)|(rename_i hb _ _; cases hb; done)|(rename_i hb _; cases hb; done)|skip)
mutual
def xy:KV→KV→Bool
  | .bool a, .bool b=>(bif a then b else !b)
  | .int k a, .int k' b=>decide (k=k')&&decide (a=b)
  | .str n a, .str m b=>Nat.beq n m&&Nat.beq a b
  | .ptr i o, .ptr j p=>Nat.beq i j&&Nat.beq o p
  | .nilp, .nilp=>true
  | .sl i o l c s, .sl j p m d t=>Nat.beq i j&&Nat.beq o p&&Nat.beq l m&&decide (c=d)&&Nat.beq s t
  | .slz, .slz=>true
  | .nilsl, .nilsl=>true
  | .func (.func f) a b, .func (.func g) c d=>Nat.beq f g&&jr a c&&jr b d
  | .nilfunc, .nilfunc=>true
  | .yield i, .yield j=>Nat.beq i j
  | .agg a, .agg b=>jr a b
  | .tuple a, .tuple b=>jr a b
  | .map i, .map j=>Nat.beq i j
  | .nilmap, .nilmap=>true
  | .iface t a, .iface u b=>Nat.beq t u&&xy a b
  | .niliface, .niliface=>true
  |_,_=>false
  termination_by structural x=>x
def jr:List KV→List KV→Bool
  | [],[]=>true
  |a::l,b::r=>xy a b&&jr l r
  |_,_=>false
  termination_by structural x=>x
end
mutual
theorem w9 :∀(a b:KV),xy a b=true→a=b
  | .junk,b,h=>by simp [xy]at h
  | .bool a,b,h=>by cases b with|bool c=>(cases a<;>cases c<;>simp_all [xy])|_=>simp [xy]at h
  | .int k a,b,h=>by cases b with|int k' c=>(simp only [xy,iF,decide_eq_true_eq]at h; rw [h.1,h.2])|_=>simp [xy]at h
  | .str n a,b,h=>by cases b with|str m c=>(simp only [xy,iF,Nat.beq_eq]at h; rw [h.1,h.2])|_=>simp [xy]at h
  | .ptr i o,b,h=>by cases b with|ptr j p=>(simp only [xy,iF,Nat.beq_eq]at h; rw [h.1,h.2])|_=>simp [xy]at h
  | .nilp,b,h=>by cases b with|nilp=>rfl|_=>simp [xy]at h
  | .sl i o l c s,b,h=>by cases b with|sl j p m d t=>(simp only [xy,iF,Nat.beq_eq,decide_eq_true_eq]at h; obtain⟨⟨⟨⟨rfl,rfl⟩,rfl⟩,rfl⟩,rfl⟩:=h; rfl)|_=>simp [xy]at h
  | .slz,b,h=>by cases b with|slz=>rfl|_=>simp [xy]at h
  | .nilsl,b,h=>by cases b with|nilsl=>rfl|_=>simp [xy]at h
  | .func fn a b,y,h=>by
    cases y with
    | func gn c d=>
      cases fn with
      | func f=>
        cases gn with
        | func g=>
          simp only [xy,iF,Nat.beq_eq]at h
          rw [h.1.1,xV a c h.1.2,xV b d h.2]
        |_=>simp [xy]at h
      |_=>simp [xy]at h
    |_=>cases fn<;>simp [xy]at h
  | .nilfunc,b,h=>by cases b with|nilfunc=>rfl|_=>simp [xy]at h
  | .yield i,b,h=>by cases b with|yield j=>(simp only [xy,Nat.beq_eq]at h; rw [h])|_=>simp [xy]at h
  | .agg a,b,h=>by cases b with|agg c=>(simp only [xy]at h; rw [xV a c h])|_=>simp [xy]at h
  | .tuple a,b,h=>by cases b with|tuple c=>(simp only [xy]at h; rw [xV a c h])|_=>simp [xy]at h
  | .map i,b,h=>by cases b with|map j=>(simp only [xy,Nat.beq_eq]at h; rw [h])|_=>simp [xy]at h
  | .nilmap,b,h=>by cases b with|nilmap=>rfl|_=>simp [xy]at h
  | .iface t a,b,h=>by cases b with|iface u c=>(simp only [xy,iF,Nat.beq_eq]at h; rw [h.1,w9 a c h.2])|_=>simp [xy]at h
  | .niliface,b,h=>by cases b with|niliface=>rfl|_=>simp [xy]at h
theorem xV:∀(a b:List KV),jr a b=true→a=b
  | [],[],_=>rfl
  | a::l,b::r,h=>by
    simp only [jr,iF]at h
    rw [w9 a b h.1,xV l r h.2]
  | [],_::_,h=>by simp [jr]at h
  |_::_,[],h=>by simp [jr]at h
end
noncomputable def KV.free (v:KV):Bool:=KV.rec (motive_1:=fun _=>Bool) (motive_2:=fun _=>Bool) true (fun _=>true) (fun _ _=>true) (fun _ _=>true) (fun _ _=>false) true (fun _ _ _ _ _=>false) true true (fun _ _ _ a b=>a&&b) true (fun _=>false) (fun _ a=>a) (fun _ a=>a) (fun _=>false) true (fun _ _ a=>a) true true (fun _ _ a b=>a&&b) v
noncomputable def KV.frees (l:List KV):Bool:=List.rec (motive:=fun _=>Bool) true (fun v _ ih=>v.free&&ih) l
theorem KV.frees_rec:∀l:List KV,(KV.rec_1 (motive_1:=fun _=>Bool) (motive_2:=fun _=>Bool) true (fun _=>true) (fun _ _=>true) (fun _ _=>true) (fun _ _=>false) true (fun _ _ _ _ _=>false) true true (fun _ _ _ a b=>a&&b) true (fun _=>false) (fun _ a=>a) (fun _ a=>a) (fun _=>false) true (fun _ _ a=>a) true true (fun _ _ a b=>a&&b) l:Bool)=KV.frees l
 | []=>rfl
 | v::l=>by
  have:KV.frees (v::l)=(v.free&&KV.frees l):=rfl
  rw [this,←KV.frees_rec l]; rfl
theorem KV.frees_mem:∀ {l:List KV} (h:KV.frees l=true) {i:Nat} {v:KV},l[i]? =some v→v.free=true
 | [],h,i,v,e=>by simp at e
 | x::l,h,i,v,e=>by
  have h:(x.free&&KV.frees l)=true:=h
  rw [iF]at h
  cases i with
  |zero=>simp at e; subst e; exact h.1
  |succ i=>exact KV.frees_mem h.2 (by simpa using e)
theorem KR.free {G:Gh} (G':Gh) {v:KV} {c:Value} (k:KR G v c):v.free=true→KR G' v c:=by
 induction k with
 |junk c=>exact fun _=> .junk c
 |bool b=>exact fun _=> .bool b
 |int k n=>exact fun _=> .int k n
 |str s=>exact fun _=> .str s
 |ptr a=>exact fun h=>by cases h
 |nilp=>exact fun _=> .nilp
 |sl a l r c=>exact fun h=>by cases h
 |slz a c=>exact fun _=> .slz a c
 |nilsl=>exact fun _=> .nilsl
 | @func fn f1 f2 c1 c2 l1 _ l2 _ i1 i2=>
  intro h
  have h:((KV.rec_1 (motive_1:=fun _=>Bool) (motive_2:=fun _=>Bool) true (fun _=>true) (fun _ _=>true) (fun _ _=>true) (fun _ _=>false) true (fun _ _ _ _ _=>false) true true (fun _ _ _ a b=>a&&b) true (fun _=>false) (fun _ a=>a) (fun _ a=>a) (fun _=>false) true (fun _ _ a=>a) true true (fun _ _ a b=>a&&b) f1:Bool)&&(KV.rec_1 (motive_1:=fun _=>Bool) (motive_2:=fun _=>Bool) true (fun _=>true) (fun _ _=>true) (fun _ _=>true) (fun _ _=>false) true (fun _ _ _ _ _=>false) true true (fun _ _ _ a b=>a&&b) true (fun _=>false) (fun _ a=>a) (fun _ a=>a) (fun _=>false) true (fun _ _ a=>a) true true (fun _ _ a b=>a&&b) f2:Bool))=true:=h
  rw [KV.frees_rec,KV.frees_rec,iF]at h
  exact .func l1 (fun i v c e1 e2=>i1 i v c e1 e2 (KV.frees_mem h.1 e1)) l2 (fun i v c e1 e2=>i2 i v c e1 e2 (KV.frees_mem h.2 e1))
 |nilfunc=>exact fun _=> .nilfunc
 |yield a=>exact fun h=>by cases h
 | @agg cs c l _ i=>
  intro h
  have h:(KV.rec_1 (motive_1:=fun _=>Bool) (motive_2:=fun _=>Bool) true (fun _=>true) (fun _ _=>true) (fun _ _=>true) (fun _ _=>false) true (fun _ _ _ _ _=>false) true true (fun _ _ _ a b=>a&&b) true (fun _=>false) (fun _ a=>a) (fun _ a=>a) (fun _=>false) true (fun _ _ a=>a) true true (fun _ _ a b=>a&&b) cs:Bool)=true:=h
  rw [KV.frees_rec]at h
  exact .agg l fun j v x e1 e2=>i j v x e1 e2 (KV.frees_mem h e1)
 | @tuple cs c l _ i=>
  intro h
  have h:(KV.rec_1 (motive_1:=fun _=>Bool) (motive_2:=fun _=>Bool) true (fun _=>true) (fun _ _=>true) (fun _ _=>true) (fun _ _=>false) true (fun _ _ _ _ _=>false) true true (fun _ _ _ a b=>a&&b) true (fun _=>false) (fun _ a=>a) (fun _ a=>a) (fun _=>false) true (fun _ _ a=>a) true true (fun _ _ a b=>a&&b) cs:Bool)=true:=h
  rw [KV.frees_rec]at h
  exact .tuple l fun j v x e1 e2=>i j v x e1 e2 (KV.frees_mem h e1)
 |map a=>exact fun h=>by cases h
 |nilmap=>exact fun _=> .nilmap
 |iface _ i=>exact fun h=> .iface (i h)
 |niliface=>exact fun _=> .niliface
theorem KRs.free {G:Gh} (G':Gh) {vs:List KV} {cs:Array Value} (k:KRs G vs cs) (h:KV.frees vs=true):KRs G' vs cs:=
 ⟨k.1,fun i v c e1 e2=>(k.2 i v c e1 e2).free G' (KV.frees_mem h e1)⟩
theorem KRel.keep {B:zJ} {G:Gh} {h:KH} {w w':World} {I:Nat→Nat→Option V} (r:KRel B G h w) (k:k9 ⟨w,fun _=>False,I⟩ w'):KRel B G h w' where
 kept:=r.kept.step k.os k.tape k.output k.size fun b hb _=>k.heap b hb (fun h=>h)
 blk:=fun id o e=>by
  obtain⟨b,kk,ob,e1,e2,e3,e4⟩:=r.blk id o e
  exact⟨b,kk,ob,e1,e2,(k.heap b (r.lt _ _ _ e1).1 (fun h=>h)).trans e3,e4⟩
 lt:=fun id b kk e=>⟨Nat.lt_of_lt_of_le (r.lt id b kk e).1 k.size,(r.lt id b kk e).2⟩
 sep:=r.sep
 top:=r.top
 res:=r.res
structure sZ (P:Program) (h0:KH):Prop where
 top:h0.next<65000
 glob:P.globals.size≤h0.next
 ro:∀id o,h0.get id=some o→id<h0.next∧∃cs,o= .cells true cs∧KV.frees cs=true
def s9 (h0 h:KH):Prop:=∀id o,h0.get id=some o→h.get id=some o
theorem KCall.memo {P:Program} {f:FuncId} {args:List KV} {h0 h1 h:KH} {r:KV} (k:KCall P f args h0 r h1) (hb:sZ P h0) (ho:s9 h0 h) (ha:KV.frees args=true) (hr:r.free=true):KCall P f args h r h:=by
 intro B G w cargs n hg kr hargs
 let G':Gh:=⟨fun id=>if id<h0.next then G.at_ id else none,G.room⟩
 have hat:∀ {id x},id<h0.next→G.at_ id=some x→G'.at_ id=some x:=fun {id x} hi e=>by show(if id<h0.next then G.at_ id else none)=_; rw [if_pos hi,e]
 have hat':∀ {id x},G'.at_ id=some x→id<h0.next∧G.at_ id=some x:=fun {id x} e=>by
  have e:(if id<h0.next then G.at_ id else none)=some x:=e
  split at e
  ·exact⟨by assumption,e⟩
  ·cases e
 have kr':KRel ⟨w,fun _=>False,fun _ _=>none⟩ G' h0 w:={
  kept:= .refl _ _ _
  blk:=fun id o e=>by
   obtain⟨hlt,cs,rfl,hf⟩:=hb.ro id o e
   obtain⟨b,kk,ob,e1,e2,e3,e4⟩:=kr.blk id _ (ho _ _ e)
   refine⟨b,kk,ob,hat hlt e1,(fun h=>by cases h),e3, ?_⟩
   cases e4 with
   |cells a1 a2 a3 a4=>exact .cells a1 a2 a3 fun i v c h1 h2=>(a4 i v c h1 h2).free G' (KV.frees_mem hf h1)
  lt:=fun id b kk e=>by
   obtain⟨h1,h2⟩:=hat' e
   exact⟨(kr.lt _ _ _ h2).1,h1⟩
  sep:=fun i j oi oj b ki kj e1 e2 _ _=> .inr (by
   obtain⟨_,_,rfl,_⟩:=hb.ro _ _ e1
   obtain⟨_,_,rfl,_⟩:=hb.ro _ _ e2
   exact⟨rfl,rfl⟩)
  top:=hb.top
  res:=fun _ _ _ _ _ _=> .inl rfl}
 have hg':Glob P G':=fun g hgl=>hat (Nat.lt_of_lt_of_le hgl hb.glob) (hg g hgl)
 refine(k ⟨w,fun _=>False,fun _ _=>none⟩ G' w cargs n hg' kr' (hargs.free G' ha)).mono ?_
 rintro en w1 ⟨c,G2,rfl,g1,g2,g3⟩
 exact⟨c,G,rfl, .refl _,g2.free G hr,kr.keep g3.kept⟩
def J3 (w:World) (b i:Nat):Option V:=match w.cell? ⟨b,i,none⟩with
 |some (.string s)=>some (.str s.data.toList)
 |some (.int k n)=>some (.int k n)
 |some (.bool x)=>some (.bool x)
 |_=>none
theorem fa {w:World} {b i:Nat} {v:V} {G:Go.Abs.Gh} (h:J3 w b i=some v):V.pcell v=true∧∃c,w.cell? ⟨b,i,none⟩=some c∧VR G v c:=by
 unfold J3 at h
 split at h<;>first|(cases h; done)|skip
 ·rename_i s e; cases h; exact⟨rfl,_,e, .str s⟩
 ·rename_i k n e; cases h; exact⟨rfl,_,e, .int k n⟩
 ·rename_i x e; cases h; exact⟨rfl,_,e, .bool x⟩
def XR (w:World):Go.Abs.Gh:=⟨J3 w,fun _=>none,fun _ _=>none,fun _=>0⟩
theorem PV (w:World):Rel (fun _=> []) ⟨w,fun _=>False,J3 w⟩ (XR w) ⟨[],[]⟩ w where
 below:= .refl _ _ _
 vars:=fun id cells h=>by simp at h
 varlt:=fun id b h=>by simp at h
 sc:=fun id cells h=>by simp at h
 disj:=fun i j b ci cj h=>by simp at h
 imm:=fun b i v h=>fa h
 fam:=fun t p b e lim h=>by simp at h
 famdisj:=fun t t' p p' b e l e' l' h=>by simp at h
 glob:=fun g i v h=>by simp at h
 gfix:=fun g h=>absurd rfl h
 old:=fun b i _=>rfl
inductive KA (h:KH):KV→V→Prop
 |int (k:IntKind) (n:Int):KA h (.int k n) (.int k n)
 |bool (b:Bool):KA h (.bool b) (.bool b)
 |str (s:List UInt8):KA h (.str s.length (zc s)) (.str s)
 | strs {id off len:Nat} {c:Option Nat} {ro:Bool} {cs:List KV} {es:List (List UInt8)}:h.get id=some (.cells ro cs)→es.length=len→(∀(i:Nat) (s:List UInt8),es[i]? =some s→cs[off+i]? =some (.str s.length (zc s))) →
   KA h (.sl id off len c 1) (.sl 1 (es.map fun s=> [V.str s]) .none)
def V.toK1:V→KV
 | .int k n=> .int k n
 | .bool b=> .bool b
 | .str s=> .str s.length (zc s)
 |_=> .junk
def V.toK:V→KV
 | .tuple vs=> .tuple (vs.map V.toK1)
 |v=>V.toK1 v
theorem Ba {G:Go.Abs.Gh} {v:V} {c:Value} (G':Gh) (h:VR G v c):KR G' (V.toK1 v) c:=by
 cases h<;>first|exact .junk _|exact .int _ _|exact .bool _|skip
 rename_i s
 have:s.data.toList.length=s.size:=Array.length_toList
 show KR G' (.str s.data.toList.length _) _
 rw [this]; exact .str s
theorem oc {G:Go.Abs.Gh} {v:V} {c:Value} (G':Gh) (h:VR G v c):KR G' (V.toK v) c:=by
 cases h
 case tuple h1 h2=>
  refine .tuple (by simpa using h1) fun i x y e1 e2=> ?_
  rw [List.getElem?_map]at e1
  obtain⟨z,e3,rfl⟩:=Option.map_eq_some_iff.1 e1
  exact Ba G' (h2 i z y e3 e2)
 case str s=>exact Ba (G:=G) G' (.str s)
 all_goals first|exact KR.junk _|exact KR.int _ _|exact KR.bool _
theorem Zs {G:Gh} {n m:Nat} {c:Value} (k:KR G (.str n m) c):∃t:ByteArray,c= .string t∧t.size=n∧zc t.data.toList=m:=by
 generalize hx:KV.str n m=x at k
 cases k with
 |str s=>injection hx with h1 h2; exact⟨s,rfl,h1.symm,h2.symm⟩
 |_=>cases hx
theorem sk {B:zJ} {G:Gh} {h:KH} {w:World} (kr:KRel B G h w) {x:KV} {v:V} {c:Value} (ka:KA h x v) (k:KR G x c):VR (XR w) v c:=by
 cases ka with
 |int k n=>cases k; exact .int _ _
 |bool b=>cases k; exact .bool _
 | str s=>
  obtain⟨t,rfl,e1,e2⟩:=Zs k
  have:t.data.toList=s:=ve (by rw [Array.length_toList]; exact e1) e2
  rw [←this]; exact .str t
 | @strs id off len cc ro cs es hid hl hs=>
  subst hl
  cases k with
  | @sl _ _ _ cap _ b o _ ha hle hroom hcap=>
   obtain⟨b',kk,ob,e1,e2,e3,e4⟩:=kr.blk id _ hid
   have:=ha.symm.trans e1
   simp only [Option.some.injEq,Prod.mk.injEq]at this
   obtain⟨rfl,rfl⟩:=this
   cases e4 with
   | @cells _ _ C el fz a1 a2 a3 a4=>
    have hlen:(es.map fun s=> [V.str s]).length=es.length:=List.length_map _
    have hrow:xU (XR w) b (o+off) 1 (es.map fun s=> [V.str s]):=by
     intro i e he
     rw [List.getElem?_map]at he
     cases hes:es[i]? with
     |none=>rw [hes]at he; simp at he
     | some s=>
      rw [hes]at he
      simp only [Option.map_some,Option.some.injEq]at he
      subst he
      refine⟨rfl,fun j v hj=> ?_⟩
      cases j with
      |succ j=>simp at hj
      | zero=>
       simp only [List.getElem?_cons_zero,Option.some.injEq]at hj
       subst hj
       have hc:=hs i s hes
       have hi:off+i<cs.length:=by
        rcases Nat.lt_or_ge (off+i) cs.length with h|h
        ·exact h
        ·rw [List.getElem?_eq_none h]at hc; cases hc
       have hC:o+(off+i)<C.size:=by omega
       have k1:=a4 (off+i) _ C[o+(off+i)] hc (by simp [hC])
       have hcell:w.cell? ⟨b,o+off+i*1+0,none⟩=some C[o+(off+i)]:=by
        rw [yh e3,show o+off+i*1+0=o+(off+i)by omega]
        simp [hC]
       refine .of ?_
       show J3 w b (o+off+i*1+0)=some (.str s)
       unfold J3
       rw [hcell]
       generalize C[o+(off+i)]=cv at k1
       obtain⟨t,rfl,e1,e2⟩:=Zs k1
       have:t.data.toList=s:=ve (by rw [Array.length_toList]; exact e1) e2
       simp only [this]
    have:=VR.sl (G:=XR w) (tok:= .none) (cap:=cap) hrow trivial (by rw [hlen]; exact hle)
    rw [hlen]at this
    exact this
theorem KCall.ofA {P:Program} {f:FuncId} {args:List KV} {vs:List V} {h:KH} {v:V} (ha:z6 P (fun _=> []) f vs ⟨[],[]⟩ fun u _=>u=v) (hl:args.length=vs.length) (hx:∀(i:Nat) (x:KV) (y:V),args[i]? =some x→vs[i]? =some y→KA h x y):KCall P f args h (V.toK v) h:=by
 intro B G w cargs n hg kr hargs
 have hv:VRs (XR w) vs cargs:=⟨hl▸hargs.1,fun i y c e1 e2=>by
  have:i<args.length:=by
   rcases Nat.lt_or_ge i vs.length with h|h
   ·omega
   ·rw [List.getElem?_eq_none h]at e1; cases e1
  exact sk kr (hx i args[i] y (by simp [this]) e1) (hargs.2 i args[i] c (by simp [this]) e2)⟩
 have hsc:V.scs ⟨[],[]⟩ vs:=by
  refine(V.scs_iff _ _).2 fun y hy=> ?_
  obtain⟨i,hi,rfl⟩:=List.getElem_of_mem hy
  have:=hx i args[i] vs[i] (by simp [hl,hi]) (by simp [hi])
  generalize vs[i]=y,args[i]=x at this
  cases this<;>trivial
 refine callsIn_wide.2 ((ha.2 ⟨w,fun _=>False,J3 w⟩ (XR w) w cargs (PV w) hv hsc).mono ?_)
 rintro e w' ⟨r,c,st',G2,rfl,rfl,g1,_,g2,_⟩
 exact⟨c,G,rfl, .refl _,oc G g1,kr.keep g2.below⟩
end Go.K
end
