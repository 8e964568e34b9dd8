/- Closed runs. No condition. -/
import Derived.Test.YtkabooclnoiclaaGreatDoorK04
set_option linter.all false
section
namespace Go.K
open Go.Abs
inductive RdR (G:Gh):Option Nat->Fence->Prop
 |out:RdR G none Fence.wide
 |inl {l b k:Nat}:G.at_ l=some (b,k)->RdR G (some l) (Fence.wide.inRound b)
def RdR.le {G G':Gh} (h:G.le G') {rd:Option Nat} {F:Fence}:RdR G rd F->RdR G' rd F
 | .out=> .out
 | .inl a=> .inl (h.at_ a)
def RdR.fn {G:Gh} {rd:Option Nat} {F:Fence} (h:RdR G rd F) (f:FuncId):F.fn f:=by cases h<;>exact trivial
def RdR.depth {G:Gh} {rd:Option Nat} {F:Fence} (h:RdR G rd F):F.depth=none:=by cases h<;>rfl
def Glob.le {P:Program} {G G':Gh} (h:G.le G') (g:Glob P G):Glob P G':=fun i b=>h.at_ (g i b)
def Zy (B:xi) (G:Gh) (e:Exit) (fr:KFr) (h:KH):Exit->Act->World->Prop:=
 fun f b w1=>f=e∧∃G',G.le G'∧FrR G' fr b∧KRel B G' h w1
def Zy.le {B:xi} {G G':Gh} (i:G.le G') {e:Exit} {fr:KFr} {h:KH} {g:Exit} {f:Act} {w1:World} (k:Zy B G' e fr h g f w1):Zy B G e fr h g f w1:=
 let⟨a,G'',b,c⟩:=k; ⟨a,G'',i.trans b,c⟩
def KC (P:Program) (rd:Option Nat) (c:Code) (fr:KFr) (h:KH) (e:Exit) (fr':KFr) (h':KH):Prop:=
 ∀(B:xi) (G:Gh) (w:World) (a:Act) (F:Fence) (n:Nat),Glob P G->RdR G rd F->KRel B G h w->FrR G fr a->c.wpIn F n P (Zy B G e fr' h') a w
def zcd (F:Fence) (n:Nat) (P:Program) (c:Code) (Q:Exit->Act->World->Prop) (a:Act) (w:World):Prop:=
 ∀ (b:Frame) (k:List Item) (f:List Frame),b.roundOf=F.round->F.fn b.fn->F.room (f.length+1+n) ->
  ∃e g i,Q e g i∧ArrivesIn (Machine.fenced P F) P (lone (b.atR a (.code c:: .inLoop c::k)) f w) b k f e g i
def KL (P:Program) (rd:Option Nat) (c:Code) (fr:KFr) (h:KH) (e:Exit) (fr':KFr) (h':KH):Prop:=
 ∀(B:xi) (G:Gh) (w:World) (a:Act) (F:Fence) (n:Nat),Glob P G->RdR G rd F->KRel B G h w->FrR G fr a->zcd F n P c (Zy B G e fr' h') a w
def KO_ (P:Program) (rd:Option Nat) (ops:Array Oper) (is:List Nat) (fr:KFr) (h:KH) (fr':KFr) (h':KH):Prop:=
 ∀ (B:xi) (G:Gh) (w:World) (a:Act) (F:Fence) (n:Nat) (Q:Exit->Act->World->Prop),Glob P G->RdR G rd F->KRel B G h w->FrR G fr a ->
  (∀b w1,Zy B G .normal fr' h' .normal b w1->Q .normal b w1)->wpOpsIn F n P ops Q is a w
def KCall (P:Program) (f:FuncId) (args:List KV) (h:KH) (r:KV) (h':KH):Prop:=
 ∀ (B:xi) (G:Gh) (w:World) (b:Array Value) (n:Nat),Glob P G->KRel B G h w->KRs G args b ->
  CallsIn Fence.wide n P f b w fun en w1=>∃c G',en= .returned c∧G.le G'∧KR G' r c∧KRel B G' h' w1
section
variable {P:Program} {rd:Option Nat} {fr fr1 fr':KFr} {h h1 h':KH} {e:Exit} {c x y:Code}
def tc:KC P rd .skip fr h .normal fr h:=fun B G w a F n b g k f=>wpIn_skip ⟨rfl,G, .refl _,f,k⟩
def oB {l:Nat}:KC P rd (.label l) fr h .normal fr h:=fun B G w a F n b g k f=>wpIn_label ⟨rfl,G, .refl _,f,k⟩
def sR {id:Nat}:KC P rd (.exit id) fr h (.exit id) fr h:=fun B G w a F n b g k f=>wpIn_exit ⟨rfl,G, .refl _,f,k⟩
def zbv:KC P rd .ret fr h .ret fr h:=fun B G w a F n b g k f=>wpIn_ret ⟨rfl,G, .refl _,f,k⟩
def zbh (k1:KC P rd x fr h .normal fr1 h1) (k2:KC P rd y fr1 h1 e fr' h'):KC P rd (.seq x y) fr h e fr' h':=fun B G w a F n g i k f=>by
 refine wpIn_seq (wpIn_mono (k1 B G w a F n g i k f) ?_);rintro r j w1 ⟨rfl,G',b,m,p⟩;exact wpIn_mono (k2 B G' w1 j F n (g.le b) (i.le b) p m) fun _ _ _ q=>q.le b
def sw (k1:KC P rd x fr h e fr' h') (g:e≠ .normal):KC P rd (.seq x y) fr h e fr' h':=fun B G w a F n i j k f=>by
 refine wpIn_seq (wpIn_mono (k1 B G w a F n i j k f) ?_);rintro b m w1 ⟨rfl,q⟩
 cases b with
 |normal=>exact absurd rfl g
 |_=>exact⟨rfl,q⟩
def cC {ng:Nat} (j:ng<=P.globals.size) {o:Operand} {t:Bool} (m:zp ng fr.l o= .bool t) (k1:KC P rd (if t then x else y) fr h e fr' h'):KC P rd (.cond o x y) fr h e fr' h':=fun B G w a F n g p k f=>by
 have b:=f.eval g j o;rw [m]at b;generalize i:a.eval o=cv at b;cases b;exact wpIn_cond i (k1 B G w a F n g p k f)
def bR {id:Nat} (k1:KC P rd c fr h e fr' h') (j:Exit) (p:j=match e with| .exit i=>if i=id then .normal else .exit i|e=>e):KC P rd (.block id c) fr h j fr' h':=fun B G w a F n r s k f=>by
 refine wpIn_block (wpIn_mono (k1 B G w a F n r s k f) ?_);rintro m g w1 ⟨rfl,q⟩;subst p
 cases m with
 | exit i=>
  show(if i=id then Zy B G _ fr' h' .normal g w1 else Zy B G _ fr' h' (.exit i) g w1)
  by_cases b:i=id
  ·rw [iI b]; exact⟨by simp [b],q⟩
  ·rw [iH b]; exact⟨by simp [b],q⟩
 |_=>exact⟨rfl,q⟩
def sj (k1:KL P rd c fr h e fr' h'):KC P rd (.loop c) fr h e fr' h':=fun B G w a F n s t k f=>by
 intro b k0 p i j hroom;obtain⟨r,m,w1,q,g⟩:=k1 B G w a F n s t k f b k0 p i j hroom;exact⟨r,m,w1,q, .of_steps (.one (fenced_calm j hroom rfl) stepR_loop) g⟩
def sY (k1:KC P rd c fr h .normal fr1 h1) (k2:KL P rd c fr1 h1 e fr' h'):KL P rd c fr h e fr' h':=fun B G w a F n r s k f=>by
 intro b k0 p i m hroom;obtain⟨K,t,w1,⟨rfl,G',j,C,H⟩,g⟩:=k1 B G w a F n r s k f b (.inLoop c::k0) p i m hroom;obtain⟨A,z,I,q,harr2⟩:=k2 B G' w1 t F n (r.le j) (s.le j) H C b k0 p i m hroom;exact⟨A,z,I,q.le j, .of_steps (StepsIn.trans g (.one (fenced_calm m hroom rfl) stepR_inLoop)) harr2⟩
def zbO (k1:KC P rd c fr h e fr' h') (s:e≠ .normal):KL P rd c fr h e fr' h':=fun B G w a F n t z k f=>by
 intro b k0 m i r hroom;obtain⟨p,j,w1,q,g⟩:=k1 B G w a F n t z k f b (.inLoop c::k0) m i r hroom;obtain⟨rfl,A⟩:=q;exact⟨p,j,w1,⟨rfl,A⟩, .pass (x:= .inLoop c) rfl (fun _ _=> .inl s) g⟩
def fP {id:Nat} {ops:Array Oper} (k1:KO_ P rd ops (List.range ops.size) fr h fr' h'):KC P rd (.region id ops false) fr h .normal fr' h':=fun B G w a F n b g k f=>
 wpIn_region (k1 B G w a F n _ b g k f fun _ _ q=>q)
def zb6 {ops:Array Oper}:KO_ P rd ops [] fr h fr h:=fun B G w a F n Q g i k f b=>b a w ⟨rfl,G, .refl _,f,k⟩
def KFr.put (fr:KFr) (dst:Option Tmp) (v:KV):KFr:=match dst with
 |none=>fr
 |some d=>bif Nat.blt d fr.n then {fr with l:=KK fr.l d v} else fr
def FrR.put {G:Gh} {fr:KFr} {a:Act} (f:FrR G fr a) (dst:Option Tmp) {v:KV} {cv:Value} (b:KR G v cv):FrR G (fr.put dst v) (a.put dst cv):=by
 cases dst with
 |none=>exact f
 | some d=>
  simp only [KFr.put,Act.put,xn,Bool.cond_decide]
  by_cases hd:d<fr.n
  ·rw [iI hd];exact⟨f.sl.put d b hd,f.ds⟩
  ·rw [iH hd];refine⟨?_,f.ds⟩
   have:a.tmps.setIfInBounds d cv=a.tmps:=by
    apply Array.setIfInBounds_eq_of_size_le;rw [f.sl.size]; exact Nat.le_of_not_lt hd
   rw [this]; exact f.sl
def We (ops:Array Oper) (l:Sl) (j:Nat):Option (Option Bool):=
 match(ops[j]?).bind (·.dst)with
 | some d=>match wD l d with
  | .bool b=>some (some b)
  | .tuple []=>some none
  |_=>none
 |none=>none
def wR (ops:Array Oper) (l:Sl) (o:Oper):Option Bool:=
 match o.guard with
 |none=>some true
 | some (j,f)=>match We ops l j with
  |some (some b)=>some (b==f)
  |some none=>some false
  |none=>none
def b7 {G:Gh} {ops:Array Oper} {fr:KFr} {a:Act} {o:Oper} (f:FrR G fr a) {t:Bool} (e:wR ops fr.l o=some t):Region.wanted o (yielded ops a.tmps)=t:=by
 unfold wR at e;unfold Region.wanted
 cases k:o.guard with
 |none=>rw [k]at e; injection e
 | some g=>
  obtain⟨j,p⟩:=g;rw [k]at e;simp only at e ⊢;unfold We at e;unfold yielded
  cases hd:(ops[j]?).bind (·.dst)with
  |none=>rw [hd]at e; simp at e
  | some d=>
   rw [hd]at e;simp only [iG]at e ⊢;have i:=f.sl.slot d;cases n:wD fr.l d<;>rw [n]at e i<;>try (first|(cases e; done)|skip)
   ·rename_i b
    cases m:a.tmps[d]? with
    | none=>
     rw [Array.getD_eq_getD_getElem?,m]at i;cases i
    | some u=>
     rw [Array.getD_eq_getD_getElem?,m]at i;simp only [Option.getD_some]at i;cases i;simp only [iL]at e;simp [e]
   ·rename_i q
    cases q with
    |cons _ _=>simp at e
    | nil=>
     cases e
     cases m:a.tmps[d]? with
     |none=>rfl
     | some u=>
      rw [Array.getD_eq_getD_getElem?,m]at i;simp only [Option.getD_some]at i;cases i;rfl
def PS {ops:Array Oper} {i:Nat} {is:List Nat} {o:Oper} (hi:ops[i]? =some o) (p:wR ops fr.l o=some false) (k1:KO_ P rd ops is (fr.put o.dst (.tuple [])) h fr' h'):KO_ P rd ops (i::is) fr h fr' h':=fun B G w a F n Q j b k f m=>by
 simp only [wpOpsIn,hi,b7 f p,iT,if_false];exact⟨fun g _=>b.fn g,k1 B G w _ F n Q j b k (f.put o.dst (.tuple rfl (by simp))) m⟩
end
def KRs.append {G:Gh} {a b:List KV} {x y:Array Value} (h1:KRs G a x) (k:KRs G b y):KRs G (a++b) (x++y):=by
 refine⟨by simp [h1.1,k.1], ?_⟩;intro i v c j g;rcases iS i a.length with f|f
 ·rw [iU f]at j;rw [Array.getElem?_append_left (by rw [<-h1.1]; exact f)]at g;exact h1.2 i v c j g
 ·rw [List.getElem?_append_right f]at j;rw [Array.getElem?_append_right (by rw [<-h1.1]; exact f),<-h1.1]at g;exact k.2 _ v c j g
structure KF_ where
 F:FuncId->Option Func
 M:TypeId->String->Option FuncId
structure KF_.Ok (P:Program) (E:KF_):Prop where
 F : ∀ {f fn}, E.F f = some fn → P.funcs[f]? = some fn ∧ (fn.name == "runtime.NumGoroutine") = false
 M:∀ {t name f},E.M t name=some f->∀(v:Value) (w:World),(method (P.types.size+Made.depth) t v name).run P w= .ok (f,v) w
def GA:List KV->Nat->Sl->Sl
 | [],_,s=>s
 |v::r,i,s=>GA r (i+1) (KK s i v)
def VH:∀(l:List KV) (i:Nat) (s:Sl) (t:Nat),wD (GA l i s) t=if i<=t∧t<i+l.length then(l[t-i]?).getD .junk else wD s t
 | [],i,s,t=>by rw [iH (by simp only [List.length_nil]; omega)]; rfl
 | v::r,i,s,t=>by
  simp only [GA,VH r (i+1),Wo,List.length_cons]
  by_cases h:t=i
  ·subst h;rw [iH (by omega),iI rfl,iI (by omega)]; simp
  ·by_cases b:i+1<=t∧t<i+1+r.length
   ·rw [iI b,iI (by omega),show t-i=(t-(i+1))+1 by omega]; simp
   ·rw [iH b,iH h,iH (by omega)]
def XL (fn:Func) (args:List KV):KFr:=⟨fn.ntmps,GA args 0 .none,[]⟩
def qL (E:KF_) (c:Callee) (ev:Operand->KV) (args:List KV):Option (FuncId×List KV):=
 match c with
 | .value f=>match ev f with
  | .func (.func f) first cap=>some (f,first++args++cap)
  |_=>none
 | .invoke r name=>match ev r with
  | .iface t v=>match E.M t name with
   |some f=>some (f,v::args)
   |none=>none
  |_=>none
 | .builtin _=>none
section
variable {P:Program} {E:KE} {S:KF_} {B:xi} {G:Gh} {h h1 h':KH} {w:World} {fr fr':KFr} {a:Act} {rd:Option Nat}
def Ua {fn:Func} {args:List KV} {b:Array Value} (f:KRs G args b) (m:args.length<=fn.ntmps):FrR G (XL fn args) {tmps:=b++Array.replicate (fn.ntmps-b.size) undef,defers:= []}:=by
 refine⟨⟨by simp [XL,<-f.1]; omega,fun t=> ?_⟩, .nil⟩
 have j:wD (XL fn args).l t=(args[t]?).getD .junk:=by
  simp only [XL,VH,Nat.zero_le,true_and,Nat.zero_add,Nat.sub_zero,fK];split
  ·rfl
  ·rename_i h; rw [iN (Nat.le_of_not_lt h)]; rfl
 rw [j]
 cases i:args[t]? with
 |none=>exact .junk _
 | some v=>
  have k:=wF i;have g:t<b.size:=by rw [<-f.1]; exact k
  have:(b++Array.replicate (fn.ntmps-b.size) undef).getD t undef=b[t]:=by
   rw [Array.getD_eq_getD_getElem?,Array.getElem?_append_left g]; simp [g]
  rw [this];exact f.2 t v _ i (by simp [g])
def qI (g:S.Ok P) {f:FuncId} {fn:Func} (j:S.F f=some fn) {c:Code} (i:fn.body=some c) (args:Array Value) (w:World):(callFunc f args).run P w= .ok (.enter f args) w:=by
 obtain⟨h1,b⟩:=g.F j;simp only [callFunc,iB,run_program,iA,h1,b,iT,if_false,i,Option.isNone_some,iC]
def BT (q:S.Ok P) (j:∀x,KR G (zp E.ng fr.l x) (a.eval x)) {o:Oper} {cl:Call} (n:o.op= .call cl) {f:FuncId} {args:List KV} (e:qL S cl.callee (zp E.ng fr.l) (cl.args.toList.map (zp E.ng fr.l))=some (f,args))
  {fn:Func} (F:S.F f=some fn) {c:Code} (C:fn.body=some c):∃b,(execOp a.eval o).run P w= .ok (.enter f b) w∧KRs G args b:=by
 have hargs:=dq (E:=E) j cl.args;obtain⟨callee,asT,tys⟩:=cl;unfold qL at e;simp only at e hargs;split at e
 ·rename_i fo;split at e
  ·rename_i K first cap r
   cases e;have k:=j fo;rw [r]at k;generalize g:a.eval fo=cv at k
   cases k with
   | func N Q O T=>
    rename_i H I;refine⟨H++asT.map a.eval++I, ?_,(KRs.append (KRs.append ⟨N,Q⟩ hargs) ⟨O,T⟩)⟩;simp only [execOp,n,resolve,iB,g,Deferred.ofValue,iC,iA,invoke,qI q F C]
  ·cases e
 ·rename_i ro name;split at e
  ·rename_i t v s;split at e
   ·rename_i K M;cases e;have k:=j ro;rw [s]at k;generalize g:a.eval ro=cv at k
    cases k with
    | iface A=>
     rename_i m;refine⟨#[m]++asT.map a.eval, ?_, ?_⟩
     ·simp only [execOp,n,resolve,iB,g,iC,iA,invoke];have L:(#[Value.iface t m]++asT.map a.eval)[0]? =some (.iface t m):=by rw [Array.getElem?_append_left (by simp)]; rfl
      have p:(#[Value.iface t m]++asT.map a.eval).extract 1 (#[Value.iface t m]++asT.map a.eval).size=asT.map a.eval:=by
       apply Array.ext';simp only [Array.toList_extract,List.extract_eq_take_drop,Array.toList_append,List.size_toArray,Array.size_append,Array.size_map,List.length_cons,List.length_nil,Array.toList_map];simp only [List.cons_append,List.nil_append,List.drop_succ_cons,List.drop_zero];exact List.take_of_length_le (by simp)
      rw [L,p];simp only [callMethod,iB,run_program,iA,q.M M,qI q F C]
     ·have:v::asT.toList.map (zp E.ng fr.l)= [v]++asT.toList.map (zp E.ng fr.l):=rfl;rw [this];refine KRs.append ⟨rfl, ?_⟩ hargs;intro i u x z p
      match i with
      |0=>simp at z p; subst z p; exact A
      |i+1=>simp at z
   ·cases e
  ·cases e
 ·cases e
def UV {b n:Nat} {f:FuncId} {args:Array Value} {R:Ending->World->Prop} (h:CallsIn Fence.wide n P f args w R):CallsIn (Fence.wide.inRound b) n P f args w R:=h
def KCall.inF {f:FuncId} {args:List KV} {r:KV} (k:KCall P f args h r h') {F:Fence} (j:RdR G rd F) {b:Array Value} (n:Nat) (i:Glob P G) (kr:KRel B G h w) (g:KRs G args b):
  CallsIn F n P f b w fun en w1=>∃c G',en= .returned c∧G.le G'∧KR G' r c∧KRel B G' h' w1:=by
 cases j with
 |out=>exact k B G w b n i kr g
 |inl m=>exact UV (k B G w b n i kr g)
def JR (E:KE) (h:KH) (l:Sl):ResultVar->Option KV
 | .tmp t=>some (wD l t)
 | .cell x t=>if(E.T t).ok=true∧(E.T t).d≠ .other then pE h (wD l x) (E.T t).sz (E.T t).d.agg else none
def Y8 (E:KE) (h:KH) (l:Sl):List ResultVar->Option (List KV)
 | []=>some []
 |x::r=>match JR E h l x,Y8 E h l r with|some v,some b=>some (v::b)|_,_=>none
def eX (E:KE) (h:KH) (l:Sl) (b:Array ResultVar):Option KV:=match Y8 E h l b.toList with
 |some [v]=>some v
 |some f=>some (.tuple f)
 |none=>none
def GF (tmps:Array Value):ResultVar->Sem Value
 | .tmp t=>pure (tmps.getD t undef)
 | .cell x t=>do loadVar t (<-asAddr (tmps.getD x undef))
def UM (fn:Func) (tmps:Array Value):results fn tmps=(do let b <-fn.results.mapM (GF tmps); pure (if h:b.size=1 then b[0]else .tuple b)):=rfl
def fi (r:KRel B G h w) {t:TypeId} (j:(ti P t).ok=true) (hd:(ti P t).d≠ .other) {p v:KV} {c:Value} (C:KR G p c) (f:pE h p (ti P t).sz (ti P t).d.agg=some v):
  ∃ad x,c= .pointer (some ad)∧(loadVar t ad).run P w= .ok x w∧KR G v x:=by
 obtain⟨i,d,A,g,k,_⟩:=pB j;unfold pE at f;split at f
 ·rename_i id m;split at f
  ·rename_i ro n z
   cases C with
   | ptr s=>
    rename_i b o;obtain⟨x,h1,q⟩:=PX (P:=P) w b o t n m _ v i d A g k hd (r.cell z s) f;exact⟨_,x,rfl,h1,q⟩
  ·cases f
 ·cases f
def Jw (A:E.Ok P) (r:KRel B G h w) (g:SlR G fr.n fr.l a.tmps):∀ {s:List ResultVar} {b:List KV},Y8 E h fr.l s=some b ->
  ∃cs:List Value,(s.mapM (m:=Sem) (GF a.tmps)).run P w= .ok cs w∧KRs G b cs.toArray
 | [],b,e=>by simp only [Y8,iL]at e; subst e; exact⟨[],rfl,rfl,by simp⟩
 | x ::s,b,e=>by
  simp only [Y8]at e;split at e
  ·rename_i v vs' h1 H;cases e;obtain⟨cs,F,z⟩:=Jw A r g H
   have I:∃cv,(GF a.tmps x).run P w= .ok cv w∧KR G v cv:=by
    cases x with
    |tmp t=>simp only [JR,iL]at h1; subst h1; exact⟨_,rfl,g.slot t⟩
    | cell x t=>
     simp only [JR]at h1;split at h1
     ·rename_i f;rw [A.T]at f h1;have C:=g.slot x;simp only [GF];generalize a.tmps.getD x undef=p at C ⊢;obtain⟨ad,cv,rfl,n,q⟩:=fi (P:=P) r f.1 f.2 C h1;exact⟨cv,by simp only [asAddr,iB,iC,iA,n],q⟩
     ·cases h1
   obtain⟨cv,n,q⟩:=I;refine⟨cv::cs, ?_, ?_⟩
   ·simp only [List.mapM_cons,iB];rw [n];simp only [iA,iB,F,iC]
   ·refine⟨by have:=z.1; simp at this ⊢; exact this, ?_⟩;intro i u y j k
    match i with
    |0=>simp at j k; subst j k; exact q
    |i+1=>exact z.2 i u y (by simpa using j) (by simpa using k)
  ·cases e
def Gt (p:E.Ok P) (r:KRel B G h w) (s:SlR G fr.n fr.l a.tmps) {fn:Func} {v:KV} (e:eX E h fr.l fn.results=some v):∃c,(results fn a.tmps).run P w= .ok c w∧KR G v c:=by
 unfold eX at e
 have key:∀j,Y8 E h fr.l fn.results.toList=some j->∃f:List Value,(fn.results.mapM (m:=Sem) (GF a.tmps)).run P w= .ok f.toArray w∧KRs G j f.toArray:=fun j b=>by
  obtain⟨f,i,g⟩:=Jw (P:=P) p r s b;refine⟨f, ?_,g⟩;rw [Array.mapM_eq_mapM_toList];simp only [Sem.run_map,i,iA]
 split at e
 ·rename_i t b;cases e;obtain⟨f,i,g⟩:=key _ b;have q:=g.1
  match f,q with
  | [c],_=>
   refine⟨c, ?_,g.2 0 _ _ rfl rfl⟩;rw [UM];simp only [iB,i];rfl
 ·rename_i j k b;cases e;obtain⟨f,i,g⟩:=key _ b;refine⟨.tuple f.toArray, ?_, .tuple g.1 g.2⟩;rw [UM];simp only [iB,i,iA]
  have n:¬f.toArray.size=1:=by
   intro h1;rw [<-g.1]at h1
   match j,h1 with
   | [v],_=>exact k v rfl
  rw [dif_neg n]; rfl
 ·cases e
end
def BH {E:KE} {l i:Sl} {h:KH} (op:Op) (g:∀x∈op.operands,zp E.ng l x=zp E.ng i x):yl E l h op=yl E i h op:=by
 cases op<;>simp only [yl]
 case call c=>
  obtain⟨callee,j,tys⟩:=c
  cases callee with
  | builtin b=>
   have:j.toList.map (zp E.ng l)=j.toList.map (zp E.ng i):=List.map_congr_left fun x h=>g x (by simp [Op.operands,Call.operands]; simpa using h);simp only [this]
  |_=>rfl
 case build t f=>
  have:je (zp E.ng l) f=je (zp E.ng i) f:=List.map_congr_left fun x h=>by
   have:=g x.2 (by simp [Op.operands]; exact⟨x.1,by simpa using h⟩);simp only [this]
  simp only [this]
 case buildSlice t n f=>
  have:je (zp E.ng l) f=je (zp E.ng i) f:=List.map_congr_left fun x h=>by
   have:=g x.2 (by simp [Op.operands]; exact⟨x.1,by simpa using h⟩);simp only [this]
  simp only [this]
 case makeFunc fn first captured=>
  have h1:first.toList.map (zp E.ng l)=first.toList.map (zp E.ng i):=List.map_congr_left fun x h=>g x (by simp [Op.operands]; left; simpa using h)
  have k:captured.toList.map (zp E.ng l)=captured.toList.map (zp E.ng i):=List.map_congr_left fun x h=>g x (by simp [Op.operands]; right; simpa using h);simp only [h1,k]
 case slice t x lo m mx=>
  have p:=g x (by simp [Op.operands]);have h1:lo.map (zp E.ng l)=lo.map (zp E.ng i):=by cases lo with|none=>rfl|some y=>simp; exact g y (by simp [Op.operands])
  have k:m.map (zp E.ng l)=m.map (zp E.ng i):=by cases m with|none=>rfl|some y=>simp; exact g y (by simp [Op.operands])
  have q:mx.map (zp E.ng l)=mx.map (zp E.ng i):=by cases mx with|none=>rfl|some y=>simp; exact g y (by simp [Op.operands])
  simp only [p,h1,k,q]
 case makeMap t r=>cases r with|none=>rfl|some x=>simp only [g x (by simp [Op.operands])]
 all_goals (try (simp only [Op.operands,Array.mem_def,List.mem_cons,forall_eq_or_imp,List.not_mem_nil,false_imp_iff,implies_true,and_true,forall_const]at g))<;>(try (simp only [g]))
def Ja {S:KF_} {c:Call} {ng:Nat} {l g:Sl} (i:∀x∈(Op.call c).operands,zp ng l x=zp ng g x):
  qL S c.callee (zp ng l) (c.args.toList.map (zp ng l))=qL S c.callee (zp ng g) (c.args.toList.map (zp ng g)):=by
 obtain⟨callee,args,tys⟩:=c
 have j:args.toList.map (zp ng l)=args.toList.map (zp ng g):=List.map_congr_left fun x h=>i x (by
  simp only [Op.operands,Call.operands]
  cases callee<;>simp<;>first|(right; simpa using h)|simpa using h)
 cases callee with
 |value f=>simp only [qL,j,i f (by simp [Op.operands,Call.operands])]
 |invoke r name=>simp only [qL,j,i r (by simp [Op.operands,Call.operands])]
 |builtin b=>rfl
def KDo (P:Program) (ng:Nat) (rd:Option Nat) (o:Oper) (l:Sl) (h:KH) (v:KV) (h':KH):Prop:=
 ∀ (B:xi) (G:Gh) (w:World) (a:Act) (F:Fence) (n:Nat) (K:Act->World->Prop) (Q:Exit->Act->World->Prop),Glob P G->RdR G rd F->KRel B G h w->(∀x∈o.op.operands,KR G (zp ng l x) (a.eval x)) ->
  (∀cv G' b,G.le G'->KR G' v cv->KRel B G' h' b->K (a.put o.dst cv) b)->o.wpIn F n P a w K Q
def KDo.congr {P:Program} {ng:Nat} {rd:Option Nat} {o:Oper} {l f:Sl} {h h':KH} {v:KV} (p:∀x∈o.op.operands,zp ng l x=zp ng f x) (k:KDo P ng rd o l h v h'):KDo P ng rd o f h v h':=
 fun B G w a F n K Q g j kr m i=>k B G w a F n K Q g j kr (fun x b=>by rw [p x b]; exact m x b) i
section
variable {P:Program} {E:KE} {S:KF_} {rd:Option Nat} {o:Oper} {l:Sl} {h h':KH} {v:KV}
def zbs {B:xi} {G:Gh} {a:Act} {ng:Nat} (m:ng<=P.globals.size) (j:Glob P G) (q:∀x∈o.op.operands,KR G (zp ng l x) (a.eval x)):
  ∃g,(∀x∈o.op.operands,zp ng l x=zp ng g x)∧∀x,KR G (zp ng g x) (a.eval x):=by
 refine⟨l.filter fun x=>(qD o).contains x, ?_, ?_⟩
 ·intro x b
  cases x with
  | tmp t=>
   have:t∈qD o:=List.mem_filterMap.2 ⟨.tmp t,by simpa using b,rfl⟩;simp only [zp,qW (p:=fun x=>(qD o).contains x)];rw [iI (by simpa using this)]
  |_=>rfl
 ·have i:FrR G ⟨a.tmps.size,l.filter fun x=>(qD o).contains x,[]⟩ {a with defers:= []}:=by
   refine⟨⟨rfl,fun t=> ?_⟩, .nil⟩;simp only [qW (p:=fun x=>(qD o).contains x)];split
   ·rename_i n
    have k:Operand.tmp t∈o.op.operands:=by
     have:t∈qD o:=by simpa using n
     obtain⟨x,b,f⟩:=List.mem_filterMap.1 this;cases x<;>simp at f;subst f;simpa using b
    exact q _ k
   ·exact .junk _
  intro x;have:=i.eval j m x;cases x<;>exact this
def KDo.exec (p:E.Ok P) (f:yl E l h o.op=some (v,h')):KDo P E.ng rd o l h v h':=fun B G w a F n K Q s t kr z q=>by
 obtain⟨A,h1,r⟩:=zbs (B:=B) p.ng s z;rw [BH o.op h1]at f;refine⟨fun g _=>t.fn g, ?_⟩;have i:∀d,o.op≠ .defer d:=fun d hd=>by rw [hd]at f; simp [yl]at f
 obtain⟨cv,C,G',b,j,k,m⟩:=Pn (fr:=⟨a.tmps.size,A,[]⟩) p kr r o f;rw [Oper.semAt_eq _ _ _ i];rcases b with b|⟨b,rfl⟩
 ·rw [b]; exact q _ _ _ j k m
 ·rw [b]; exact q _ _ _ j k m
def KDo.call (A:E.Ok P) (C:S.Ok P) {cl:Call} {f:FuncId} {fn:Func} {c:Code} {args:List KV} (b:o.op= .call cl)
  (e:qL S cl.callee (zp E.ng l) (cl.args.toList.map (zp E.ng l))=some (f,args)) (I:S.F f=some fn) (H:fn.body=some c) (k0:KCall P f args h v h'):KDo P E.ng rd o l h v h':=fun B G w a F n K Q m k kr M L=>by
 obtain⟨N,h1,s⟩:=zbs (B:=B) A.ng m M;rw [Ja (by rw [<-b]; exact h1)]at e;refine⟨fun g _=>k.fn g, ?_⟩;have j:∀d,o.op≠ .defer d:=fun d hd=>by rw [b]at hd; cases hd
 obtain⟨i,t,z⟩:=BT (fr:=⟨a.tmps.size,N,[]⟩) (w:=w) C s b e I H;rw [Oper.semAt_eq _ _ _ j,t];refine⟨fun hd=>(by rw [k.depth]at hd; cases hd),(k0.inF k (n-1) m kr z).mono ?_⟩;rintro en w1 ⟨cv,G',rfl,p,q,r⟩;exact L _ _ _ p q r
def zdk {ng:Nat} (s:ng<=P.globals.size) {ops:Array Oper} {i:Nat} {is:List Nat} {fr fr':KFr} {h1:KH} (hi:ops[i]? =some o) (z:wR ops fr.l o=some true) (kd:KDo P ng rd o fr.l h v h1)
  (k1:KO_ P rd ops is (fr.put o.dst v) h1 fr' h'):KO_ P rd ops (i::is) fr h fr' h':=fun B G w a F n Q g j k f t=>by
 simp only [wpOpsIn,hi,b7 f z,if_true];refine kd B G w a F n _ _ g j k (fun x _=>f.eval g s x) ?_;intro cv G' A b p r;exact k1 B G' A _ F n Q (g.le b) (j.le b) r ((f.le b).put o.dst p) fun m C q=>t m C (q.le b)
end
inductive KTm where
 |ptr
 |sl (len cap sz:Nat)
def KTm.at (t:KTm) (id:Nat):KV:=match t with
 | .ptr=> .ptr id 0
 | .sl l c s=> .sl id 0 l (some c) s
def kal (E:KE) (l:Sl):Op->Option (KTm×List KV)
 | .alloc e=>if(E.T e).zok=true∧KV.isCells (E.Z e).cells=true then some (.ptr,(E.Z e).cells)else none
 | .box _ x=>if KV.isCells (zp E.ng l x).cells=true then some (.ptr,(zp E.ng l x).cells)else none
 | .buildSlice t len ps=>match(E.T t).d with
  | .slice e b _=>if len*b<=16777216∧(E.T e).zok=true∧(E.Z e).cells.length=b then(match dv (fun i=>some (i*b,b)) (jh len (E.Z e).cells) (je (zp E.ng l) ps)with|some f=>some (.sl len len b,f)|none=>none)else none
  |_=>none
 | .makeSlice t n c=>match(E.T t).d,zp E.ng l n,zp E.ng l c with
  | .slice e b bytes, .int _ l, .int _ c=>if 0<=l∧l<=c∧bytes*c<=140737488355328∧c<=140737488355328∧(E.T e).zok=true∧(E.Z e).cells.length=b then some (.sl l.toNat c.toNat b,jh c.toNat (E.Z e).cells)else none
  |_,_,_=>none
 |_=>none
def Wa {E:KE} {l g:Sl} (op:Op) (f:∀x∈op.operands,zp E.ng l x=zp E.ng g x):kal E l op=kal E g op:=by
 cases op<;>simp only [kal]
 case box t x=>simp only [f x (by simp [Op.operands])]
 case buildSlice t n b=>
  have:je (zp E.ng l) b=je (zp E.ng g) b:=List.map_congr_left fun x h=>by
   have:=f x.2 (by simp [Op.operands]; exact⟨x.1,by simpa using h⟩);simp only [this]
  simp only [this]
 case makeSlice t n c=>simp only [f n (by simp [Op.operands]),f c (by simp [Op.operands])]
section
variable {P:Program} {E:KE} {G:Gh} {w:World} {l:Sl} {a:Act}
def sL (hE:E.Ok P) (s:∀x,KR G (zp E.ng l x) (a.eval x)) (o:Oper) {tm:KTm} {cs:List KV} (e:kal E l o.op=some (tm,cs)):
  ∃ c C el room,(execOp a.eval o).run P w= .ok (.value c) (w.alloc (.cells C el))∧cs.length<=room∧room<=C.size∧(∀(i:Nat) (v:KV) (x:Value),cs[i]? =some v->C[i]? =some x->KR G v x) ∧
   ∀(G':Gh) (id:Nat),G'.at_ id=some (w.heap.size,0)->G'.room id=room->KR G' (tm.at id) c:=by
 have U:=hE.T;have W:=hE.Z;unfold kal at e;split at e
 ·rename_i el g;rw [U,W]at e;split at e
  ·rename_i I;simp only [iL,iW]at e;obtain⟨rfl,rfl⟩:=e;obtain⟨i,z,r,q,p⟩:=Zf I.1;have k:KRs G (kz P el).cells z.cells:=by rw [p]; exact KRs.of_zero
   refine⟨.pointer (some ⟨w.heap.size,0,none⟩),z.cells,el,(kz P el).cells.length, ?_,iP _,by rw [k.1]; exact iP _,k.2,fun G' id h1 F=> .ptr (off:=0) h1⟩;simp only [execOp,g,Instr.alloc,iB,zU r q,iA,newVar];rfl
  ·cases e
 ·rename_i t x g;split at e
  ·rename_i I;simp only [iL,iW]at e;obtain⟨rfl,rfl⟩:=e;obtain⟨M,_⟩:=ZC (s x) I;refine⟨.pointer (some ⟨w.heap.size,0,none⟩),(a.eval x).cells,t,(zp E.ng l x).cells.length, ?_,iP _,by rw [M.1]; exact iP _,M.2,fun G' id h1 F=> .ptr (off:=0) h1⟩;simp only [execOp,g,Instr.box,newVar];rfl
  ·cases e
 ·rename_i t len ps g;rw [U,W]at e;split at e
  ·rename_i el N by_ hd;split at e
   ·rename_i I;obtain⟨hbig,hz,m⟩:=I;split at e
    ·rename_i cells hf;simp only [iL,iW]at e;obtain⟨rfl,rfl⟩:=e;obtain⟨p1,p2⟩:=Ye (E:=E) (fr:=⟨a.tmps.size,l,[]⟩) s ps;obtain⟨hu,i,r,A,_⟩:=zM hd;obtain⟨i',z,f,q,p⟩:=Zf hz;rw [r]at f; injection f with f; subst f;have k:KRs G (kz P el).cells z.cells:=by rw [p]; exact KRs.of_zero
     have b:=dY k len;rw [m]at b;obtain⟨R,Q,H,T⟩:=gU (G:=G) _ (je (zp E.ng l) ps) (ps.map fun(i,x)=>(i,a.eval x)).toList _ _ _ b (by simpa using p1) (fun j i v i' x h1 F=>p2 j i v i' x h1 (by simpa using F)) hf;rw [qB,m]at T;refine⟨.slice (some ⟨w.heap.size,0,none⟩) len len,R,el,cells.length, ?_,iP _,by rw [H.1]; exact iP _,H.2,fun G' id h1 F=> .sl (off:=0) (o:=0) h1 (iP _) (by rw [F]; omega) (fun x hx=>by cases hx; rfl)⟩;simp only [execOp,g,Instr.buildSlice,iB,run_underlying hu,iA,zF r,<-A];rw [iH (by simp; omega)]
     by_cases L:len*N=0
     ·simp only [L,if_true,iB,iC,iA]at Q ⊢;have he:((Array.range 0).map ((#[]:Array Value)[· % (#[]:Array Value).size]!))=(Array.range 0).map (z.cells[· % z.cells.size]!):=by simp
      rw [he,Q];rfl
     ·rw [iH L];simp only [iB,zU r q,iA,iC,Q];rfl
    ·cases e
   ·cases e
  ·cases e
 ·rename_i t n c g;rw [U,W]at e;split at e
  ·rename_i el N bytes k1 li k2 ci hd hn hcc;split at e
   ·rename_i hh;obtain⟨h0,h1,F,h3,hz,m⟩:=hh;simp only [iL,iW]at e;obtain⟨rfl,rfl⟩:=e;have x1:=s n;have x2:=s c;rw [hn]at x1; rw [hcc]at x2;generalize hg1:a.eval n=c1 at x1;generalize hg2:a.eval c=c2 at x2;cases x1; cases x2;obtain⟨hu,i,r,A,hby⟩:=zM hd;obtain⟨i',z,f,q,p⟩:=Zf hz;rw [r]at f; injection f with f; subst f;have k:KRs G (kz P el).cells z.cells:=by rw [p]; exact KRs.of_zero
    have w1:IntKind.i64.wrap li=li:=IntWalk.i64_in _ (by omega);have w2:IntKind.i64.wrap ci=ci:=IntWalk.i64_in _ (by omega);have b:=dY k ci.toNat;rw [m]at b
    refine ⟨.slice (some ⟨w.heap.size,0,none⟩) li.toNat ci.toNat,(Array.range (ci.toNat*N)).map (z.cells[· % z.cells.size]!),el,(jh ci.toNat (kz P el).cells).length, ?_,iP _,by rw [b.1]; exact iP _,b.2,
     fun G' id e1 e2=> .sl (off:=0) (o:=0) e1 (by omega) (by rw [e2,qB,m]; omega) (fun x hx=>by cases hx; rfl)⟩
    have X:¬((i.bytes:Int)*ci>2^48):=by
     have O:(2:Int)^48=281474976710656:=by decide
     rw [<-hby,O]; omega
    have Y:¬(ci<0):=by omega
    have Z:¬(li<0):=by omega
    have hb4:¬(li>ci):=by omega
    simp only [execOp,g,hg1,hg2,Instr.makeSlice,iB,run_underlying hu,iA,asInt,asIntOf,iC,typeInfo,run_program,r,w1,w2];simp only [X,Y,Z,hb4,decide_false,Bool.or_false,iT,if_false,run_askRoom,iA,iB,iC,Bool.or_self,zF r,<-A]
    by_cases K:ci.toNat*N=0
    ·simp only [K,if_true,iB,iC,iA];have he:((Array.range 0).map ((#[]:Array Value)[· % (#[]:Array Value).size]!))=(Array.range 0).map (z.cells[· % z.cells.size]!):=by simp
     rw [he];rfl
    ·simp only [K,if_false,iB,zU r q,iC,iA];rfl
   ·cases e
  ·cases e
 ·cases e
def zbC (f:E.Ok P) {rd:Option Nat} {F:Fence} {n:Nat} {B:xi} {h:KH} {K:Act->World->Prop} {Q:Exit->Act->World->Prop} {o:Oper} {tm:KTm} {cs:List KV} (s:Glob P G) (z:RdR G rd F) (A:∀x∈o.op.operands,KR G (zp E.ng l x) (a.eval x)) (e:kal E l o.op=some (tm,cs))
  (t:∀c C el room,cs.length<=room->room<=C.size->(∀(i:Nat) (v:KV) (x:Value),cs[i]? =some v->C[i]? =some x->KR G v x)->(∀(G':Gh) (id:Nat),G'.at_ id=some (w.heap.size,0)->G'.room id=room->KR G' (tm.at id) c)->K (a.put o.dst c) (w.alloc (.cells C el))):o.wpIn F n P a w K Q:=by
 obtain⟨H,h1,j⟩:=zbs (o:=o) (B:=B) (l:=l) f.ng s A;rw [Wa o.op h1]at e;obtain⟨c,C,el,room,k,m,p,q,r⟩:=sL (w:=w) f j o e;refine⟨fun g _=>z.fn g, ?_⟩;have b:∀d,o.op≠ .defer d:=fun d hd=>by rw [hd]at e; simp [kal]at e
 rw [Oper.semAt_eq _ _ _ b,k];exact t c C el room m p q r
def KDo.reserve {rd:Option Nat} {ng:Nat} {o:Oper} {h h':KH} {v:KV} (k:KDo P ng rd o l h v h') {B:xi} {F:Fence} {n:Nat} {K:Act->World->Prop} {Q:Exit->Act->World->Prop} (R:Nat->Prop) [DecidablePred R] (g:∀b,R b->b<w.heap.size∧UX h G b)
  (p:Glob P G) (r:RdR G rd F) (kr:KRel B G h w) (s:∀x∈o.op.operands,KR G (zp ng l x) (a.eval x))
  (q:∀cv G' w',G.le G'->KR G' v cv->KRel B G' h' w'->(∀b,R b->w'.heap[b]? =w.heap[b]? ∧UX h' G' b)->K (a.put o.dst cv) w'):o.wpIn F n P a w K Q:=
 k (xi.reserve B w R) G w a F n K Q p r (kr.reserve R fun b f=>(g b f).2) s fun cv G' w' i j m=>by
  obtain⟨t,z⟩:=kr.unreserve R (fun b f=>(g b f).1) m;exact q cv G' w' i j t z
end
end Go.K
end
