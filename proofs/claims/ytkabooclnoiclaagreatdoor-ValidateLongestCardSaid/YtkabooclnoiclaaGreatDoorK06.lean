/- Closed runs: a part. No condition beyond each statement's own. -/
import Derived.Test.YtkabooclnoiclaaGreatDoorK05
set_option linter.all false
section
namespace Go.K
open Go.Abs
def YU:List TD→List KV→List KV→Option Bool
 | [],[],[]=>some true
 |d::ds,x::xs,y::ys=>match Bl d x y,YU ds xs ys with|some b,some r=>some (b&&r)|_,_=>none
 |_,_,_=>none
def KI (op:BinOp) (ds:List TD) (x y:KV):Option KV:=
 match ds,x,y with
 | _::_, .agg xs, .agg ys=>match op,YU ds xs ys with
  | .eql,some b=>some (.bool b)
  | .neq,some b=>some (.bool (!b))
  |_,_=>none
 |_,_,_=>none
def kun (op:UnOp) (x:KV):Option KV:=
 match op,x with
 | .neg, .int k n=>some (.int k (k.wrap (0-n)))
 | .xor, .int k n=>(aun .xor (.int k n)).bind Ul
 | .not, .bool b=>some (.bool !b)
 |_,_=>none
def jF (x:KV) (i:Nat):Option KV:=match x with
 | .tuple vs=>vs[i]?
 |_=>none
def pn (x:KV):Option KV:=match x with
 | .ptr a b=>some (.ptr a b)
 | .func (.func f) a b=>some (.func (.func f) a b)
 | .yield id=>some (.yield id)
 | .iface t v=>some (.iface t v)
 |_=>none
def Wb (T:TypeId→TI) (Z:TypeId→KV) (x:KV) (asserted:TypeId) (ok:Bool):Option KV:=
 if(T asserted).ok=true∧(T asserted).d≠ .iface∧(T asserted).d≠ .other then
 match x with
 | .iface t v=>bif Nat.beq t asserted then some (pI ok v true)else(if ok=true∧(T asserted).zok=true then some (pI true (Z asserted) false)else none)
 | .niliface=>if ok=true∧(T asserted).zok=true then some (pI true (Z asserted) false)else none
 |_=>none
 else none
section
variable {P:Program} {B:zJ} {G:Gh} {h:KH} {w:World} {fr:KFr} {a:Act}
theorem B0 {d:TD} {x y:KV} {ca cb:Value} (hx:KR G x ca) (hy:KR G y cb) {r:Bool} (e:Bl d x y=some r):lL d (V.ofCell ca) (V.ofCell cb)=some r:=by
 unfold Bl at e
 split at e
 ·cases hx; cases hy; exact e
 ·cases hx; cases hy
  rename_i s u
  rw [JV]at e
  exact e
 ·cases hx; cases hy; exact e
 ·cases e
theorem Xa:∀ {ds:List TD} {xs ys:List KV} {ca cb:List Value} {r:Bool},xs.length=ca.length→ys.length=cb.length→(∀(i:Nat) v c,xs[i]? =some v→ca[i]? =some c→KR G v c) →
  (∀(i:Nat) v c,ys[i]? =some v→cb[i]? =some c→KR G v c)→YU ds xs ys=some r→pM ds (ca.map V.ofCell) (cb.map V.ofCell)=some r
 | [],[],[],[],[],r,_,_,_,_,e=>by simpa [YU,pM] using e
 | d::ds,x::xs,y::ys,a::ca,b::cb,r,l1,l2,h1,h2,e=>by
  simp only [YU]at e
  split at e
  ·rename_i q s hq hs
   injection e with e; subst e
   have e1:=B0 (h1 0 x a rfl rfl) (h2 0 y b rfl rfl) hq
   have e2:=Xa (by simpa using l1) (by simpa using l2) (fun i v c hv hc=>h1 (i+1) v c hv hc) (fun i v c hv hc=>h2 (i+1) v c hv hc) hs
   simp only [List.map_cons,pM,e1,e2]
  ·cases e
 | [],[],[],[],_::_,_,_,l2,_,_,_=>by simp at l2
 | [],[],[],_::_,_,_,l1,_,_,_,_=>by simp at l1
 | [],_::_,_,_,_,_,_,_,_,_,e=>by simp [YU]at e
 | [],[],_::_,_,_,_,_,_,_,_,e=>by simp [YU]at e
 |_::_,[],_,_,_,_,_,_,_,_,e=>by simp [YU]at e
 |_::_,_::_,[],_,_,_,_,_,_,_,e=>by simp [YU]at e
 |_::_,_::_,_::_,[],_,_,l1,_,_,_,_=>by simp at l1
 |_::_,_::_,_::_,_::_,[],_,_,l2,_,_,_=>by simp at l2
def G0:Abs.Gh:=⟨fun _ _=>none,fun _=>none,fun _ _=>none,fun _=>0⟩
theorem Bv (op:BinOp) {t:TypeId} {x y v:KV} {a b:Value} (hx:KR G x a) (hy:KR G y b) (e:KI op (ti P t).eqs x y=some v) (ox oy:Operand):
  ∃c,(do eqGuard op t ox oy a b; binOp op t a b:Sem Value).run P w= .ok c w∧KR G v c:=by
 unfold KI at e
 split at e
 ·rename_i e0 er xs ys heq
  cases hx with
  | agg l1 h1=>
   rename_i ca
   cases hy with
   | agg l2 h2=>
    rename_i cb
    have key:∀r,YU (e0::er) xs ys=some r→pM (e0::er) (ca.toList.map V.ofCell) (cb.toList.map V.ofCell)=some r:=fun r hr=>
     Xa (by simpa using l1) (by simpa using l2) (fun i v c hv hc=>h1 i v c hv (by simpa using hc)) (fun i v c hv hc=>h2 i v c hv (by simpa using hc)) hr
    have va:VR G0 (.agg (ca.toList.map V.ofCell)) (.agg ca):= .agg (VRs.ofCells G0 ca).1 (VRs.ofCells G0 ca).2
    have vb:VR G0 (.agg (cb.toList.map V.ofCell)) (.agg cb):= .agg (VRs.ofCells G0 cb).1 (VRs.ofCells G0 cb).2
    have fin:∀u,Z0 op (ti P t).eqs (.agg (ca.toList.map V.ofCell)) (.agg (cb.toList.map V.ofCell))=some u→Ul u=some v→∃c,(do eqGuard op t ox oy (.agg ca) (.agg cb); binOp op t (.agg ca) (.agg cb):Sem Value).run P w= .ok c w∧KR G v c:=fun u hu hs=>by
     obtain⟨c,c1,c2,_⟩:=XP (P:=P) (G:=G0) (w:=w) (st:=⟨[],[]⟩) op va vb hu ox oy
     exact⟨c,c1,pW c2 hs⟩
    split at e
    ·rename_i r hr
     injection e with e; subst e
     rw [heq]at hr
     exact fin (.bool r) (by rw [heq]; simp only [Z0,key r hr]) rfl
    ·rename_i r hr
     injection e with e; subst e
     rw [heq]at hr
     exact fin (.bool (!r)) (by rw [heq]; simp only [Z0,key r hr]) rfl
    ·cases e
 ·cases e
theorem lw {op:UnOp} {x v:KV} {a:Value} (hx:KR G x a) (e:kun op x=some v):∃c,(Op.unary op a).run P w= .ok c w∧KR G v c:=by
 unfold kun at e
 split at e
 ·cases hx; injection e with e; subst e
  exact⟨_,by simp [Op.unary,Op.intArith], .int _ _⟩
 ·rename_i k n
  cases hx
  obtain⟨u,h1,h2⟩:=Option.bind_eq_some_iff.1 e
  obtain⟨c,c1,c2,_⟩:=Bc (P:=P) (w:=w) (G:=G0) (st:=⟨[],[]⟩) (.int k n) h1
  exact⟨c,c1,pW c2 h2⟩
 ·cases hx; injection e with e; subst e
  exact⟨_,by simp [Op.unary], .bool _⟩
 ·cases e
theorem Ww (r:KRel B G h w) {x v:KV} {c:Value} {i:Nat} (hx:KR G x c) (e:jF x i=some v):KS P B G w (Instr.extract c i) v h:=by
 unfold jF at e
 split at e
 ·cases hx with
  | tuple l1 h1=>
   rename_i vs ca
   have hi:i<ca.size:=by rw [←l1]; exact yo e
   refine .same r (c:=ca[i]) ?_ (h1 i v _ e (by simp [hi]))
   simp [Instr.extract,hi]
 ·cases e
theorem Vr (r:KRel B G h w) {x v:KV} {c:Value} {xt asT:TypeId} {ok:Bool} (hx:KR G x c) (e:Wb (ti P) (kz P) x asT ok=some v):KS P B G w (Instr.typeAssert c xt asT ok) v h:=by
 unfold Wb at e
 split at e
 ·rename_i hc
  obtain⟨hok,hni,hno⟩:=hc
  obtain⟨d,hu,htd⟩:=Ve (P:=P) (t:=asT) rfl hno
  have hd:∀ms,d≠ .interface ms:=fun ms hh=>by subst hh; rw [←htd]at hni; simp [tiD]at hni
  have miss:ok=true∧(ti P asT).zok=true→∀ {cc:Value},cc= .nilIface∨(∃t x,cc= .iface t x∧t≠asT)→(Instr.typeAssert cc xt asT ok).run P w= .ok (.tuple #[(match P.info? asT with|some i=>(match i.zero with|some z=>z|none=>undef)|none=>undef), .bool false]) w:=by
   intro⟨h1,h2⟩ cc hcc
   obtain⟨i,z,hi,hzz,_⟩:=qU h2
   rw [hi]; simp only [hzz]
   rcases hcc with rfl|⟨t,x,rfl,hne⟩
   ·cases d<;>first|(exact absurd rfl (hd _))|simp [Instr.typeAssert,run_underlying hu,h1,zp hi hzz]
   ·cases d<;>first|(exact absurd rfl (hd _))|simp [Instr.typeAssert,run_underlying hu,h1,zp hi hzz,hne]
  have missv:(ti P asT).zok=true→KR G (pI true (kz P asT) false) (.tuple #[(match P.info? asT with|some i=>(match i.zero with|some z=>z|none=>undef)|none=>undef), .bool false]):=by
   intro h2
   obtain⟨i,z,hi,hzz,hzv⟩:=qU h2
   rw [hi]; simp only [hzz]
   rw [hzv]
   exact qN (KR.of z) true false
  split at e
  ·rename_i t u
   cases hx with
   | iface hu'=>
    rename_i cu
    rw [wt,Bool.cond_decide]at e
    split at e
    ·rename_i ht
     subst ht
     injection e with e; subst e
     refine .same r (c:=if ok then .tuple #[cu, .bool true]else cu) ?_ (qN hu' ok true)
     cases d<;>first|(exact absurd rfl (hd _))|simp [Instr.typeAssert,run_underlying hu]
    ·rename_i ht
     split at e
     ·rename_i hcc
      injection e with e; subst e
      exact .same r (miss hcc (.inr ⟨t,cu,rfl,ht⟩)) (missv hcc.2)
     ·cases e
  ·cases hx
   split at e
   ·rename_i hcc
    injection e with e; subst e
    exact .same r (miss hcc (.inl rfl)) (missv hcc.2)
   ·cases e
  ·cases e
 ·cases e
end
def ka (P:Program) (t:TypeId):Option TypeId:=match P.underlying t with
 |some (.array _ e)=>some e
 |_=>none
def gV (T:TypeId→TI) (a:Option TypeId) (d:TD) (x:KV) (i:Int):Option KV:=
 match d,x,a with
 | .arr n _, .agg cs,some e=>if 0≤i∧i<n∧(T e).ok=true∧(T e).d≠ .other then krd cs (i.toNat*(T e).sz) (T e).sz (T e).d.agg else none
 |_,_,_=>none
def JS (h:KH) (it:KV):Option KV:=match it with
 | .ptr id 0=>match h.get id with
  | some (.mit (some m) _ seen last)=>match h.get m,seen.getLast? with
   | some (.map es clk),some b=>if clk=last then(match wT b es 0 with
    |some i=>match es[i]? with|some e=>some (.tuple [e.1,e.2.1])|none=>none
    |none=>none)else none
   |_,_=>none
  |_=>none
 |_=>none
def eK (x y:KV):Option KV:=match x,y with
 | .int k a, .int _ b=>some (.int k (if b<a then b else a))
 |_,_=>none
def P6 (x y:KV):Option KV:=match x,y with
 | .int k a, .int _ b=>some (.int k (if b>a then b else a))
 |_,_=>none
section
variable {P:Program} {B:zJ} {G:Gh} {h:KH} {w:World}
theorem Un (r:KRel B G h w) {t:TypeId} {x v:KV} {c:Value} {k:IntKind} {i:Int} (hx:KR G x c) (e:gV (ti P) (ka P t) (ti P t).d x i=some v):KS P B G w (Instr.index t c (.int k i)) v h:=by
 unfold gV at e
 split at e
 ·rename_i n _ cs el hd ha
  split at e
  ·rename_i hh
   obtain⟨h0,hn,hok,hne⟩:=hh
   obtain⟨el',i',hu,hi',_⟩:=qw hd
   have:el'=el:=by
    unfold ka at ha
    rw [hu]at ha
    simpa using ha
   subst this
   obtain⟨inf,d,hi,hdd,hsz,htd⟩:=qc hok
   have hag:(ti P el').d.agg=ja d:=by rw [htd]at hne ⊢; exact jj hne
   cases hx with
   | @agg _ ca hl hr=>
    simp only [krd]at e
    by_cases ha:(ti P el').d.agg=true
    ·simp only [ha,if_true]at e
     split at e
     ·rename_i hlen
      injection e with e; subst e
      have hlen2:=hlen
      simp only [List.length_take,List.length_drop]at hlen
      refine .same r (c:= .agg (ca.extract (i.toNat*inf.size) (i.toNat*inf.size+inf.size))) ?_ ?_
      ·simp only [Instr.index,asIntOf,iB,iC,run_underlying hu,iA,h0,hn,and_self,if_true,zk hi,part,xx hdd,←hag,ha]
      ·by_cases hz:inf.size=0
       ·refine .agg (by rw [hlen2,hsz,hz]; simp) ?_
        intro j u y hu' hy
        rw [List.getElem?_eq_none (by rw [hlen2,hsz,hz]; omega)]at hu'; cases hu'
       ·have hle:i.toNat*inf.size+inf.size≤ca.size:=by rw [←hl]; rw [hsz]at hlen; omega
        refine .agg (by rw [hlen2,hsz]; simp; omega) ?_
        intro j u y hu' hy
        have hj:j<inf.size:=by
         rcases Nat.lt_or_ge j inf.size with h'|h'
         ·exact h'
         ·rw [List.getElem?_eq_none (by rw [hlen2,hsz]; exact h')]at hu'; cases hu'
        rw [q6 _ _ _ _ hj hle]at hy
        rw [hsz,List.getElem?_take,if_pos hj,List.getElem?_drop]at hu'
        exact hr _ u y hu' hy
     ·cases e
    ·have ha':(ti P el').d.agg=false:=by simpa using ha
     simp only [ha',if_false,Bool.false_eq_true]at e
     rw [hsz]at e
     have hlt:i.toNat*inf.size<ca.size:=by rw [←hl]; exact yo e
     refine .same r (c:=ca[i.toNat*inf.size]) ?_ (hr _ v _ e (by simp [hlt]))
     simp only [Instr.index,asIntOf,iB,iC,run_underlying hu,iA,h0,hn,and_self,if_true,zk hi,part,xx hdd,←hag,ha',Bool.false_eq_true,if_false]
     have:ca[i.toNat*inf.size]? =some ca[i.toNat*inf.size]:=by simp [hlt]
     rw [this]; rfl
  ·cases e
 ·cases e
theorem gR:∀ {es:List (KV×KV×Nat)} {r:List MapEntry} (b i:Nat) {k:Nat},KEs G es r→wT b es i=some k→∃j e m,k=i+j∧es[j]? =some e∧r.find? (fun x=>x.born==b)=some m∧KR G e.1 m.key∧KR G e.2.1 m.val
 | [],_,b,i,k,_,e=>by simp [wT]at e
 | (kk,vv,c)::es,r,b,i,k,hr,e=>by
  cases hr with
  | @cons _ _ _ ck cv _ r' h1 h2 h3=>
   simp only [wT,wt,Bool.cond_decide]at e
   by_cases hc:c=b
   ·rw [if_pos hc]at e; injection e with e; subst e
    exact⟨0,_,⟨ck,cv,c⟩,rfl,rfl,by simp [hc],h1,h2⟩
   ·rw [if_neg hc]at e
    obtain⟨j,x,m,e1,e2,e3,e4⟩:=gR b (i+1) h3 e
    exact⟨j+1,x,m,by omega,by simpa using e2,by simpa [hc] using e3,e4⟩
theorem Jg (r:KRel B G h w) {it v:KV} {c:Value} (hx:KR G it c) (e:JS h it=some v):KS P B G w (Instr.entry c) v h:=by
 unfold JS at e
 split at e
 ·rename_i id
  split at e
  ·rename_i m since seen last hg
   split at e
   ·rename_i es clk b hm hb
    split at e
    ·rename_i hclk
     split at e
     ·rename_i i hi
      split at e
      ·rename_i en hen
       injection e with e; subst e
       cases hx with
       | ptr ha=>
        rename_i bb o
        obtain⟨b',k,ob,e1,_,e3,e4⟩:=r.blk _ _ hg
        rw [ha]at e1; cases e1
        cases e4 with
        | mit hz hmm=>
         rename_i cm
         subst hz
         obtain⟨mb,mk,mob,m1,_,m3,m4⟩:=r.blk _ _ hm
         rcases hmm with⟨h1,_⟩|⟨i',b',k',h1,h2,h3⟩
         ·cases h1
         ·injection h1 with h1; subst h1
          rw [h3]at m1; injection m1 with m1; injection m1 with m1 m1'; subst m1 m1'
          subst h2
          cases m4 with
          | @map _ ent _ hes=>
           obtain⟨j,x,mm,q1,q2,q3,q4,q5⟩:=gR b 0 hes hi
           rw [Nat.zero_add]at q1
           subst q1
           rw [hen]at q2; injection q2 with q2; subst q2
           have g1:(getObj bb).run P w= .ok (.mapIter (some b') since seen.toArray last) w:=by simp [getObj,Sem.run,e3]
           have g2:(getObj b').run P w= .ok (.map ent clk) w:=by simp [getObj,Sem.run,m3]
           have hback:seen.toArray.back? =some b:=by rw [List.back?_toArray]; exact hb
           have hf:ent.find? (fun x=>x.born==b)=some mm:=by rw [←Array.find?_toList]; exact q3
           refine .same r (c:= .tuple #[mm.key,mm.val]) ?_ ?_
           ·simp only [Instr.entry,Nat.add_zero,iB,g1,iA,hback,g2,hclk,bne_self_eq_false,Bool.false_eq_true,if_false,hf,iC]
           ·refine .tuple rfl ?_
            intro i u y hu hy
            match i with
            |0=>simp at hu hy; subst hu hy; exact q4
            |1=>simp at hu hy; subst hu hy; exact q5
            |i+2=>simp at hu
      ·cases e
     ·cases e
    ·cases e
   ·cases e
  ·cases e
 ·cases e
theorem BA (r:KRel B G h w) {x y v:KV} {c d:Value} {tys:Array TypeId} {ty:TypeId} (hx:KR G x c) (hy:KR G y d) (e:eK x y=some v):KS P B G w (Builtin.min_ tys ty #[c,d]) v h:=by
 unfold eK at e
 split at e
 ·injection e with e; subst e
  cases hx; cases hy
  exact .same r (c:= .int _ _) (by simp [Builtin.min_,Builtin.min2]) (.int _ _)
 ·cases e
theorem BT (r:KRel B G h w) {x y v:KV} {c d:Value} {tys:Array TypeId} {ty:TypeId} (hx:KR G x c) (hy:KR G y d) (e:P6 x y=some v):KS P B G w (Builtin.max_ tys ty #[c,d]) v h:=by
 unfold P6 at e
 split at e
 ·injection e with e; subst e
  cases hx; cases hy
  exact .same r (c:= .int _ _) (by simp [Builtin.max_,Builtin.max2]) (.int _ _)
 ·cases e
end
structure KE where
 T:TypeId→TI
 Z:TypeId→KV
 ng:Nat
 A:TypeId→Option TypeId
structure KE.Ok (P:Program) (E:KE):Prop where
 T:E.T=ti P
 Z:E.Z=kz P
 ng:E.ng≤P.globals.size
 A:E.A=ka P
def xZ (ev:Operand→KV) (ps:Array (Nat×Operand)):List (Nat×KV):=ps.toList.map fun p=>(p.1,ev p.2)
def ur (E:KE) (h:KH) (b:Builtin) (ts:List TypeId) (args:List KV):Option (KV×KH):=
 match b,ts,args with
 | .len,[t],[x]=>match(E.T t).d with
  | .map _ _=>(WV h x).map fun v=>(v,h)
  |d=>(Ju d x).map fun v=>(v,h)
 | .append,[t,tx],[s,x]=>jM h E.T (E.T t).d (E.T tx).d s x
 | .copy,[t,tx],[s,x]=>Z7 h (E.T t).d (E.T tx).d s x
 | .clear,[t],[x]=>match(E.T t).d with
  | .map _ _=>(dl h x).map fun h=>(.tuple [],h)
  |_=>none
 | .min,_,[x,y]=>(eK x y).map fun v=>(v,h)
 | .max,_,[x,y]=>(P6 x y).map fun v=>(v,h)
 |_,_,_=>none
def XH (E:KE) (t:TypeId) (x:KV) (i:Int):Option KV:=match bG (E.T t).d x i with
 |some v=>some v
 |none=>gV E.T (E.A t) (E.T t).d x i
def zu (E:KE) (l:Sl) (h:KH):Op→Option (KV×KH)
 | .move x| .assign x=>some (zg E.ng l x,h)
 | .pick c a b=>match zg E.ng l c with| .bool t=>some (if t then zg E.ng l a else zg E.ng l b,h)|_=>none
 | .alloc e=>if(E.T e).zok=true∧KV.isCells (E.Z e).cells=true∧yw h=true then some (.ptr h.next 0,h.push (.cells false (E.Z e).cells))else none
 | .box _ x=>if KV.isCells (zg E.ng l x).cells=true∧yw h=true then some (.ptr h.next 0,h.push (.cells false (zg E.ng l x).cells))else none
 | .build t ps=>(ZO (E.T t) (E.Z t) (xZ (zg E.ng l) ps)).map fun v=>(v,h)
 | .buildSlice t len ps=>vK h E.T E.Z (E.T t).d len (xZ (zg E.ng l) ps)
 | .load t a=>if(E.T t).ok=true∧(E.T t).d≠ .other then(qf h (zg E.ng l a) (E.T t).sz (E.T t).d.agg).map fun v=>(v,h)else none
 | .store t a x=>if(E.T t).ok=true then(pe h (zg E.ng l a) (zg E.ng l x) (E.T t).sz).map fun h=>(.tuple [],h)else none
 | .nilCheck x=>(pn (zg E.ng l x)).map fun v=>(v,h)
 | .binOp op xt x y _=>if(E.T xt).d≠ .other then(match WE op (E.T xt).d (zg E.ng l x) (zg E.ng l y)with
  |some v=>some (v,h)
  |none=>(KI op (E.T xt).eqs (zg E.ng l x) (zg E.ng l y)).map fun v=>(v,h))else none
 | .unOp op _ x=>(kun op (zg E.ng l x)).map fun v=>(v,h)
 | .convert s d x=>vV h E.T s d (zg E.ng l x)
 | .makeInterface t x=>if(E.T t).ok=true∧(E.T t).d≠ .iface then some (.iface t (zg E.ng l x),h)else none
 | .makeFunc fn first captured=>some (.func fn (first.toList.map (zg E.ng l)) (captured.toList.map (zg E.ng l)),h)
 | .makeMap t r=>if yw h=true then(match r with
  |none=>some (.map h.next,h.push (.map [] 0))
  | some x=>match(E.T t).d,zg E.ng l x with
   | .map _ _, .int _ _=>some (.map h.next,h.push (.map [] 0))
   |_,_=>none)else none
 | .makeSlice t n c=>Yf h E.T E.Z (E.T t).d (zg E.ng l n) (zg E.ng l c)
 | .slice t x lo hi mx=>(JA h.size (E.T t).d (zg E.ng l x) (lo.map (zg E.ng l)) (hi.map (zg E.ng l)) (mx.map (zg E.ng l))).map fun v=>(v,h)
 | .fieldAddr s x f=>(vk (E.T s).d (zg E.ng l x) f).map fun v=>(v,h)
 | .field s x f=>(j8 (E.T s) E.T (zg E.ng l x) f).map fun v=>(v,h)
 | .indexAddr t x i=>match zg E.ng l i with| .int _ i=>(w8 (E.T t).d (zg E.ng l x) i).map fun v=>(v,h)|_=>none
 | .index t x i=>match zg E.ng l i with| .int _ i=>(XH E t (zg E.ng l x) i).map fun v=>(v,h)|_=>none
 | .entry it=>(JS h (zg E.ng l it)).map fun v=>(v,h)
 | .lookup t m k ok=>(Wa h E.T E.Z (E.T t).d (zg E.ng l m) (zg E.ng l k) ok).map fun v=>(v,h)
 | .mapUpdate t m k x| .insert t m k x=>(wv h E.T (E.T t).d (zg E.ng l m) (zg E.ng l k) (zg E.ng l x)).map fun h=>(.tuple [],h)
 | .mapEntry t m k=>ub h E.T E.Z (E.T t).d (zg E.ng l m) (zg E.ng l k)
 | .entryStore _ m s x=>(wE h (zg E.ng l m) (zg E.ng l s) (zg E.ng l x)).map fun h=>(.tuple [],h)
 | .range t x=>pG h (E.T t).d (zg E.ng l x)
 | .next it s=>qH h (zg E.ng l it) s
 | .typeAssert x _ asT ok=>(Wb E.T E.Z (zg E.ng l x) asT ok).map fun v=>(v,h)
 | .extract x i=>(jF (zg E.ng l x) i).map fun v=>(v,h)
 | .call ⟨.builtin b,args,tys⟩=>ur E h b tys.toList (args.toList.map (zg E.ng l))
 |_=>none
def xK (P:Program) (B:zJ) (G:Gh) (w:World) (a:Act) (o:Oper) (v:KV) (h':KH):Prop:=
 ∃c w' G',((execOp a.eval o).run P w= .ok (.value c) w'∨((execOp a.eval o).run P w= .ok .skip w'∧c=undef))∧G.le G'∧KR G' v c∧KRel B G' h' w'
section
variable {P:Program} {E:KE} {B:zJ} {G:Gh} {h:KH} {w:World} {fr:KFr} {a:Act}
theorem xK.of {o:Oper} {s:Sem Value} {v:KV} {h':KH} (k:KS P B G w s v h') (he:execOp a.eval o=(do pure (.value (←s)))):xK P B G w a o v h':=by
 obtain⟨c,w',G',h1,h2⟩:=k
 exact⟨c,w',G', .inl (by rw [he]; simp only [iB,h1,iA,iC]),h2⟩
theorem xK.ofU {o:Oper} {s:Sem Unit} {h':KH} (k:∃w',s.run P w= .ok () w'∧KRel B G h' w') (he:execOp a.eval o=(do s; pure .skip)):xK P B G w a o (.tuple []) h':=by
 obtain⟨w',h1,h2⟩:=k
 exact⟨undef,w',G, .inr ⟨by rw [he]; simp only [iB,h1,iA,iC],rfl⟩, .refl _, .tuple rfl (by simp),h2⟩
theorem xK.val {o:Oper} {v:KV} {c:Value} (r:KRel B G h w) (hv:KR G v c) (he:execOp a.eval o=pure (.value c)):xK P B G w a o v h:=
 ⟨c,w,G, .inl (by rw [he]; rfl), .refl _,hv,r⟩
theorem bA (hev:∀x,KR G (zg E.ng fr.l x) (a.eval x)) (ps:Array (Nat×Operand)):
  (xZ (zg E.ng fr.l) ps).length=(ps.map fun(i,x)=>(i,a.eval x)).size∧∀(j:Nat) i v i' x,(xZ (zg E.ng fr.l) ps)[j]? =some (i,v)→(ps.map fun(i,x)=>(i,a.eval x))[j]? =some (i',x)→i=i'∧KR G v x:=by
 refine⟨by simp [xZ], ?_⟩
 intro j i v i' x h1 h2
 simp only [xZ,List.getElem?_map,Array.getElem?_toList,Array.getElem?_map]at h1 h2
 cases hq:ps[j]? with
 |none=>rw [hq]at h1; cases h1
 | some q=>
  rw [hq]at h1 h2
  simp only [Option.map_some,Option.some.injEq,Prod.mk.injEq]at h1 h2
  obtain⟨rfl,rfl⟩:=h1
  obtain⟨rfl,rfl⟩:=h2
  exact⟨rfl,hev _⟩
theorem jy (hev:∀x,KR G (zg E.ng fr.l x) (a.eval x)) (ps:Array Operand):KRs G (ps.toList.map (zg E.ng fr.l)) (ps.map a.eval):=by
 refine⟨by simp, ?_⟩
 intro j v c h1 h2
 simp only [List.getElem?_map,Array.getElem?_toList,Array.getElem?_map]at h1 h2
 cases hq:ps[j]? with
 |none=>rw [hq]at h1; cases h1
 | some q=>
  rw [hq]at h1 h2
  simp only [Option.map_some,Option.some.injEq]at h1 h2
  subst h1 h2
  exact hev _
theorem go (hev:∀x,KR G (zg E.ng fr.l x) (a.eval x)) (x:Option Operand):KO' G (x.map (zg E.ng fr.l)) (x.map a.eval):=by
 cases x with
 |none=>exact .none
 |some x=>exact .some (hev x)
theorem WJ (hE:E.Ok P) (r:KRel B G h w) {b:Builtin} {tys:Array TypeId} {args:List KV} {cargs:Array Value} {ty:TypeId} {cs:Array Bool} {v:KV} {h':KH} (ha:KRs G args cargs) (e:ur E h b tys.toList args=some (v,h')):
  ∃s,(builtin b tys ty cs cargs)=(do pure (.value (←s)))∧KS P B G w s v h':=by
 have hT:=hE.T
 have two:∀ {x y:KV},args= [x,y]→∃c d,cargs= #[c,d]∧KR G x c∧KR G y d:=by
  intro x y hh
  subst hh
  have hs:cargs.size=2:=by have:=ha.1; simpa using this.symm
  obtain⟨l⟩:=cargs
  match l,hs with
  | [c,d],_=>exact⟨c,d,rfl,ha.2 0 x c rfl rfl,ha.2 1 y d rfl rfl⟩
 have one:∀ {x:KV},args= [x]→∃c,cargs= #[c]∧KR G x c:=by
  intro x hh
  subst hh
  have hs:cargs.size=1:=by have:=ha.1; simpa using this.symm
  obtain⟨l⟩:=cargs
  match l,hs with
  | [c],_=>exact⟨c,rfl,ha.2 0 x c rfl rfl⟩
 have t1:∀ {t:TypeId},tys.toList= [t]→tys= #[t]:=fun {t} hh=>by apply Array.ext'; simpa using hh
 have t2:∀ {t u:TypeId},tys.toList= [t,u]→tys= #[t,u]:=fun {t u} hh=>by apply Array.ext'; simpa using hh
 unfold ur at e
 split at e
 ·rename_i t x ht
  obtain rfl:=t1 ht
  obtain⟨c,rfl,hc⟩:=one rfl
  rw [hT]at e
  split at e
  ·rename_i kt et hd
   obtain⟨u,hu,he⟩:=Option.map_eq_some_iff.1 e
   simp only [Prod.mk.injEq]at he
   obtain⟨rfl,rfl⟩:=he
   exact⟨_,rfl,VD (ty:=ty) r hd hc hu⟩
  ·obtain⟨u,hu,he⟩:=Option.map_eq_some_iff.1 e
   simp only [Prod.mk.injEq]at he
   obtain⟨rfl,rfl⟩:=he
   exact⟨_,rfl,Dp (ty:=ty) r hc hu⟩
 ·rename_i t tx s x ht
  obtain rfl:=t2 ht
  obtain⟨c,d,rfl,hc,hd⟩:=two rfl
  rw [hT]at e
  exact⟨_,rfl,Vy (ty:=ty) r hc hd e⟩
 ·rename_i t tx s x ht
  obtain rfl:=t2 ht
  obtain⟨c,d,rfl,hc,hd⟩:=two rfl
  rw [hT]at e
  exact⟨_,rfl,BU (ty:=ty) r hc hd e⟩
 ·rename_i t x ht
  obtain rfl:=t1 ht
  obtain⟨c,rfl,hc⟩:=one rfl
  rw [hT]at e
  split at e
  ·rename_i kt et hd
   obtain⟨u,hu,he⟩:=Option.map_eq_some_iff.1 e
   simp only [Prod.mk.injEq]at he
   obtain⟨rfl,rfl⟩:=he
   exact⟨_,rfl,Ql (ty:=ty) r hd hc hu⟩
  ·cases e
 ·obtain⟨c,d,rfl,hc,hd⟩:=two rfl
  obtain⟨u,hu,he⟩:=Option.map_eq_some_iff.1 e
  simp only [Prod.mk.injEq]at he
  obtain⟨rfl,rfl⟩:=he
  exact⟨_,rfl,BA r hc hd hu⟩
 ·obtain⟨c,d,rfl,hc,hd⟩:=two rfl
  obtain⟨u,hu,he⟩:=Option.map_eq_some_iff.1 e
  simp only [Prod.mk.injEq]at he
  obtain⟨rfl,rfl⟩:=he
  exact⟨_,rfl,BT r hc hd hu⟩
 ·cases e
end
section
variable {P:Program} {E:KE} {B:zJ} {G:Gh} {h:KH} {w:World} {fr:KFr} {a:Act}
theorem bM {α:Type} {x:Option α} {h h':KH} {v:α} (e:(x.map fun v=>(v,h))=some (v,h')):x=some v∧h'=h:=by
 obtain⟨u,hu,he⟩:=Option.map_eq_some_iff.1 e
 simp only [Prod.mk.injEq]at he
 obtain⟨rfl,rfl⟩:=he
 exact⟨hu,rfl⟩
theorem fD {x:Option KH} {h':KH} {u v:KV} (e:(x.map fun h=>(u,h))=some (v,h')):x=some h'∧v=u:=by
 obtain⟨q,hu,he⟩:=Option.map_eq_some_iff.1 e
 simp only [Prod.mk.injEq]at he
 obtain⟨rfl,rfl⟩:=he
 exact⟨hu,rfl⟩
theorem UN (hk:yw h=true):h.next+1<65000:=by simpa [yw,zL] using hk
theorem YS {x v:KV} {c:Value} (hx:KR G x c) (e:pn x=some v):KR G v c∧(∀b:Bool,c≠ .pointer none)∧c≠ .nilIface∧c≠ .nilFunc∧(∀n f q,c≠ .func (.method n) f q):=by
 unfold pn at e
 split at e
 ·injection e with e; subst e
  cases hx with|ptr ha=>exact⟨.ptr ha,by simp,by simp,by simp,by simp⟩
 ·injection e with e; subst e
  cases hx with|func a b c d=>exact⟨.func a b c d,by simp,by simp,by simp,by simp⟩
 ·injection e with e; subst e
  cases hx with|yield a=>exact⟨.yield a,by simp,by simp,by simp,by simp⟩
 ·injection e with e; subst e
  cases hx with|iface a=>exact⟨.iface a,by simp,by simp,by simp,by simp⟩
 ·cases e
theorem QB (hE:E.Ok P) (r:KRel B G h w) (hev:∀x,KR G (zg E.ng fr.l x) (a.eval x)) (o:Oper) {v:KV} {h':KH} (e:zu E fr.l h o.op=some (v,h')):xK P B G w a o v h':=by
 have hT:=hE.T
 have hZ:=hE.Z
 cases hop:o.op with
 |move x=>rw [hop]at e; simp only [zu,Option.some.injEq,Prod.mk.injEq]at e; obtain⟨rfl,rfl⟩:=e; exact .val r (hev x) (by simp only [execOp,hop])
 |assign x=>rw [hop]at e; simp only [zu,Option.some.injEq,Prod.mk.injEq]at e; obtain⟨rfl,rfl⟩:=e; exact .val r (hev x) (by simp only [execOp,hop])
 | pick c x y=>
  rw [hop]at e; simp only [zu]at e
  split at e
  ·rename_i t ht
   simp only [Option.some.injEq,Prod.mk.injEq]at e; obtain⟨rfl,rfl⟩:=e
   have hc:=hev c
   rw [ht]at hc
   generalize hcc:a.eval c=cc at hc
   cases hc
   refine⟨if t then a.eval x else a.eval y,w,G, .inl ?_, .refl _, ?_,r⟩
   ·simp only [execOp,hop,hcc,asBool,iB,iC,iA]
   ·cases t
    ·exact hev y
    ·exact hev x
  ·cases e
 | alloc t=>
  rw [hop]at e; simp only [zu]at e
  split at e
  ·rename_i hc
   obtain⟨h1,h2,h3⟩:=hc
   simp only [Option.some.injEq,Prod.mk.injEq]at e; obtain⟨rfl,rfl⟩:=e
   rw [hT]at h1; rw [hZ]at h2 ⊢
   obtain⟨i,z,hi,hzz,hzv⟩:=qU h1
   have hk:=VG (P:=P) r (UN h3) (t:=t) (v:=kz P t) (x:=z) (by rw [hzv]; exact KR.of z) h2
   obtain⟨c,w',G',k1,k2⟩:=hk
   refine xK.of (s:=Instr.alloc t true (.tuple #[])) ⟨c,w',G', ?_,k2⟩ (by simp only [execOp,hop])
   simp only [Instr.alloc,iB,zp hi hzz,iA]
   simpa only [iB] using k1
  ·cases e
 | box t x=>
  rw [hop]at e; simp only [zu]at e
  split at e
  ·rename_i hc
   obtain⟨h2,h3⟩:=hc
   simp only [Option.some.injEq,Prod.mk.injEq]at e; obtain⟨rfl,rfl⟩:=e
   exact xK.of (s:=Instr.box t (a.eval x)) (VG (P:=P) r (UN h3) (hev x) h2) (by simp only [execOp,hop])
  ·cases e
 | build t ps=>
  rw [hop]at e; simp only [zu]at e
  obtain⟨e1,rfl⟩:=bM e; clear e; have e:=e1; clear e1
  rw [hT,hZ]at e
  obtain⟨p1,p2⟩:=bA (E:=E) hev ps
  exact xK.of (Qx r p1 p2 e) (by simp only [execOp,hop])
 | buildSlice t len ps=>
  rw [hop]at e; simp only [zu]at e
  rw [hT,hZ]at e
  obtain⟨p1,p2⟩:=bA (E:=E) hev ps
  exact xK.of (pK r p1 p2 e) (by simp only [execOp,hop])
 | load t x=>
  rw [hop]at e; simp only [zu]at e
  split at e
  ·rename_i hc
   obtain⟨e1,rfl⟩:=bM e; clear e; have e:=e1; clear e1
   rw [hT]at e hc
   exact xK.of (BS r hc.1 hc.2 (hev x) e) (by simp only [execOp,hop])
  ·cases e
 | store t x y=>
  rw [hop]at e; simp only [zu]at e
  split at e
  ·rename_i hc
   obtain⟨e1,rfl⟩:=fD e; clear e; have e:=e1; clear e1
   rw [hT]at e hc
   exact xK.ofU (Qy r hc (hev x) (hev y) e) (by simp only [execOp,hop])
  ·cases e
 | nilCheck x=>
  rw [hop]at e; simp only [zu]at e
  obtain⟨e1,rfl⟩:=bM e; clear e; have e:=e1; clear e1
  obtain⟨k1,k2,k3,k4,k5⟩:=YS (hev x) e
  refine .val r k1 ?_
  simp only [execOp,hop]
  generalize a.eval x=c at k2 k3 k4 k5
  split
  ·exact absurd rfl (k2 true)
  ·exact absurd rfl k3
  ·exact absurd rfl k4
  ·exact absurd rfl (k5 _ _ _)
  ·rfl
 | binOp op t x y u=>
  rw [hop]at e; simp only [zu]at e
  split at e
  ·rename_i hc
   rw [hT]at e hc
   split at e
   ·rename_i q hq
    simp only [Option.some.injEq,Prod.mk.injEq]at e; obtain⟨rfl,rfl⟩:=e
    obtain⟨c,c1,c2⟩:=GE (P:=P) (w:=w) op hc (hev x) (hev y) hq x y
    exact xK.of (.same r c1 c2) (by simp only [execOp,hop])
   ·obtain⟨e1,rfl⟩:=bM e; clear e; have e:=e1; clear e1
    obtain⟨c,c1,c2⟩:=Bv (P:=P) (w:=w) op (hev x) (hev y) e x y
    exact xK.of (.same r c1 c2) (by simp only [execOp,hop])
  ·cases e
 | unOp op t x=>
  rw [hop]at e; simp only [zu]at e
  obtain⟨e1,rfl⟩:=bM e; clear e; have e:=e1; clear e1
  obtain⟨c,c1,c2⟩:=lw (P:=P) (w:=w) (hev x) e
  exact xK.of (.same r c1 c2) (by simp only [execOp,hop])
 | convert s d x=>
  rw [hop]at e; simp only [zu]at e
  rw [hT]at e
  exact xK.of (Bu r (hev x) e) (by simp only [execOp,hop])
 | makeInterface t x=>
  rw [hop]at e; simp only [zu]at e
  split at e
  ·rename_i hc
   simp only [Option.some.injEq,Prod.mk.injEq]at e; obtain⟨rfl,rfl⟩:=e
   rw [hT]at hc
   obtain⟨i,d,hi,hd,_,htd⟩:=qc hc.1
   refine xK.of (s:=Instr.makeInterface t (a.eval x)) (.same r (c:= .iface t (a.eval x)) ?_ (.iface (hev x))) (by simp only [execOp,hop])
   have:∀ms,d≠ .interface ms:=fun ms hh=>by subst hh; exact hc.2 (by rw [htd]; rfl)
   cases d<;>first|(exact absurd rfl (this _))|simp [Instr.makeInterface,run_underlying hd]
  ·cases e
 | makeFunc fn first captured=>
  rw [hop]at e; simp only [zu,Option.some.injEq,Prod.mk.injEq]at e; obtain⟨rfl,rfl⟩:=e
  have h1:=jy (E:=E) hev first
  have h2:=jy (E:=E) hev captured
  exact xK.of (s:=Instr.makeFunc fn (first.map a.eval) (captured.map a.eval)) (.same r rfl (.func h1.1 h1.2 h2.1 h2.2)) (by simp only [execOp,hop])
 | makeMap t rs=>
  rw [hop]at e; simp only [zu]at e
  split at e
  ·rename_i hrm
   have ho:=go (E:=E) hev rs
   have fin:(rs.map (zg E.ng fr.l)).isSome=true→(∃k el,(ti P t).d= .map k el)∧∃k n,rs.map (zg E.ng fr.l)=some (.int k n):=by
    intro hs
    cases rs with
    |none=>cases hs
    | some x=>
     simp only at e
     split at e
     ·rename_i k el j n hd hx
      rw [hT]at hd
      exact⟨⟨_,_,hd⟩,j,n,by rw [Option.map_some,hx]⟩
     ·cases e
   have hv:v= .map h.next∧h'=h.push (.map [] 0):=by
    cases rs with
    |none=>simp only [Option.some.injEq,Prod.mk.injEq]at e; exact⟨e.1.symm,e.2.symm⟩
    | some x=>
     simp only at e
     split at e
     ·simp only [Option.some.injEq,Prod.mk.injEq]at e; exact⟨e.1.symm,e.2.symm⟩
     ·cases e
   obtain⟨rfl,rfl⟩:=hv
   exact xK.of (Wo r hrm ho fin) (by simp only [execOp,hop])
  ·cases e
 | makeSlice t n c=>
  rw [hop]at e; simp only [zu]at e
  rw [hT,hZ]at e
  exact xK.of (BC r (hev n) (hev c) e) (by simp only [execOp,hop])
 | slice t x lo hi mx=>
  rw [hop]at e; simp only [zu]at e
  obtain⟨e1,rfl⟩:=bM e; clear e; have e:=e1; clear e1
  rw [hT]at e
  exact xK.of (Jc r (hev x) (go (E:=E) hev lo) (go (E:=E) hev hi) (go (E:=E) hev mx) e) (by simp only [execOp,hop])
 | fieldAddr s x f=>
  rw [hop]at e; simp only [zu]at e
  obtain⟨e1,rfl⟩:=bM e; clear e; have e:=e1; clear e1
  rw [hT]at e
  exact xK.of (Yb r (hev x) e) (by simp only [execOp,hop])
 | field s x f=>
  rw [hop]at e; simp only [zu]at e
  obtain⟨e1,rfl⟩:=bM e; clear e; have e:=e1; clear e1
  rw [hT]at e
  exact xK.of (J4 r (hev x) e) (by simp only [execOp,hop])
 | indexAddr t x i=>
  rw [hop]at e; simp only [zu]at e
  split at e
  ·rename_i k n hi
   obtain⟨e1,rfl⟩:=bM e; clear e; have e:=e1; clear e1
   rw [hT]at e
   have hii:=hev i
   rw [hi]at hii
   generalize hcc:a.eval i=cc at hii
   cases hii
   exact xK.of (s:=Instr.indexAt t (a.eval x) (.int k n)) (Yn r (hev x) e) (by rw [←hcc]; simp only [execOp,hop])
  ·cases e
 | index t x i=>
  rw [hop]at e; simp only [zu]at e
  split at e
  ·rename_i k n hi
   obtain⟨e1,rfl⟩:=bM e; clear e; have e:=e1; clear e1
   have hii:=hev i
   rw [hi]at hii
   generalize hcc:a.eval i=cc at hii
   cases hii
   unfold XH at e
   split at e
   ·rename_i v' e2
    injection e with e; subst e
    rw [hT]at e2
    exact xK.of (s:=Instr.index t (a.eval x) (.int k n)) (Jo r (hev x) e2) (by rw [←hcc]; simp only [execOp,hop])
   ·rw [hT,hE.A]at e
    exact xK.of (s:=Instr.index t (a.eval x) (.int k n)) (Un r (hev x) e) (by rw [←hcc]; simp only [execOp,hop])
  ·cases e
 | entry it=>
  rw [hop]at e; simp only [zu]at e
  obtain⟨e1,rfl⟩:=bM e; clear e; have e:=e1; clear e1
  exact xK.of (Jg r (hev it) e) (by simp only [execOp,hop])
 | lookup t m k ok=>
  rw [hop]at e; simp only [zu]at e
  obtain⟨e1,rfl⟩:=bM e; clear e; have e:=e1; clear e1
  rw [hT,hZ]at e
  exact xK.of (U8 r (hev m) (hev k) e) (by simp only [execOp,hop])
 | mapUpdate t m k x=>
  rw [hop]at e; simp only [zu]at e
  obtain⟨e1,rfl⟩:=fD e; clear e; have e:=e1; clear e1
  rw [hT]at e
  exact xK.ofU (kf r (hev m) (hev k) (hev x) e) (by simp only [execOp,hop])
 | insert t m k x=>
  rw [hop]at e; simp only [zu]at e
  obtain⟨e1,rfl⟩:=fD e; clear e; have e:=e1; clear e1
  rw [hT]at e
  exact xK.ofU (kf r (hev m) (hev k) (hev x) e) (by simp only [execOp,hop])
 | mapEntry t m k=>
  rw [hop]at e; simp only [zu]at e
  rw [hT,hZ]at e
  exact xK.of (YY r (hev m) (hev k) e) (by simp only [execOp,hop])
 | entryStore t m s x=>
  rw [hop]at e; simp only [zu]at e
  obtain⟨e1,rfl⟩:=fD e; clear e; have e:=e1; clear e1
  exact xK.ofU (pP (t:=t) r (hev m) (hev s) (hev x) e) (by simp only [execOp,hop])
 | range t x=>
  rw [hop]at e; simp only [zu]at e
  rw [hT]at e
  exact xK.of (Bx r (hev x) e) (by simp only [execOp,hop])
 | next it s=>
  rw [hop]at e; simp only [zu]at e
  exact xK.of (Br (t:=o.type) r (hev it) e) (by simp only [execOp,hop])
 | typeAssert x xt asT ok=>
  rw [hop]at e; simp only [zu]at e
  obtain⟨e1,rfl⟩:=bM e; clear e; have e:=e1; clear e1
  rw [hT,hZ]at e
  exact xK.of (Vr (xt:=xt) r (hev x) e) (by simp only [execOp,hop])
 | extract x i=>
  rw [hop]at e; simp only [zu]at e
  obtain⟨e1,rfl⟩:=bM e; clear e; have e:=e1; clear e1
  exact xK.of (Ww r (hev x) e) (by simp only [execOp,hop])
 | call c=>
  rw [hop]at e
  obtain⟨callee,args,tys⟩:=c
  cases callee with
  | builtin b=>
   simp only [zu]at e
   obtain⟨s,s1,s2⟩:=WJ (P:=P) hE r (ty:=o.type) (cs:=args.map fun| .const _=>true|_=>false) (jy (E:=E) hev args) e
   refine xK.of s2 ?_
   have:execOp a.eval o=builtin b tys o.type (args.map fun| .const _=>true|_=>false) (args.map a.eval):=by
    simp only [execOp,hop,resolve]; rfl
   rw [this]; exact s1
  |_=>simp [zu]at e
 |_=>rw [hop]at e; simp [zu]at e
end
end Go.K
end
