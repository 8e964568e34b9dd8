/- Closed runs: a part. No condition beyond each statement's own. -/
import Derived.Test.YtkabooclnoiclaaGreatDoorK12
set_option linter.all false
section
namespace Go.K
open Go.Abs
noncomputable def KV.onYield (v:KV) (f:Bool→QR) (t:QR):QR:=v.onBool f (v.onTuple (fun vs=>List.rec (motive:=fun _=>QR) t (fun _ _ _=>none) vs) none)
inductive QG where
 |no
 |on (g:Sl→KV) (want:Bool)
noncomputable def QG.run (g:QG) (l:Sl) (yes no:QR):QR:=QG.rec (motive:=fun _=>QR) yes (fun g want=>(g l).onYield (fun b=>zb b (zb want yes no) (zb want no yes)) no) g
def QG.ok (q:QG) (ops:Array Oper) (o:Oper):Prop:=∀l yes no r,q.run l yes no=some r→(yr ops l o=some true∧yes=some r)∨(yr ops l o=some false∧no=some r)
inductive QT where
 |no
 |to (u:(KV→(KV→QR)→QR)→Sl→(Sl→QR)→QR)
noncomputable def QT.put (t:QT) (v:KV) (l:Sl) (K:Sl→QR):QR:=QT.rec (motive:=fun _=>QR) (K l) (fun u=>u (fun _ k=>k v) l K) t
def QT.ok (t:QT) (n:Nat) (dst:Option Tmp):Prop:=∀l ds v K,t.put v l K=K ((KFr.mk n l ds).put dst v).l
inductive QI where
 |op (g:QG) (o:QOp) (t:QT)
 |dfr (g:QG) (f:QO) (xs:List QO) (t:QT)
inductive QCk where
 |mk (g:QG) (o:QOp) (d:Option (Sl→KV))
inductive QS where
 |mk (i:QI) (c:List QCk)
inductive YX where
 |mk (l:List QS)
 |bad
abbrev QKS:=Sl→List KD→KH→QR
noncomputable def oW (f:KV) (xs:List QO) (l:Sl) (K:KD→QR):QR:=f.onFunc (fun fn a c=>Fn.onFunc fn fun f=>evs l xs fun vs=>dG a vs fun all=>K (.fn (.func f) c all)) (fun _=>none) none
noncomputable def QI.run (i:QI) (e:QE) (l:Sl) (ds:List KD) (h:KH) (K:QKS):QR:=QI.rec (motive:=fun _=>QR)
 (fun g o t=>g.run l (o.run e l h fun v h=>t.put v l fun l=>K l ds h) (t.put (.tuple []) l fun l=>K l ds h))
 (fun g f xs t=>g.run l (oW (f.ev l) xs l fun d=>t.put (.tuple []) l fun l=>K l (d::ds) h) (t.put (.tuple []) l fun l=>K l ds h)) i
noncomputable def QCk.run (c:QCk) (e:QE) (l:Sl) (h:KH) (K:QR):QR:=QCk.rec (motive:=fun _=>QR)
 (fun g o d=>g.run l (o.run e l h fun v _=>Option.rec (motive:=fun _=>QR) K (fun s=>zb (xy (s l) v) K none) d) (Option.rec (motive:=fun _=>QR) K (fun s=>zb (xy (s l) (.tuple [])) K none) d)) c
noncomputable def uJ (c:List QCk) (e:QE) (l:Sl) (h:KH) (K:QR):QR:=List.rec (motive:=fun _=>QR) K (fun c _ ih=>c.run e l h ih) c
noncomputable def pf (s:List QS) (e:QE) (l:Sl) (ds:List KD) (h:KH) (K:QKS):QR:=List.rec (motive:=fun _=>Sl→List KD→KH→QR) (fun l ds h=>K l ds h)
 (fun s _ ih l ds h=>QS.rec (motive:=fun _=>QR) (fun i c=>i.run e l ds h fun l ds h=>uJ c e l h (ih l ds h)) s) s l ds h
noncomputable def YX.run (q:YX) (e:QE) (l:Sl) (ds:List KD) (h:KH) (K:QKS):QR:=YX.rec (motive:=fun _=>QR) (fun s=>pf s e l ds h K) none q
section
variable {S:Type}
noncomputable def cG (ops:Array Oper) (o:Oper) (K:QG→S) (F:S):S:=match o.guard with
 |none=>K .no
 | some (j,want)=>match(ops[j]?).bind (·.dst)with
  |some d=>Sel.rec (motive:=fun _=>S) (fun g=>bfc want fun want=>K (.on g want)) (dS d)
  |none=>F
theorem KY (ops:Array Oper) (o:Oper) (K:QG→S) (F:S):cG ops o K F=F∨∃q:QG,q.ok ops o∧cG ops o K F=K q:=by
 unfold cG
 split
 ·rename_i hg
  exact .inr ⟨.no,fun l yes no r e=> .inl ⟨by simp only [yr,hg],e⟩,rfl⟩
 ·rename_i j want hg
  split
  ·rename_i d hd
   refine .inr ⟨.on (fun l=>zN l d) want, ?_,by simp only [V7,Wq]⟩
   intro l yes no r e
   simp only [yr,hg,pa,hd]
   simp only [QG.run,KV.onYield]at e
   cases hv:zN l d<;>rw [hv]at e<;>first|(cases e; done)|skip
   ·rename_i b
    simp only [KV.onBool,za]at e
    cases b<;>cases want<;>simp_all
   ·rename_i vs
    cases vs with
    |nil=>exact .inr ⟨rfl,e⟩
    |cons _ _=>cases e
  ·exact .inl rfl
noncomputable def cT (n:Nat) (dst:Option Tmp):QT:=match dst with
 |none=> .no
 |some d=>zb (Nat.blt d n) (Upd.rec (motive:=fun _=>QT) (fun u=> .to u) (dU d)) .no
theorem Pj (n:Nat) (dst:Option Tmp):(cT n dst).ok n dst:=by
 intro l ds v K
 unfold cT
 cases dst with
 |none=>rfl
 | some d=>
  simp only [za,GT,KFr.put]
  cases hb:Nat.blt d n with
  |true=>rfl
  |false=>rfl
noncomputable def QP (E:KE) (M:TypeId→String→Option FuncId) (cl:Call) (K:QOp→S) (F:S):S:=match cl.callee with
 | .builtin _=>F
 | .value f=>match f with
  | .func f=>nfc f fun f=>cOs E.ng cl.args.toList fun xs=>K (.callS f xs)
  |f=>cO E.ng f fun f=>cOs E.ng cl.args.toList fun xs=>K (.callV f xs)
 | .invoke r name=>cO E.ng r fun r=>cOs E.ng cl.args.toList fun xs=>K (.inv r (fun t=>M t name) xs)
noncomputable def Zv (E:KE) (M:TypeId→String→Option FuncId) (o:Op) (K:QOp→S) (F:S):S:=match o with
 | .call cl=>match cl.callee with
  | .builtin _=>cOp E o K F
  |_=>QP E M cl K F
 |o=>cOp E o K F
noncomputable def cI (E:KE) (M:TypeId→String→Option FuncId) (out:Bool) (n:Nat) (ops:Array Oper) (o:Oper) (K:QI→S) (F:S):S:=
 cG ops o (fun g=>QT.rec (motive:=fun _=>S→(QT→S)→S) (fun _ k=>k .no) (fun u _ k=>k (.to u)) (cT n o.dst) F fun t=>match o.op with
  | .defer cl=>match out,cl.callee with
   |true, .value f=>cO E.ng f fun f=>cOs E.ng cl.args.toList fun xs=>K (.dfr g f xs t)
   |_,_=>F
  |op=>Zv E M op (fun q=>K (.op g q t)) F) F
end
structure QX where
 E:KE
 S:KF_
 C:FuncId→Option (List KV→KH→Option (KV×KH))
structure QX.Ok (P:Program) (X:QX):Prop where
 E:X.E.Ok P
 S:X.S.Ok P
 C:∀ {f g},X.C f=some g→(∃fn c,X.S.F f=some fn∧fn.body=some c)∧∀ {args h v h'},g args h=some (v,h')→KCall P f args h v h'
 mixed:P.follows .mixedOrders=true
def eE (P:Program) (ng:Nat) (id:Nat) (args:List KV) (h:KH) (v:KV) (h':KH):Prop:=
 ∀(rd:Option Nat) (o:Oper) (l:Sl) (cl:Call) (fo:Operand),o.op= .call cl→cl.callee= .value fo→zg ng l fo= .yield id→cl.args.toList.map (zg ng l)=args→KDo P ng rd o l h v h'
structure QE.ok (P:Program) (X:QX) (e:QE):Prop where
 call:∀f args h (K:QK) r,e.call f args h K=some r→∃v h',(∃fn c,X.S.F f=some fn∧fn.body=some c)∧KCall P f args h v h'∧K v h'=some r
 round:∀id args h (K:QK) r,e.round id args h K=some r→∃v h',eE P X.E.ng id args h v h'∧K v h'=some r
 calld:∀f args h (K:KH→QR) r,e.calld f args h K=some r→∃h',(∃fn c,X.S.F f=some fn∧fn.body=some c)∧Wy P f args h h'∧K h'=some r
def QOp.okD (P:Program) (X:QX) (e:QE) (rd:Option Nat) (q:QOp) (o:Oper):Prop:=
 ∀l h (K:QK) r,q.run e l h K=some r→∃v h',KDo P X.E.ng rd o l h v h'∧K v h'=some r
section
variable {P:Program} {X:QX} {e:QE} {S:Type} {rd:Option Nat}
theorem QOp.okE.D (ok:X.Ok P) {q:QOp} {o:Oper} (h:q.okE X.E o.op):q.okD P X e rd o:=by
 intro l hh K r q1
 obtain⟨v,h',e1,e2⟩:=h e l hh K r q1
 exact⟨v,h',KDo.exec ok.E e1,e2⟩
theorem BW (ok:X.Ok P) (he:e.ok P X) {o:Oper} {cl:Call} {fo:Operand} (ho:o.op= .call cl) (hc:cl.callee= .value fo) {f:QO} {xs:List QO} (hf:∀l,f.ev l=zg X.E.ng l fo) (hx:∀l,xs.map (fun q:QO=>q.ev l)=cl.args.toList.map (zg X.E.ng l)):
  (QOp.callV f xs).okD P X e rd o:=by
 intro l h K r q
 have q:JP e (f.ev l) xs l h K=some r:=q
 rw [hf]at q
 unfold JP at q
 cases hv:zg X.E.ng l fo<;>rw [hv]at q<;>first|(cases q; done)|skip
 ·rename_i fn a c
  cases fn<;>first|(cases q; done)|skip
  rename_i g
  simp only [KV.onFunc,Fn.onFunc,qt,hx,j3]at q
  obtain⟨v,h',⟨fn,cd,h1,h2⟩,k,e2⟩:=he.call _ _ _ _ _ q
  refine⟨v,h',KDo.call ok.E ok.S ho (by rw [hc]; simp only [vA,hv,List.append_assoc]) h1 h2 k,e2⟩
 ·rename_i id
  simp only [KV.onFunc,qt,hx]at q
  obtain⟨v,h',k,e2⟩:=he.round _ _ _ _ _ q
  exact⟨v,h',k rd o l cl fo ho hc hv rfl,e2⟩
theorem DZ (ok:X.Ok P) (he:e.ok P X) (cl:Call) (K:QOp→S) (F:S):QP X.E X.S.M cl K F=F∨∃q:QOp,(∀o:Oper,o.op= .call cl→q.okD P X e rd o)∧QP X.E X.S.M cl K F=K q:=by
 unfold QP
 split
 ·exact .inl rfl
 ·rename_i fo hc
  split
  ·rename_i f
   obtain⟨xs,hx,e1⟩:=YE X.E.ng cl.args.toList fun xs=>K (.callS f xs)
   refine .inr ⟨.callS f xs, ?_,by rw [zi,e1]⟩
   intro o ho l h K r q
   have q:(evs l xs fun vs=>e.call f vs h K)=some r:=q
   rw [qt,hx]at q
   obtain⟨v,h',⟨fn,cd,h1,h2⟩,k,e2⟩:=he.call _ _ _ _ _ q
   exact⟨v,h',KDo.call ok.E ok.S ho (by rw [hc]; simp only [vA,zg,List.append_nil,List.nil_append]) h1 h2 k,e2⟩
  ·obtain⟨f,hf,e1⟩:=jC X.E.ng fo fun f=>cOs X.E.ng cl.args.toList fun xs=>K (.callV f xs)
   obtain⟨xs,hx,e2⟩:=YE X.E.ng cl.args.toList fun xs=>K (.callV f xs)
   exact .inr ⟨.callV f xs,fun o ho=>BW ok he ho hc hf hx,e1.trans e2⟩
 ·rename_i ro name hc
  obtain⟨f,hf,e1⟩:=jC X.E.ng ro fun f=>cOs X.E.ng cl.args.toList fun xs=>K (.inv f (fun t=>X.S.M t name) xs)
  obtain⟨xs,hx,e2⟩:=YE X.E.ng cl.args.toList fun xs=>K (.inv f (fun t=>X.S.M t name) xs)
  refine .inr ⟨.inv f (fun t=>X.S.M t name) xs, ?_,e1.trans e2⟩
  intro o ho l h K r q
  have q:oe e (f.ev l) (fun t=>X.S.M t name) xs l h K=some r:=q
  rw [hf]at q
  unfold oe at q
  cases hv:zg X.E.ng l ro<;>rw [hv]at q<;>first|(cases q; done)|skip
  rename_i t v
  simp only [KV.onIface]at q
  cases hm:X.S.M t name with
  |none=>rw [hm]at q; cases q
  | some g=>
   rw [hm]at q
   simp only [qt,hx]at q
   obtain⟨v',h',⟨fn,cd,h1,h2⟩,k,e2⟩:=he.call _ _ _ _ _ q
   exact⟨v',h',KDo.call ok.E ok.S ho (by rw [hc]; simp only [vA,hv,hm]) h1 h2 k,e2⟩
theorem WY (ok:X.Ok P) (he:e.ok P X) (op:Op) (K:QOp→S) (F:S):Zv X.E X.S.M op K F=F∨∃q:QOp,(∀o:Oper,o.op=op→q.okD P X e rd o)∧Zv X.E X.S.M op K F=K q:=by
 have hop:cOp X.E op K F=F∨∃q:QOp,(∀o:Oper,o.op=op→q.okD P X e rd o)∧cOp X.E op K F=K q:=by
  rcases dN (E:=X.E) op K F with h|⟨q,h1,h2⟩
  ·exact .inl h
  ·exact .inr ⟨q,fun o ho=>QOp.okE.D ok (by rw [ho]; exact h1),h2⟩
 unfold Zv
 split
 ·split
  ·exact hop
  ·exact DZ ok he _ K F
 ·exact hop
def QI.okS (P:Program) (X:QX) (e:QE) (rd:Option Nat) (n:Nat) (ops:Array Oper) (i:QI) (o:Oper):Prop:=
 ∀l ds h (K:QKS) r,i.run e l ds h K=some r→∃l' ds' h',K l' ds' h'=some r∧∀j is fr2 h2,ops[j]? =some o→KO_ P rd ops is ⟨n,l',ds'⟩ h' fr2 h2→KO_ P rd ops (j::is) ⟨n,l,ds⟩ h fr2 h2
theorem xD (n:Nat) (l:Sl) (ds:List KD) (dst:Option Tmp) (v:KV):(KFr.mk n l ds).put dst v=⟨n,((KFr.mk n l ds).put dst v).l,ds⟩:=by
 have h1:=ui ⟨n,l,ds⟩ dst v
 have h2:=ZS ⟨n,l,ds⟩ dst v
 generalize KFr.put ⟨n,l,ds⟩ dst v=fr at h1 h2 ⊢
 obtain⟨a,b,c⟩:=fr
 simp only at h1 h2
 subst h1 h2
 rfl
theorem QI.okS_op (ok:X.Ok P) {n:Nat} {ops:Array Oper} {o:Oper} {g:QG} {q:QOp} {t:QT} (hg:g.ok ops o) (hq:q.okD P X e rd o) (ht:t.ok n o.dst):(QI.op g q t).okS P X e rd n ops o:=by
 intro l ds h K r hr
 have hr:g.run l (q.run e l h fun v h=>t.put v l fun l=>K l ds h) (t.put (.tuple []) l fun l=>K l ds h)=some r:=hr
 rcases hg _ _ _ _ hr with⟨hw,hy⟩|⟨hw,hn⟩
 ·obtain⟨v,h',k,e2⟩:=hq _ _ _ _ hy
  rw [ht l ds v]at e2
  refine⟨_,ds,h',e2,fun j is fr2 h2 hj k2=> ?_⟩
  rw [←xD]at k2
  exact tt ok.E.ng hj hw k k2
 ·rw [ht l ds]at hn
  refine⟨_,ds,h,hn,fun j is fr2 h2 hj k2=> ?_⟩
  rw [←xD]at k2
  exact Kc hj hw k2
end
section
variable {P:Program} {X:QX} {e:QE} {S:Type} {rd:Option Nat}
theorem QI.okS_dfr (ok:X.Ok P) {n:Nat} {ops:Array Oper} {o:Oper} {cl:Call} {fo:Operand} (hop:o.op= .defer cl) (hc:cl.callee= .value fo) {g:QG} {f:QO} {xs:List QO} {t:QT} (hg:g.ok ops o) (hf:∀l,f.ev l=zg X.E.ng l fo)
  (hx:∀l,xs.map (fun q:QO=>q.ev l)=cl.args.toList.map (zg X.E.ng l)) (ht:t.ok n o.dst):(QI.dfr g f xs t).okS P X e none n ops o:=by
 intro l ds h K r hr
 have hr:g.run l (oW (f.ev l) xs l fun d=>t.put (.tuple []) l fun l=>K l (d::ds) h) (t.put (.tuple []) l fun l=>K l ds h)=some r:=hr
 rcases hg _ _ _ _ hr with⟨hw,hy⟩|⟨hw,hn⟩
 ·rw [hf]at hy
  unfold oW at hy
  cases hv:zg X.E.ng l fo<;>rw [hv]at hy<;>first|(cases hy; done)|skip
  rename_i fn a c
  cases fn<;>first|(cases hy; done)|skip
  rename_i g'
  simp only [KV.onFunc,Fn.onFunc,qt,hx,j3]at hy
  rw [ht l (.fn (.func g') c (a++cl.args.toList.map (zg X.E.ng l))::ds)]at hy
  refine⟨_,_,h,hy,fun j is fr2 h2 hj k2=> ?_⟩
  rw [←xD]at k2
  exact Db (fr:=⟨n,l,ds⟩) ok.E hj hop hw hc hv k2
 ·rw [ht l ds]at hn
  refine⟨_,ds,h,hn,fun j is fr2 h2 hj k2=> ?_⟩
  rw [←xD]at k2
  exact Kc hj hw k2
theorem tp (ok:X.Ok P) (he:e.ok P X) (n:Nat) (ops:Array Oper) (o:Oper) (K:QI→S) (F:S):cI X.E X.S.M rd.isNone n ops o K F=F∨∃i:QI,i.okS P X e rd n ops o∧cI X.E X.S.M rd.isNone n ops o K F=K i:=by
 unfold cI
 generalize hB:(fun g=>QT.rec (motive:=fun _=>S→(QT→S)→S) (fun _ k=>k .no) (fun u _ k=>k (.to u)) (cT n o.dst) F fun t=>(match o.op with
  | .defer cl=>match rd.isNone,cl.callee with
   |true, .value f=>cO X.E.ng f fun f=>cOs X.E.ng cl.args.toList fun xs=>K (.dfr g f xs t)
   |_,_=>F
  |op=>Zv X.E X.S.M op (fun q=>K (.op g q t)) F))=B
 rcases KY ops o B F with h|⟨g,hg,h⟩
 ·exact .inl h
 ·rw [h,←hB]
  have ht:=Pj n o.dst
  have e0:∀(t:QT) (k:QT→S),QT.rec (motive:=fun _=>S→(QT→S)→S) (fun _ k=>k .no) (fun u _ k=>k (.to u)) t F k=k t:=fun t k=>by cases t<;>rfl
  simp only [e0]
  generalize cT n o.dst=t at ht
  split
  ·rename_i cl hop
   split
   ·rename_i f hrd hc
    cases rd with
    |some _=>cases hrd
    | none=>
     obtain⟨q,hf,e1⟩:=jC X.E.ng f fun f=>cOs X.E.ng cl.args.toList fun xs=>K (.dfr g f xs t)
     obtain⟨xs,hx,e2⟩:=YE X.E.ng cl.args.toList fun xs=>K (.dfr g q xs t)
     exact .inr ⟨.dfr g q xs t,QI.okS_dfr ok hop hc hg hf hx ht,e1.trans e2⟩
   ·exact .inl rfl
  ·rcases WY (rd:=rd) ok he o.op (fun q=>K (.op g q t)) F with h|⟨q,hq,h⟩
   ·exact .inl h
   ·exact .inr ⟨.op g q t,QI.okS_op ok hg (hq o rfl) ht,h⟩
noncomputable def fX (E:KE) (M:TypeId→String→Option FuncId) (out:Bool) (n:Nat) (ops:Array Oper) (l:List Oper) (K:List QS→S) (F:S):S:=
 List.rec (motive:=fun _=>(List QS→S)→S) (fun K=>K []) (fun o _ ih K=>cI E M out n ops o (fun i=>ih fun r=>K (.mk i []::r)) F) l K
def s7 (P:Program) (X:QX) (e:QE) (rd:Option Nat) (n:Nat) (ops:Array Oper) (s:List QS) (os:List Oper):Prop:=
 ∀l ds h (K:QKS) r,pf s e l ds h K=some r→∃l' ds' h',K l' ds' h'=some r∧∀is:List Nat,is.map (fun i=>ops[i]?)=os.map some→KO_ P rd ops is ⟨n,l,ds⟩ h ⟨n,l',ds'⟩ h'
theorem Q8 (ok:X.Ok P) (he:e.ok P X) (n:Nat) (ops:Array Oper) (F:S):∀(os:List Oper) (K:List QS→S),fX X.E X.S.M rd.isNone n ops os K F=F∨∃s,s7 P X e rd n ops s os∧fX X.E X.S.M rd.isNone n ops os K F=K s
 | [],K=> .inr ⟨[],fun l ds h K r q=>⟨l,ds,h,q,fun is hi=>by
   have:is= []:=by cases is with|nil=>rfl|cons _ _=>simp at hi
   subst this; exact o9⟩,rfl⟩
 | o ::os,K=>by
  rcases tp (rd:=rd) ok he n ops o (fun i=>fX X.E X.S.M rd.isNone n ops os (fun r=>K (.mk i []::r)) F) F with h|⟨i,hi,h⟩
  ·exact .inl h
  ·rcases Q8 ok he n ops F os (fun r=>K (.mk i []::r))with h1|⟨s,hs,h1⟩
   ·exact .inl (h.trans h1)
   ·refine .inr ⟨.mk i []::s, ?_,h.trans h1⟩
    intro l ds h K r q
    have q:i.run e l ds h (fun l ds h=>pf s e l ds h K)=some r:=q
    obtain⟨l1,ds1,h1,q1,k1⟩:=hi _ _ _ _ _ q
    obtain⟨l2,ds2,h2,q2,k2⟩:=hs _ _ _ _ _ q1
    refine⟨l2,ds2,h2,q2,fun is his=> ?_⟩
    cases is with
    |nil=>simp at his
    | cons j is=>
     simp only [List.map_cons,List.cons.injEq]at his
     exact k1 j is _ _ his.1 (k2 is his.2)
noncomputable def cCk (E:KE) (ops:Array Oper) (j:Nat) (K:QCk→S) (F:S):S:=match ops[j]? with
 |none=>F
 | some o=>zb (wV E.T o.op) (cG ops o (fun g=>cOp E o.op (fun q=>match o.dst with
  |none=>K (.mk g q none)
  |some d=>Sel.rec (motive:=fun _=>S) (fun s=>K (.mk g q (some s))) (dS d)) F) F) F
def QCk.ok (P:Program) (X:QX) (e:QE) (rd:Option Nat) (n:Nat) (ops:Array Oper) (c:QCk) (j:Nat):Prop:=∀l (ds:List KD) h K r,c.run e l h K=some r→xn P X.E.ng rd ops j ⟨n,l,ds⟩ h∧K=some r
theorem ow (ok:X.Ok P) (n:Nat) (ops:Array Oper) (j:Nat) (K:QCk→S) (F:S):cCk X.E ops j K F=F∨∃c:QCk,c.ok P X e rd n ops j∧cCk X.E ops j K F=K c:=by
 unfold cCk
 cases ho:ops[j]? with
 |none=>exact .inl rfl
 | some o=>
  simp only [za]
  by_cases hp:wV X.E.T o.op=true
  ·rw [if_pos hp]
   have hd:zd ops j=o.dst:=by simp [zd,ho]
   rcases KY ops o (fun g=>cOp X.E o.op (fun q=>match o.dst with
    |none=>K (.mk g q none)
    |some d=>Sel.rec (motive:=fun _=>S) (fun s=>K (.mk g q (some s))) (dS d)) F) F with h|⟨g,hg,h⟩
   ·exact .inl h
   ·rw [h]
    rcases dN (E:=X.E) o.op (fun q=>match o.dst with
     |none=>K (.mk g q none)
     |some d=>Sel.rec (motive:=fun _=>S) (fun s=>K (.mk g q (some s))) (dS d)) F with h1|⟨q,hq,h1⟩
    ·exact .inl h1
    ·rw [h1]
     right
     have run:∀(dd:Option (Sl→KV)),(∀l (ds:List KD) h K r,(QCk.mk g q dd).run e l h K=some r→(∃v,zu X.E l h o.op=some (v,h)∧yr ops l o=some true∧(Option.rec (motive:=fun _=>QR) K (fun s=>zb (xy (s l) v) K none) dd)=some r) ∨
       (yr ops l o=some false∧(Option.rec (motive:=fun _=>QR) K (fun s=>zb (xy (s l) (.tuple [])) K none) dd)=some r)):=by
      intro dd l ds h K r hr
      rcases hg _ _ _ _ hr with⟨hw,hy⟩|⟨hw,hn⟩
      ·obtain⟨v,h',e1,e2⟩:=hq _ _ _ _ _ hy
       have:=ue hp e1
       subst this
       exact .inl ⟨v,e1,hw,e2⟩
      ·exact .inr ⟨hw,hn⟩
     have still:∀l ds h v,zu X.E l h o.op=some (v,h)→yr ops l o=some true→xM P X.E.ng rd ops j ⟨n,l,ds⟩ h v:=by
      intro l ds h v e1 hw
      unfold xM
      simp only [ho,hw]
      exact KDo.exec ok.E e1
     have stillN:∀l ds h,yr ops l o=some false→xM P X.E.ng rd ops j ⟨n,l,ds⟩ h (.tuple []):=by
      intro l ds h hw
      unfold xM
      simp only [ho,hw]
     cases hdst:o.dst with
     | none=>
      refine⟨.mk g q none, ?_,rfl⟩
      intro l ds h K r hr
      unfold xn
      rw [hd,hdst]
      rcases run none l ds h K r hr with⟨v,e1,hw,e2⟩|⟨hw,e2⟩
      ·exact⟨⟨v,still l ds h v e1 hw⟩,e2⟩
      ·exact⟨⟨_,stillN l ds h hw⟩,e2⟩
     | some d=>
      refine⟨.mk g q (some fun l=>zN l d), ?_,by simp only [V7]⟩
      intro l ds h K r hr
      unfold xn
      rw [hd,hdst]
      rcases run _ l ds h K r hr with⟨v,e1,hw,e2⟩|⟨hw,e2⟩
      ·simp only [za]at e2
       split at e2
       ·rename_i hv
        exact⟨by simp only; rw [w9 _ _ hv]; exact still l ds h v e1 hw,e2⟩
       ·cases e2
      ·simp only [za]at e2
       split at e2
       ·rename_i hv
        exact⟨by simp only; rw [w9 _ _ hv]; exact stillN l ds h hw,e2⟩
       ·cases e2
  ·rw [if_neg hp]; exact .inl rfl
noncomputable def wY (E:KE) (ops:Array Oper) (M:Nat) (seen:List Nat) (K:List QCk→S) (F:S):S:=
 List.rec (motive:=fun _=>(List QCk→S)→S) (fun K=>K []) (fun j _ ih K=>zb (tb M j) (ih K) (cCk E ops j (fun c=>ih fun r=>K (c::r)) F)) seen K
theorem gm (ok:X.Ok P) (n:Nat) (ops:Array Oper) (Es Bi:List Nat) (M:Nat) (F:S):∀(seen:List Nat),(∀j∈seen,(Es.contains j||Bi.contains j)=tb M j)→∀(K:List QCk→S),wY X.E ops M seen K F=F ∨
  ∃cs:List QCk,(∀l (ds:List KD) h K r,uJ cs e l h K=some r→v6 P X.E.ng rd ops Es Bi seen ⟨n,l,ds⟩ h∧K=some r)∧wY X.E ops M seen K F=K cs
 | [],_,K=> .inr ⟨[],fun l ds h K r q=>⟨trivial,q⟩,rfl⟩
 | j ::seen,hs,K=>by
  have e0:wY X.E ops M (j::seen) K F=zb (tb M j) (wY X.E ops M seen K F) (cCk X.E ops j (fun c=>wY X.E ops M seen (fun r=>K (c::r)) F) F):=rfl
  rw [e0,za,←hs j (by simp)]
  have hs':∀j∈seen,(Es.contains j||Bi.contains j)=tb M j:=fun j hj=>hs j (List.mem_cons_of_mem _ hj)
  by_cases hc:(Es.contains j||Bi.contains j)=true
  ·rw [if_pos hc]
   rcases gm ok n ops Es Bi M F seen hs' K with h|⟨cs,h1,h2⟩
   ·exact .inl h
   ·refine .inr ⟨cs,fun l ds h K r q=> ?_,h2⟩
    obtain⟨a,b⟩:=h1 l ds h K r q
    exact⟨⟨by rw [if_pos hc]; trivial,a⟩,b⟩
  ·rw [if_neg hc]
   rcases ow (e:=e) (rd:=rd) ok n ops j (fun c=>wY X.E ops M seen (fun r=>K (c::r)) F) F with h|⟨c,hck,h⟩
   ·exact .inl h
   ·rw [h]
    rcases gm ok n ops Es Bi M F seen hs' (fun r=>K (c::r))with h|⟨cs,h1,h2⟩
    ·exact .inl h
    ·refine .inr ⟨c::cs,fun l ds h K r q=> ?_,h2⟩
     obtain⟨a1,b1⟩:=hck l ds h _ r q
     obtain⟨a,b⟩:=h1 l ds h K r b1
     exact⟨⟨by rw [if_neg hc]; exact a1,a⟩,b⟩
noncomputable def vW (E:KE) (M:TypeId→String→Option FuncId) (n:Nat) (ops:Array Oper) (EM LM BB:Nat) (F:S) (order:List Nat) (seen:List Nat) (K:List QS→S):S:=
 List.rec (motive:=fun _=>List Nat→(List QS→S)→S) (fun _ K=>K []) (fun i _ ih seen K=>match ops[i]? with
  |none=>F
  | some o=>cG ops o (fun g=>zb (tb EM i) (Zv E M o.op (fun q=>wY E ops (Nat.lor (Nat.lor EM LM) (yD BB i)) seen (fun cs=>ih (i::seen) fun r=>K (.mk (.op g q (cT n o.dst)) cs::r)) F) F)
   (zb (tb LM i) (zb (qC o.op&&o.guard.isNone) (cOp E o.op (fun q=>wY E ops (Nat.lor (Nat.lor EM LM) (yD BB i)) seen (fun cs=>ih (i::seen) fun r=>K (.mk (.op g q (cT n o.dst)) cs::r)) F) F) F)
   (zb (wV E.T o.op) (cOp E o.op (fun q=>ih (i::seen) fun r=>K (.mk (.op g q (cT n o.dst)) []::r)) F) F))) F) order seen K
theorem gd (ok:X.Ok P) (he:e.ok P X) (n:Nat) (ops:Array Oper) (hN:ops.size≤64) (EM LM BB:Nat) (F:S):∀(order seen:List Nat),(∀j∈seen,j<ops.size)→∀(K:List QS→S),vW X.E X.S.M n ops EM LM BB F order seen K=F ∨
  ∃s:List QS,(∀l ds h (K:QKS) r,pf s e l ds h K=some r→∃l' h',K l' ds h'=some r∧kD3 P X.E rd ops (xm EM ops.size) (xm LM ops.size) [] (ba BB ops.size) order seen ⟨n,l,ds⟩ h fun f t=>f=⟨n,l',ds⟩∧t=h')∧vW X.E X.S.M n ops EM LM BB F order seen K=K s
 | [],seen,_,K=> .inr ⟨[],fun l ds h K r q=>⟨l,h,q,rfl,rfl⟩,rfl⟩
 | i :: order,seen,hs,K=>by
  have e0:vW X.E X.S.M n ops EM LM BB F (i::order) seen K=(match ops[i]? with
   |none=>F
   | some o=>cG ops o (fun g=>zb (tb EM i) (Zv X.E X.S.M o.op (fun q=>wY X.E ops (Nat.lor (Nat.lor EM LM) (yD BB i)) seen (fun cs=>vW X.E X.S.M n ops EM LM BB F order (i::seen) fun r=>K (.mk (.op g q (cT n o.dst)) cs::r)) F) F)
    (zb (tb LM i) (zb (qC o.op&&o.guard.isNone) (cOp X.E o.op (fun q=>wY X.E ops (Nat.lor (Nat.lor EM LM) (yD BB i)) seen (fun cs=>vW X.E X.S.M n ops EM LM BB F order (i::seen) fun r=>K (.mk (.op g q (cT n o.dst)) cs::r)) F) F) F)
    (zb (wV X.E.T o.op) (cOp X.E o.op (fun q=>vW X.E X.S.M n ops EM LM BB F order (i::seen) fun r=>K (.mk (.op g q (cT n o.dst)) []::r)) F) F))) F):=rfl
  rw [e0]
  clear e0
  cases ho:ops[i]? with
  |none=>exact .inl rfl
  | some o =>
   simp only
   have hd:zd ops i=o.dst:=by simp [zd,ho]
   have ht:=Pj n o.dst
   have hi:i<ops.size:=by
    rcases Nat.lt_or_ge i ops.size with h|h
    ·exact h
    ·rw [Array.getElem?_eq_none h]at ho; cases ho
   have hs':∀j∈i::seen,j<ops.size:=fun j hj=>by
    rcases List.mem_cons.1 hj with rfl|hj
    ·exact hi
    ·exact hs j hj
   have hM:∀j∈seen,((xm EM ops.size++xm LM ops.size++Di []).contains j||((ba BB ops.size).getD i []).contains j)=tb (Nat.lor (Nat.lor EM LM) (yD BB i)) j:=fun j hj=>by
    have h1:=hs j hj
    rw [show xm EM ops.size++xm LM ops.size++Di []=xm EM ops.size++xm LM ops.size from List.append_nil _,Xg h1,Vt hi h1,w5,w5 (Nat.lor EM LM),w5 EM LM,jv]
    simp [show j<64 by omega]
   generalize hB:(fun g=>zb (tb EM i) (Zv X.E X.S.M o.op (fun q=>wY X.E ops (Nat.lor (Nat.lor EM LM) (yD BB i)) seen (fun cs=>vW X.E X.S.M n ops EM LM BB F order (i::seen) fun r=>K (.mk (.op g q (cT n o.dst)) cs::r)) F) F)
    (zb (tb LM i) (zb (qC o.op&&o.guard.isNone) (cOp X.E o.op (fun q=>wY X.E ops (Nat.lor (Nat.lor EM LM) (yD BB i)) seen (fun cs=>vW X.E X.S.M n ops EM LM BB F order (i::seen) fun r=>K (.mk (.op g q (cT n o.dst)) cs::r)) F) F) F)
    (zb (wV X.E.T o.op) (cOp X.E o.op (fun q=>vW X.E X.S.M n ops EM LM BB F order (i::seen) fun r=>K (.mk (.op g q (cT n o.dst)) []::r)) F) F)))=Bd
   rcases KY ops o Bd F with h|⟨g,hg,h⟩
   ·exact .inl h
   ·rw [h, ←hB]
    simp only [za]
    by_cases hE:tb EM i=true
    ·rw [if_pos hE]
     rcases WY (e:=e) (rd:=rd) ok he o.op (fun q=>wY X.E ops (Nat.lor (Nat.lor EM LM) (yD BB i)) seen (fun cs=>vW X.E X.S.M n ops EM LM BB F order (i::seen) fun r=>K (.mk (.op g q (cT n o.dst)) cs::r)) F) F with h|⟨q,hq,h⟩
     ·exact .inl h
     ·rw [h]
      rcases gm (e:=e) (rd:=rd) ok n ops (xm EM ops.size++xm LM ops.size++Di []) ((ba BB ops.size).getD i []) (Nat.lor (Nat.lor EM LM) (yD BB i)) F seen hM (fun cs=>vW X.E X.S.M n ops EM LM BB F order (i::seen) fun r=>K (.mk (.op g q (cT n o.dst)) cs::r))with h|⟨cs,hcs,h⟩
      ·exact .inl h
      ·rw [h]
       rcases gd ok he n ops hN EM LM BB F order (i::seen) hs' (fun r=>K (.mk (.op g q (cT n o.dst)) cs::r))with h|⟨s,hs,h⟩
       ·exact .inl h
       ·refine .inr ⟨.mk (.op g q (cT n o.dst)) cs::s, ?_,h⟩
        intro l ds h K r qq
        have qq:g.run l (q.run e l h fun v h=>(cT n o.dst).put v l fun l=>uJ cs e l h (pf s e l ds h K)) ((cT n o.dst).put (.tuple []) l fun l=>uJ cs e l h (pf s e l ds h K))=some r:=qq
        simp only [kD3]
        rcases hg _ _ _ _ qq with⟨hw,hy⟩|⟨hw,hn⟩
        ·obtain⟨v,h1,k,e2⟩:=hq o rfl _ _ _ _ hy
         rw [ht l ds v]at e2
         obtain⟨st,e3⟩:=hcs _ ds _ _ _ e2
         obtain⟨l',h',e4,k2⟩:=hs _ _ _ _ _ e3
         refine⟨l',h',e4, ?_⟩
         rw [if_pos ((xr hi).trans hE)]
         unfold W7
         simp only [ho,hw]
         rw [←xD]at st k2
         exact⟨v,h1,k,st,fun q=>absurd rfl q,k2⟩
        ·rw [ht l ds]at hn
         obtain⟨st,e3⟩:=hcs _ ds _ _ _ hn
         obtain⟨l',h',e4,k2⟩:=hs _ _ _ _ _ e3
         refine⟨l',h',e4, ?_⟩
         rw [if_pos ((xr hi).trans hE)]
         unfold W7
         simp only [ho,hw]
         rw [←xD]at st k2
         exact⟨st,fun q=>absurd rfl q,k2⟩
    ·rw [if_neg hE]
     by_cases hL:tb LM i=true
     ·rw [if_pos hL]
      by_cases ha:(qC o.op&&o.guard.isNone)=true
      ·rw [if_pos ha]
       simp only [iF,Option.isNone_iff_eq_none]at ha
       rcases dN (E:=X.E) o.op (fun q=>wY X.E ops (Nat.lor (Nat.lor EM LM) (yD BB i)) seen (fun cs=>vW X.E X.S.M n ops EM LM BB F order (i::seen) fun r=>K (.mk (.op g q (cT n o.dst)) cs::r)) F) F with h|⟨q,hq,h⟩
       ·exact .inl h
       ·rw [h]
        rcases gm (e:=e) (rd:=rd) ok n ops (xm EM ops.size++xm LM ops.size++Di []) ((ba BB ops.size).getD i []) (Nat.lor (Nat.lor EM LM) (yD BB i)) F seen hM (fun cs=>vW X.E X.S.M n ops EM LM BB F order (i::seen) fun r=>K (.mk (.op g q (cT n o.dst)) cs::r))with h|⟨cs,hcs,h⟩
        ·exact .inl h
        ·rw [h]
         rcases gd ok he n ops hN EM LM BB F order (i::seen) hs' (fun r=>K (.mk (.op g q (cT n o.dst)) cs::r))with h|⟨s,hs,h⟩
         ·exact .inl h
         ·refine .inr ⟨.mk (.op g q (cT n o.dst)) cs::s, ?_,h⟩
          intro l ds h K r qq
          have qq:g.run l (q.run e l h fun v h=>(cT n o.dst).put v l fun l=>uJ cs e l h (pf s e l ds h K)) ((cT n o.dst).put (.tuple []) l fun l=>uJ cs e l h (pf s e l ds h K))=some r:=qq
          simp only [kD3]
          rcases hg _ _ _ _ qq with⟨hw,hy⟩|⟨hw,hn⟩
          ·obtain⟨v,h1,e1,e2⟩:=hq _ _ _ _ _ hy
           obtain⟨tm,cells,k1,k2,rfl,rfl⟩:=pF ha.1 e1
           have e2:((cT n o.dst).put (tm.at h.next) l fun l=>uJ cs e l (h.push (.cells false cells)) (pf s e l ds (h.push (.cells false cells)) K))=some r:=e2
           rw [ht l ds]at e2
           obtain⟨st,e3⟩:=hcs _ ds _ _ _ e2
           obtain⟨l',h',e4,k3⟩:=hs _ _ _ _ _ e3
           refine⟨l',h',e4, ?_⟩
           rw [if_neg (fun h=>hE ((xr hi).symm.trans h)),if_pos ((xr hi).trans hL)]
           rw [←xD]at st k3
           exact⟨o,tm,cells,ho,k1,k2,st,fun q=>absurd rfl q,k3⟩
          ·rw [yr,ha.2]at hw; cases hw
      ·rw [if_neg ha]; exact .inl rfl
     ·rw [if_neg hL]
      by_cases hp:wV X.E.T o.op=true
      ·rw [if_pos hp]
       rcases dN (E:=X.E) o.op (fun q=>vW X.E X.S.M n ops EM LM BB F order (i::seen) fun r=>K (.mk (.op g q (cT n o.dst)) []::r)) F with h|⟨q,hq,h⟩
       ·exact .inl h
       ·rw [h]
        rcases gd ok he n ops hN EM LM BB F order (i::seen) hs' (fun r=>K (.mk (.op g q (cT n o.dst)) []::r))with h|⟨s,hs,h⟩
        ·exact .inl h
        ·refine .inr ⟨.mk (.op g q (cT n o.dst)) []::s, ?_,h⟩
         intro l ds h K r qq
         have qq:g.run l (q.run e l h fun v h=>(cT n o.dst).put v l fun l=>pf s e l ds h K) ((cT n o.dst).put (.tuple []) l fun l=>pf s e l ds h K)=some r:=qq
         simp only [kD3]
         rcases hg _ _ _ _ qq with⟨hw,hy⟩|⟨hw,hn⟩
         ·obtain⟨v,h1,e1,e2⟩:=hq _ _ _ _ _ hy
          have:=ue hp e1
          subst this
          have e2:((cT n o.dst).put v l fun l=>pf s e l ds h1 K)=some r:=e2
          rw [ht l ds v]at e2
          obtain⟨l',h',e4,k2⟩:=hs _ _ _ _ _ e2
          refine⟨l',h',e4, ?_⟩
          rw [if_neg (fun h=>hE ((xr hi).symm.trans h)),if_neg (fun h=>hL ((xr hi).symm.trans h)),if_neg (by simp [Di])]
          rw [←xD,←hd]at k2
          refine⟨v, ?_,k2⟩
          unfold xM
          simp only [ho,hw]
          exact KDo.exec ok.E e1
         ·rw [ht l ds]at hn
          obtain⟨l',h',e4,k2⟩:=hs _ _ _ _ _ hn
          refine⟨l',h',e4, ?_⟩
          rw [if_neg (fun h=>hE ((xr hi).symm.trans h)),if_neg (fun h=>hL ((xr hi).symm.trans h)),if_neg (by simp [Di])]
          rw [←xD,←hd]at k2
          refine⟨_, ?_,k2⟩
          unfold xM
          simp only [ho,hw]
      ·rw [if_neg hp]; exact .inl rfl
noncomputable def lV (E:KE) (M:TypeId→String→Option FuncId) (out:Bool) (n:Nat) (ops:Array Oper) (draw:Bool):YX:=
 zb draw (K2 E.T ops n (fun order EM LM BB=>vW E M n ops EM LM BB .bad order [] .mk) .bad) (fX E M out n ops ops.toList .mk .bad)
theorem Ge (ops:Array Oper):(List.range ops.size).map (fun i=>ops[i]?)=ops.toList.map some:=by
 apply List.ext_getElem?
 intro i
 simp only [List.getElem?_map,List.getElem?_range',Array.getElem?_toList]
 by_cases hi:i<ops.size
 ·simp [hi]
 ·simp [hi]
theorem eX (ok:X.Ok P) (he:e.ok P X) {n:Nat} {id:Nat} {ops:Array Oper} {draw:Bool} {l:Sl} {ds:List KD} {h:KH} {K:QKS} {r:KV×KH} (q:(lV X.E X.S.M rd.isNone n ops draw).run e l ds h K=some r):
  ∃l' ds' h',K l' ds' h'=some r∧KC P rd (.region id ops draw) ⟨n,l,ds⟩ h .normal ⟨n,l',ds'⟩ h':=by
 unfold lV at q
 rw [za]at q
 cases draw with
 | true=>
  simp only [if_true]at q
  rcases Px X.E.T ops n (fun order EM LM BB=>vW X.E X.S.M n ops EM LM BB .bad order [] .mk) YX.bad with h0|⟨order,EM,LM,BB,hc,h0⟩
  ·rw [h0]at q; cases q
  ·rw [h0]at q
   rcases gd (e:=e) (rd:=rd) ok he n ops hc.2 EM LM BB YX.bad order [] (by simp) YX.mk with h1|⟨s,hs,h1⟩
   ·rw [h1]at q; cases q
   ·rw [h1]at q
    obtain⟨l',h',e1,k⟩:=hs _ _ _ _ _ q
    exact⟨l',ds,h',e1,VL (fr:=⟨n,l,ds⟩) ok.E ok.mixed hc.1.to3 (fun i hi=>(xY.1 hi).1) (fun q=>absurd rfl q) k⟩
 | false=>
  simp only [Bool.false_eq_true,if_false]at q
  rcases Q8 (e:=e) (rd:=rd) ok he n ops YX.bad ops.toList YX.mk with h1|⟨s,hs,h1⟩
  ·rw [h1]at q; cases q
  ·rw [h1]at q
   obtain⟨l',ds',h',e1,k⟩:=hs _ _ _ _ _ q
   exact⟨l',ds',h',e1,B6 (k _ (Ge ops))⟩
end
end Go.K
end
