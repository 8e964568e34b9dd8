/- The layer of closed runs: a part. No condition beyond each statement's own. -/
import Derived.Test.YtkabooclnoiclaaGreatDoorK13
set_option linter.unusedVariables false
set_option linter.unusedSimpArgs false
set_option linter.unnecessarySimpa false
section
namespace Go.K
open Go.Abs
def BF:Nat:=1000000
attribute [irreducible] BF
abbrev QKE:=Exit→Sl→List KD→KH→QR
noncomputable def Exit.onN (e:Exit) (a b:QR):QR:=Exit.rec (motive:=fun _=>QR) a (fun _=>b) (fun _=>b) b (fun _=>b) b e
theorem Exit.onN_some {e:Exit} {a b:QR} {r:KV×KH} (h:Exit.onN e a b=some r):(e= .normal∧a=some r)∨(e≠ .normal∧b=some r):=by
 cases e<;>first|exact .inl ⟨rfl,h⟩|exact .inr ⟨(fun x=>by cases x),h⟩
noncomputable def KO.onLoop (o:KO) (f:xe→QR):QR:=KO.rec (motive:=fun _=>QR) (fun _ _=>none) (fun _ _=>none) (fun _ _ _=>none) (fun _ _ _ _=>none) f (fun _=>none) o
noncomputable def KO.onDefd (o:KO) (f:QR):QR:=KO.rec (motive:=fun _=>QR) (fun _ _=>none) (fun _ _=>none) (fun _ _ _=>none) (fun _ _ _ _=>none) (fun _=>none)
 (fun c=>Option.rec (motive:=fun _=>QR) none (fun l=>List.rec (motive:=fun _=>QR) f (fun _ _ _=>none) l) c) o
noncomputable def xe.turned (L:xe) (s:LoopState) (p:Option Code):xe:=xe.rec (motive:=fun _=>xe) (fun _ _ n l ps a b d=>⟨s,p,n,l,ps,a,b,d⟩) L
theorem xe.turned_eq (L:xe) (s:LoopState) (p:Option Code):L.turned s p={L with state:=s,pending:=p}:=rfl
noncomputable def xe.hd (L:xe) (K:xe→QR):QR:=xe.rec (motive:=fun _=>QR) (fun s p n l ps a b d=>K ⟨s,p,n,l,ps,a,b,d⟩) L
theorem xe.hd_eq (L:xe) (K:xe→QR):L.hd K=K L:=rfl
noncomputable def G6 (p:Option Code) (K:Exit→QR):QR:=match qh p with|some e=>K e|none=>none
noncomputable def fL (s:LoopState) (K:QR):QR:=match s with| .busy=>none|_=>K
noncomputable def Pf (s:LoopState) (K:QR):QR:=match s with| .ready=>K|_=>none
noncomputable def Wd (X:QX) (e:QE) (n:Nat) (g:KV) (ps:Array Tmp) (assign body:Code) (l:Sl) (ds:List KD) (h:KH) (K:QKE):QR:=
 g.onFunc (fun fn first cap=>Fn.onFunc fn fun f=>yO h (.defd (some [])) fun i h=>yO h (.loop (We ⟨n,l,ds⟩ ps assign body i)) fun j h=>
  df [.yield j] cap fun yc=>df first yc fun args=>e.call f args h fun _ h=>xO h j fun o=>o.onLoop fun L=>fL L.state (G6 L.pending fun ex=>(L.turned .exhausted L.pending).hd fun L=>j5 h j (.loop L) fun h=>K ex l (.collected i::ds) h))
  (fun _=>none) none
noncomputable def fG (ic:Sl→List KD→KH→QKE→QR) (K:QKE) (m:Nat):Sl→List KD→KH→QR:=Nat.rec (motive:=fun _=>Sl→List KD→KH→QR) (fun _ _ _=>none) (fun _ again l ds h=>ic l ds h fun ex l ds h=>Exit.onN ex (again l ds h) (K ex l ds h)) m
noncomputable def u7 (X:QX) (e:QE) (out:Bool) (n:Nat) (c:Code):Sl→List KD→KH→QKE→QR:=
 Code.rec (motive:=fun _=>Sl→List KD→KH→QKE→QR)
  (fun l ds h K=>K .normal l ds h)
  (fun _ ops draw l ds h K=>(eB X.E X.S.M out n ops draw).run e l ds h fun l ds h=>K .normal l ds h)
  (fun _ _ ia ib l ds h K=>ia l ds h fun ex l ds h=>Exit.onN ex (ib l ds h K) (K ex l ds h))
  (fun c _ _ ia ib l ds h K=>((cO X.E.ng c fun q=>q).ev l).onBool (fun t=>zb t (ia l ds h K) (ib l ds h K)) none)
  (fun id _ ic l ds h K=>ic l ds h fun ex l ds h=>Exit.rec (motive:=fun _=>QR) (K .normal l ds h) (fun i=>zb (Nat.beq i id) (K .normal l ds h) (K (.exit i) l ds h)) (fun g=>K (.goto g) l ds h) (K .ret l ds h) (fun p=>K (.panic p) l ds h) (K .outgrown l ds h) ex)
  (fun _ ic l ds h K=>fG ic K BF l ds h)
  (fun g ps a b _ _ l ds h K=>zb out (Wd X e n ((cO X.E.ng g fun q=>q).ev l) ps a b l ds h K) none)
  (fun i l ds h K=>K (.exit i) l ds h)
  (fun _ ic l ds h K=>ic l ds h fun ex l ds h=>Exit.rec (motive:=fun _=>QR) (K .normal l ds h) (fun i=>K (.exit i) l ds h) (fun _=>none) (K .ret l ds h) (fun p=>K (.panic p) l ds h) (K .outgrown l ds h) ex)
  (fun _ l ds h K=>K .normal l ds h)
  (fun _ _ _ _ _=>none)
  (fun l ds h K=>K .ret l ds h)
  (fun _ _ _ _ _=>none) c
section
variable {P:Program} {X:QX} {e:QE}
theorem BA (ok:X.Ok P) (he:e.ok P X) {n:Nat} {g:Operand} {ps:Array Tmp} {assign body:Code} {l:Sl} {ds:List KD} {h:KH} {K:QKE} {r:KV×KH} (q:Wd X e n (zf X.E.ng l g) ps assign body l ds h K=some r):
  ∃ex l' ds' h',K ex l' ds' h'=some r∧KC P none (.rangeFunc g ps assign body) ⟨n,l,ds⟩ h ex ⟨n,l',ds'⟩ h':=by
 unfold Wd at q
 cases hv:zf X.E.ng l g<;>rw [hv]at q<;>first|(cases q; done)|skip
 rename_i fn first cap
 cases fn<;>first|(cases q; done)|skip
 rename_i f
 simp only [KV.onFunc,Fn.onFunc,yH,jT]at q
 split at q
 ·rename_i hr1
  split at q
  ·rename_i hr2
   obtain⟨v,h3,⟨fn,cd,h1,h2⟩,k,q⟩:=he.call _ _ _ _ _ q
   rw [xj]at q
   have hj:(h.push (.defd (some []))).next=h.next+1:=rfl
   rw [hj]at q k
   cases hL:h3.get (h.next+1)with
   |none=>rw [hL]at q; cases q
   | some o=>
    rw [hL]at q
    cases o<;>first|(cases q; done)|skip
    rename_i L
    simp only [Option.elim_some,KO.onLoop,xe.hd_eq,xe.turned_eq,v6]at q
    have hroom:h.next+2<65000:=by
     have:yw (h.push (.defd (some [])))=true:=hr2
     simpa [yw,zI,hj] using this
    cases hs:L.state<;>rw [hs]at q<;>first|(cases q; done)|skip
    all_goals
     simp only [fL,G6]at q
     cases ha:qh L.pending with
     |none=>rw [ha]at q; cases q
     | some ex=>
      rw [ha]at q
      exact⟨ex,l, .collected h.next::ds,_,q,Pa (fr:=⟨n,l,ds⟩) ok.E ok.S hroom hv h1 h2 (by rw [List.append_assoc]; exact k) hL (by rw [hs]; simp) ha⟩
  ·cases q
 ·cases q
theorem q8 (ok:X.Ok P) (he:e.ok P X) {rd:Option Nat} {out:Bool} (ho:out=rd.isNone) (n:Nat):∀(c:Code) (l:Sl) (ds:List KD) (h:KH) (K:QKE) (r:KV×KH),u7 X e out n c l ds h K=some r →
  ∃ex l' ds' h',K ex l' ds' h'=some r∧KC P rd c ⟨n,l,ds⟩ h ex ⟨n,l',ds'⟩ h':=by
 have hng:=ok.E.ng
 intro c
 induction c with
 |skip=>exact fun l ds h K r q=>⟨_,_,_,_,q,cL⟩
 | region id ops draw=>
  intro l ds h K r q
  have q:(eB X.E X.S.M out n ops draw).run e l ds h (fun l ds h=>K .normal l ds h)=some r:=q
  subst ho
  obtain⟨l',ds',h',e1,k⟩:=PK (rd:=rd) (id:=id) ok he q
  exact⟨_,_,_,_,e1,k⟩
 | seq a b ia ib=>
  intro l ds h K r q
  obtain⟨ex,l1,ds1,h1,q1,k1⟩:=ia l ds h _ r q
  rcases Exit.onN_some q1 with⟨rfl,q2⟩|⟨hne,q2⟩
  ·obtain⟨ex,l2,ds2,h2,q3,k2⟩:=ib l1 ds1 h1 K r q2
   exact⟨_,_,_,_,q3,GU k1 k2⟩
  ·exact⟨_,_,_,_,q2,Qk k1 hne⟩
 | cond o a b ia ib=>
  intro l ds h K r q
  have q:((cO X.E.ng o fun q=>q).ev l).onBool (fun t=>zb t (u7 X e out n a l ds h K) (u7 X e out n b l ds h K)) none=some r:=q
  obtain⟨qo,hq,e1⟩:=jp X.E.ng o fun q=>q
  rw [e1,hq]at q
  cases hv:zf X.E.ng l o<;>rw [hv]at q<;>first|(cases q; done)|skip
  rename_i t
  simp only [KV.onBool,za]at q
  cases t with
  |true=>obtain⟨ex,l2,ds2,h2,q3,k2⟩:=ia l ds h K r q; exact⟨_,_,_,_,q3,QW hng (fr:=⟨n,l,ds⟩) hv k2⟩
  |false=>obtain⟨ex,l2,ds2,h2,q3,k2⟩:=ib l ds h K r q; exact⟨_,_,_,_,q3,QW hng (fr:=⟨n,l,ds⟩) hv k2⟩
 | block id c ic=>
  intro l ds h K r q
  obtain⟨ex,l1,ds1,h1,q1,k1⟩:=ic l ds h _ r q
  cases ex with
  | exit i=>
   simp only [za,Nat.beq_eq]at q1
   split at q1
   ·rename_i hi; exact⟨_,_,_,_,q1,uk k1 _ (by simp [hi])⟩
   ·rename_i hi; exact⟨_,_,_,_,q1,uk k1 _ (by simp [hi])⟩
  |normal=>exact⟨_,_,_,_,q1,uk k1 _ rfl⟩
  |goto _=>exact⟨_,_,_,_,q1,uk k1 _ rfl⟩
  |ret=>exact⟨_,_,_,_,q1,uk k1 _ rfl⟩
  |panic _=>exact⟨_,_,_,_,q1,uk k1 _ rfl⟩
  |outgrown=>exact⟨_,_,_,_,q1,uk k1 _ rfl⟩
 | loop c ic=>
  intro l ds h K r q
  have key:∀(m:Nat) (l:Sl) (ds:List KD) (h:KH),fG (u7 X e out n c) K m l ds h=some r →
    ∃ex l' ds' h',K ex l' ds' h'=some r∧KL P rd c ⟨n,l,ds⟩ h ex ⟨n,l',ds'⟩ h':=by
   intro m
   induction m with
   |zero=>intro l ds h q; cases q
   | succ m im=>
    intro l ds h q
    obtain⟨ex,l1,ds1,h1,q1,k1⟩:=ic l ds h _ r q
    rcases Exit.onN_some q1 with⟨rfl,q2⟩|⟨hne,q2⟩
    ·obtain⟨ex,l2,ds2,h2,q3,k2⟩:=im l1 ds1 h1 q2
     exact⟨_,_,_,_,q3,cE k1 k2⟩
    ·exact⟨_,_,_,_,q2,mZ k1 hne⟩
  obtain⟨ex,l2,ds2,h2,q3,k2⟩:=key BF l ds h q
  exact⟨_,_,_,_,q3,PS k2⟩
 | rangeFunc g ps a b _ _=>
  intro l ds h K r q
  have q:zb out (Wd X e n ((cO X.E.ng g fun q=>q).ev l) ps a b l ds h K) none=some r:=q
  rw [za]at q
  split at q
  ·rename_i hout
   rw [ho]at hout
   cases rd with
   |some _=>cases hout
   | none=>
    obtain⟨qo,hq,e1⟩:=jp X.E.ng g fun q=>q
    rw [e1,hq]at q
    exact BA ok he q
  ·cases q
 |exit i=>exact fun l ds h K r q=>⟨_,_,_,_,q,cz⟩
 | scope c ic=>
  intro l ds h K r q
  obtain⟨ex,l1,ds1,h1,q1,k1⟩:=ic l ds h _ r q
  cases ex with
  |goto _=>cases q1
  |normal=>exact⟨_,_,_,_,q1,qu k1 (by simp)⟩
  |exit _=>exact⟨_,_,_,_,q1,qu k1 (by simp)⟩
  |ret=>exact⟨_,_,_,_,q1,qu k1 (by simp)⟩
  |panic _=>exact⟨_,_,_,_,q1,qu k1 (by simp)⟩
  |outgrown=>exact⟨_,_,_,_,q1,qu k1 (by simp)⟩
 |label _=>exact fun l ds h K r q=>⟨_,_,_,_,q,DU⟩
 |goto _=>intro l ds h K r q; cases q
 |ret=>exact fun l ds h K r q=>⟨_,_,_,_,q,mw⟩
 |refuse _=>intro l ds h K r q; cases q
end
inductive QRv where
 |tmp (g:Sl→KV)
 |cell (g:Sl→KV) (ld:KV→KH→QK→QR)
inductive QFn where
 |no
 |mk (n:Nat) (c:Code) (rs:List QRv)
section
variable {S:Type}
noncomputable def pr (E:KE) (rs:List ResultVar) (K:List QRv→S) (F:S):S:=
 List.rec (motive:=fun _=>(List QRv→S)→S) (fun K=>K []) (fun x _ ih K=>match x with
  | .tmp t=>Sel.rec (motive:=fun _=>S) (fun g=>ih fun r=>K (.tmp g::r)) (dS t)
  | .cell x t=>zb ((E.T t).ok && !(wH (E.T t).d)) (Sel.rec (motive:=fun _=>S) (fun g=>zb (E.T t).d.agg (nfc (E.T t).sz fun n=>ih fun r=>K (.cell g (ZC n)::r)) (ih fun r=>K (.cell g ZH::r))) (dS x)) F) rs K
end
noncomputable def Vk (rs:List QRv) (l:Sl) (h:KH) (K:List KV→QR):QR:=
 List.rec (motive:=fun _=>(List KV→QR)→QR) (fun K=>K []) (fun x _ ih K=>QRv.rec (motive:=fun _=>QR) (fun g=>(g l).hd fun v=>ih fun vs=>K (v::vs)) (fun g ld=>ld (g l) h fun v _=>v.hd fun v=>ih fun vs=>K (v::vs)) x) rs K
noncomputable def oC (vs:List KV) (K:KV→QR):QR:=List.rec (motive:=fun _=>QR) (K (.tuple [])) (fun v r _=>List.rec (motive:=fun _=>QR) (K v) (fun _ _ _=>K (.tuple (v::r))) r) vs
def oa:List KV→KV
 | [v]=>v
 |vs=> .tuple vs
theorem P4 (vs:List KV) (K:KV→QR):oC vs K=K (oa vs):=by
 match vs with
 | []=>rfl
 | [v]=>rfl
 |v::u::r=>rfl
def UN (E:KE) (s:List QRv) (rs:List ResultVar):Prop:=∀l h K r,Vk s l h K=some r→∃vs,go E h l rs=some vs∧K vs=some r
theorem Qy {S:Type} (E:KE) (F:S):∀(rs:List ResultVar) (K:List QRv→S),pr E rs K F=F∨∃s,UN E s rs∧pr E rs K F=K s
 | [],K=> .inr ⟨[],fun l h K r q=>⟨[],rfl,q⟩,rfl⟩
 | x ::rs,K=>by
  have fin:∀(y:QRv),(∀l h (K:KV→QR) r,QRv.rec (motive:=fun _=>QR) (fun g=>(g l).hd K) (fun g ld=>ld (g l) h fun v _=>v.hd K) y=some r→∃v,Xj E h l x=some v∧K v=some r) →
    pr E (x::rs) K F=pr E rs (fun r=>K (y::r)) F→pr E (x::rs) K F=F∨∃s,UN E s (x::rs)∧pr E (x::rs) K F=K s:=by
   intro y hy e0
   rcases Qy E F rs (fun r=>K (y::r))with h|⟨s,hs,h⟩
   ·exact .inl (e0.trans h)
   ·refine .inr ⟨y::s, ?_,e0.trans h⟩
    intro l h K r q
    have q:QRv.rec (motive:=fun _=>QR) (fun g=>(g l).hd fun v=>Vk s l h fun vs=>K (v::vs)) (fun g ld=>ld (g l) h fun v _=>v.hd fun v=>Vk s l h fun vs=>K (v::vs)) y=some r:=q
    obtain⟨v,e1,q⟩:=hy l h _ r q
    obtain⟨vs,e2,q⟩:=hs _ _ _ _ q
    exact⟨v::vs,by simp only [go,e1,e2],q⟩
  cases x with
  | tmp t=>
   refine fin (.tmp fun l=>yj l t) ?_ ?_
   ·intro l h K r q
    simp only [KV.hd_eq]at q
    exact⟨_,rfl,q⟩
   ·have e0:pr E (.tmp t::rs) K F=Sel.rec (motive:=fun _=>S) (fun g=>pr E rs (fun r=>K (.tmp g::r)) F) (dS t):=rfl
    rw [e0,Vz]
  | cell x t=>
   have e0:pr E (.cell x t::rs) K F=zb ((E.T t).ok && !(wH (E.T t).d)) (Sel.rec (motive:=fun _=>S) (fun g=>zb (E.T t).d.agg (nfc (E.T t).sz fun n=>pr E rs (fun r=>K (.cell g (ZC n)::r)) F) (pr E rs (fun r=>K (.cell g ZH::r)) F)) (dS x)) F:=rfl
   rw [za]at e0
   by_cases hc:((E.T t).ok && !(wH (E.T t).d))=true
   ·rw [if_pos hc,Vz]at e0
    simp only [za,zi]at e0
    simp only [Bool.and_eq_true,Bool.not_eq_true']at hc
    have h1:(E.T t).ok=true∧(E.T t).d≠ .other:=⟨hc.1,vY _ hc.2⟩
    by_cases ha:(E.T t).d.agg=true
    ·rw [if_pos ha]at e0
     refine fin (.cell (fun l=>yj l x) (ZC (E.T t).sz)) ?_ e0
     intro l h K r q
     obtain⟨v,h',e1,e2⟩:=Y6 (yj l x) (E.T t).sz r q
     obtain⟨u,e3,e4⟩:=Option.map_eq_some_iff.1 e1
     simp only [Prod.mk.injEq]at e4
     obtain⟨rfl,rfl⟩:=e4
     have e2:u.hd K=some r:=e2
     rw [KV.hd_eq]at e2
     exact⟨u,by simp only [Xj,if_pos h1,ha,e3],e2⟩
    ·rw [if_neg ha]at e0
     rw [Bool.not_eq_true]at ha
     refine fin (.cell (fun l=>yj l x) ZH) ?_ e0
     intro l h K r q
     obtain⟨v,h',e1,e2⟩:=Xc (yj l x) (E.T t).sz r q
     obtain⟨u,e3,e4⟩:=Option.map_eq_some_iff.1 e1
     simp only [Prod.mk.injEq]at e4
     obtain⟨rfl,rfl⟩:=e4
     have e2:u.hd K=some r:=e2
     rw [KV.hd_eq]at e2
     exact⟨u,by simp only [Xj,if_pos h1,ha,e3],e2⟩
   ·rw [if_neg hc]at e0; exact .inl e0
noncomputable def cFn (X:QX) (f:FuncId):QFn:=match X.S.F f with
 |none=> .no
 | some fn=>match fn.body with
  |none=> .no
  |some c=>nfc fn.ntmps fun n=>pr X.E fn.results.toList (fun rs=> .mk n c rs) .no
theorem Pw {X:QX} {f:FuncId} {n:Nat} {c:Code} {rs:List QRv} (h:cFn X f= .mk n c rs):∃fn,X.S.F f=some fn∧fn.body=some c∧fn.ntmps=n∧UN X.E rs fn.results.toList:=by
 unfold cFn at h
 split at h
 ·cases h
 ·rename_i fn hf
  split at h
  ·cases h
  ·rename_i c' hb
   rw [zi]at h
   rcases Qy X.E QFn.no fn.results.toList (fun rs=>QFn.mk fn.ntmps c' rs)with e|⟨s,hs,e⟩
   ·rw [e]at h; cases h
   ·rw [e]at h
    injection h with h1 h2 h3
    subst h1 h2 h3
    exact⟨fn,hf,hb,rfl,hs⟩
noncomputable def VY (vs:List KV) (i:Nat) (s:Sl) (K:Sl→QR):QR:=List.rec (motive:=fun _=>Nat→Sl→QR) (fun _ s=>K s) (fun v _ ih i s=>Upd.rec (motive:=fun _=>QR) (fun u=>u (fun _ k=>k v) s fun s=>nfc (Nat.succ i) fun i=>ih i s) (dU i)) vs i s
theorem Zc (K:Sl→QR):∀(vs:List KV) (i:Nat) (s:Sl),VY vs i s K=K (k9 vs i s)
 | [],i,s=>rfl
 | v::vs,i,s=>by
  have e:VY (v::vs) i s K=Upd.rec (motive:=fun _=>QR) (fun u=>u (fun _ k=>k v) s fun s=>nfc (Nat.succ i) fun i=>VY vs i s K) (dU i):=rfl
  rw [e,BS]
  simp only [zi]
  exact Zc K vs (i+1) _
noncomputable def Gr (ts:List Tmp) (vs:List KV) (n:Nat) (s:Sl) (K:Sl→QR):QR:=
 List.rec (motive:=fun _=>List KV→Sl→QR) (fun _ s=>K s) (fun t _ ih vs s=>List.rec (motive:=fun _=>QR) (K s) (fun v vs _=>zb (Nat.blt t n) (Upd.rec (motive:=fun _=>QR) (fun u=>u (fun _ k=>k v) s fun s=>ih vs s) (dU t)) (ih vs s)) vs) ts vs s
theorem pQ (n:Nat) (ds:List KD) (K:Sl→QR):∀(ts:List Tmp) (vs:List KV) (s:Sl),Gr ts vs n s K=K (Z7 ts vs ⟨n,s,ds⟩).l∧Z7 ts vs ⟨n,s,ds⟩=⟨n,(Z7 ts vs ⟨n,s,ds⟩).l,ds⟩
 | [],vs,s=>⟨rfl,rfl⟩
 |t::ts,[],s=>⟨rfl,rfl⟩
 | t::ts,v::vs,s=>by
  have e:Gr (t::ts) (v::vs) n s K=zb (Nat.blt t n) (Upd.rec (motive:=fun _=>QR) (fun u=>u (fun _ k=>k v) s fun s=>Gr ts vs n s K) (dU t)) (Gr ts vs n s K):=rfl
  rw [e,BS,za]
  simp only [Z7]
  have hp:(KFr.mk n s ds).put (some t) v=bif Nat.blt t n then⟨n,xk s t v,ds⟩else⟨n,s,ds⟩:=rfl
  rw [hp]
  cases hb:Nat.blt t n with
  |true=>exact pQ n ds K ts vs _
  |false=>exact pQ n ds K ts vs _
noncomputable def XM (e:QE) (ds:List KD) (h:KH) (K:KH→QR):QR:=List.rec (motive:=fun _=>KH→QR) K
 (fun d _ ih h=>KD.rec (motive:=fun _=>QR) (fun fn cap args=>Fn.onFunc fn fun f=>df args cap fun a=>e.calld f a h ih) (fun id=>xO h id fun o=>o.onDefd (j5 h id (.defd none) ih)) d) ds h
noncomputable def Dd (X:QX) (e:QE) (f:FuncId) (args:List KV) (h:KH) (K:QK):QR:=QFn.rec (motive:=fun _=>QR) none (fun n c rs=>zb (Nat.ble args.length n) (VY args 0 .none fun l=>u7 X e true n c l [] h fun ex l ds h=>
 (fun K=>Exit.rec (motive:=fun _=>QR) K (fun _=>none) (fun _=>none) K (fun _=>none) none ex) (XM e ds h fun h=>Vk rs l h fun vs=>oC vs fun v=>K v h)) none) (cFn X f)
noncomputable def Js (X:QX) (e:QE) (f:FuncId) (args:List KV) (h:KH) (K:KH→QR):QR:=QFn.rec (motive:=fun _=>QR) none (fun n c rs=>zb (Nat.ble args.length n) (VY args 0 .none fun l=>u7 X e true n c l [] h fun ex l ds h=>
 (fun K=>Exit.rec (motive:=fun _=>QR) K (fun _=>none) (fun _=>none) K (fun _=>none) none ex) (List.rec (motive:=fun _=>QR) (Vk rs l h fun _=>K h) (fun _ _ _=>none) ds)) none) (cFn X f)
noncomputable def DL (X:QX) (e:QE) (f:FuncId) (args:List KV) (h:KH) (K:QK):QR:=Option.rec (motive:=fun _=>QR) (Dd X e f args h K) (fun g=>Option.rec (motive:=fun _=>QR) none (fun p=>Prod.rec (motive:=fun _=>QR) (fun v h=>K v h) p) (g args h)) (X.C f)
noncomputable def fm (ex:Exit) (K:Option Code→QR):QR:=match gj ex with|some j=>K j|none=>none
noncomputable def Jj (X:QX) (e:QE) (id:Nat) (args:List KV) (h:KH) (K:QK):QR:=
 xO h id fun o=>o.onLoop fun L=>L.hd fun L=>zb (Nat.beq args.length L.params.size) (Gr L.params.toList args L.n L.l fun l=>u7 X e false L.n L.assign l [] h fun ex l1 ds1 h1=>
  Exit.onN ex (xO h1 id fun o=>o.onLoop fun L1=>Pf L1.state ((L1.turned .busy L1.pending).hd fun L1=>j5 h1 id (.loop L1) fun h2=>u7 X e false L.n L.body l1 ds1 h2 fun ex3 l3 ds3 h3=>
   fm ex3 fun j=>xO h3 id fun o=>o.onLoop fun L3=>zb j.isNone ((L3.turned .ready j).hd fun L3=>j5 h3 id (.loop L3) fun h4=>K (.bool true) h4) ((L3.turned .done j).hd fun L3=>j5 h3 id (.loop L3) fun h4=>K (.bool false) h4))) none) none
noncomputable def qgo (X:QX) (n:Nat):QE:=Nat.rec (motive:=fun _=>QE) ⟨fun _ _ _ _=>none,fun _ _ _ _=>none,fun _ _ _ _=>none⟩ (fun _ e=>⟨DL X e,Jj X e,Js X e⟩) n
section
variable {P:Program} {X:QX} {e:QE}
theorem gW (he:e.ok P X):∀(ds:List KD) (h:KH) (K:KH→QR) (r:KV×KH),XM e ds h K=some r→∃h',q7 P X.S ds h h'∧K h'=some r
 | [],h,K,r,q=>⟨h, .nil,q⟩
 | d ::ds,h,K,r,q=>by
  cases d with
  | fn fn cap args=>
   have q:Fn.onFunc fn (fun f=>df args cap fun a=>e.calld f a h fun h=>XM e ds h K)=some r:=q
   cases fn<;>first|(cases q; done)|skip
   rename_i f
   simp only [Fn.onFunc,jT]at q
   obtain⟨h1,⟨fn,c,hf,hb⟩,k,q⟩:=he.calld _ _ _ _ _ q
   obtain⟨h2,k2,q⟩:=gW he ds h1 K r q
   exact⟨h2, .fn hf hb k k2,q⟩
  | collected id=>
   have q:xO h id (fun o=>o.onDefd (j5 h id (.defd none) fun h=>XM e ds h K))=some r:=q
   rw [xj]at q
   cases hg:h.get id with
   |none=>rw [hg]at q; cases q
   | some o=>
    rw [hg]at q
    cases o<;>first|(cases q; done)|skip
    rename_i c
    cases c with
    |none=>cases q
    | some cl=>cases cl with
     |cons _ _=>cases q
     | nil=>
      simp only [Option.elim_some,KO.onDefd,v6]at q
      obtain⟨h2,k2,q⟩:=gW he ds _ K r q
      exact⟨h2, .collected hg k2,q⟩
theorem rQ {ex:Exit} {a:QR} {r:KV×KH} (q:(fun K=>Exit.rec (motive:=fun _=>QR) K (fun _=>none) (fun _=>none) K (fun _=>none) none ex) a=some r):(ex= .normal∨ex= .ret)∧a=some r:=by
 cases ex<;>first|exact⟨.inl rfl,q⟩|exact⟨.inr rfl,q⟩|cases q
theorem Qb {E:KE} {h:KH} {l:Sl} {rs:Array ResultVar} {vs:List KV} (e:go E h l rs.toList=some vs):KB E h l rs=some (oa vs):=by
 unfold KB
 rw [e]
 match vs with
 | []=>rfl
 | [v]=>rfl
 |v::u::r=>rfl
theorem BG (ok:X.Ok P) (he:e.ok P X) {f:FuncId} {args:List KV} {h:KH} {K:QK} {r:KV×KH} (q:Dd X e f args h K=some r):∃v h',(∃fn c,X.S.F f=some fn∧fn.body=some c)∧KCall P f args h v h'∧K v h'=some r:=by
 unfold Dd at q
 cases hc:cFn X f with
 |no=>rw [hc]at q; cases q
 | mk n c rs=>
  rw [hc]at q
  obtain⟨fn,hf,hb,hn,hrs⟩:=Pw hc
  subst hn
  simp only [za,Nat.ble_eq,Zc]at q
  split at q
  ·rename_i hlen
   obtain⟨ex,l',ds',h1,q,k⟩:=q8 (rd:=none) ok he rfl fn.ntmps c _ [] h _ r q
   obtain⟨hex,q⟩:=rQ q
   obtain⟨h2,kl,q⟩:=gW he _ _ _ _ q
   obtain⟨vs,hv,q⟩:=hrs _ _ _ _ q
   rw [P4]at q
   exact⟨_,h2,⟨fn,c,hf,hb⟩,YX ok.E ok.S (ok.S.F hf).1 hb hlen k hex kl (Qb hv),q⟩
  ·cases q
theorem Bx (ok:X.Ok P) (he:e.ok P X) {f:FuncId} {args:List KV} {h:KH} {K:KH→QR} {r:KV×KH} (q:Js X e f args h K=some r):∃h',(∃fn c,X.S.F f=some fn∧fn.body=some c)∧Wb P f args h h'∧K h'=some r:=by
 unfold Js at q
 cases hc:cFn X f with
 |no=>rw [hc]at q; cases q
 | mk n c rs=>
  rw [hc]at q
  obtain⟨fn,hf,hb,hn,hrs⟩:=Pw hc
  subst hn
  simp only [za,Nat.ble_eq,Zc]at q
  split at q
  ·rename_i hlen
   obtain⟨ex,l',ds',h1,q,k⟩:=q8 (rd:=none) ok he rfl fn.ntmps c _ [] h _ r q
   obtain⟨hex,q⟩:=rQ q
   cases ds' with
   |cons _ _=>cases q
   | nil=>
    obtain⟨vs,hv,q⟩:=hrs _ _ _ _ q
    exact⟨h1,⟨fn,c,hf,hb⟩,Bv ok.E (ok.S.F hf).1 hb hlen k hex rfl (Qb hv),q⟩
  ·cases q
theorem KQ (ok:X.Ok P) (he:e.ok P X) {id:Nat} {args:List KV} {h:KH} {K:QK} {r:KV×KH} (q:Jj X e id args h K=some r):∃v h',PA P X.E.ng id args h v h'∧K v h'=some r:=by
 unfold Jj at q
 rw [xj]at q
 cases hL:h.get id with
 |none=>rw [hL]at q; cases q
 | some o=>
  rw [hL]at q
  cases o<;>first|(cases q; done)|skip
  rename_i L
  simp only [Option.elim_some,KO.onLoop,xe.hd_eq,za,Nat.beq_eq]at q
  split at q
  ·rename_i hlen
   rw [(pQ L.n [] _ _ _ _).1]at q
   obtain⟨ex,l1,ds1,h1,q,kA⟩:=q8 (rd:=some id) ok he rfl L.n L.assign _ [] h _ r q
   rcases Exit.onN_some q with⟨rfl,q⟩|⟨_,q⟩
   ·rw [xj]at q
    cases hL1:h1.get id with
    |none=>rw [hL1]at q; cases q
    | some o=>
     rw [hL1]at q
     cases o<;>first|(cases q; done)|skip
     rename_i L1
     simp only [Option.elim_some]at q
     cases hs:L1.state<;>rw [hs]at q<;>first|(cases q; done)|skip
     simp only [Pf,xe.turned_eq,v6]at q
     obtain⟨ex3,l3,ds3,h3,q,kB⟩:=q8 (rd:=some id) ok he rfl L.n L.body _ _ _ _ r q
     unfold fm at q
     cases hj:gj ex3 with
     |none=>rw [hj]at q; cases q
     | some j=>
      rw [hj]at q
      simp only [xj]at q
      cases hL3:h3.get id with
      |none=>rw [hL3]at q; cases q
      | some o=>
       rw [hL3]at q
       cases o<;>first|(cases q; done)|skip
       rename_i L3
       simp only [Option.elim_some]at q
       have key:∃v h',v=KV.bool j.isNone∧h'=h3.set id (some (.loop {L3 with state:=if j.isNone then .ready else .done,pending:=j}))∧K v h'=some r:=by
        cases j with
        |none=>exact⟨_,_,rfl,rfl,q⟩
        |some c=>exact⟨_,_,rfl,rfl,q⟩
       obtain⟨v,h',rfl,rfl,q⟩:=key
       refine⟨_,_, ?_,q⟩
       intro rd o l cl fo ho hc hv ha
       subst ha
       have hfr:Z7 L.params.toList (cl.args.toList.map (zf X.E.ng l)) L.fr=⟨L.n,(Z7 L.params.toList (cl.args.toList.map (zf X.E.ng l)) ⟨L.n,L.l,[]⟩).l,[]⟩:=(pQ L.n [] (fun _=>none) L.params.toList (cl.args.toList.map (zf X.E.ng l)) L.l).2
       exact KDo.yield ok.E ho hc hv hL (by simpa using hlen) (by rw [hfr]; exact kA) hL1 hs kB hj hL3
   ·cases q
  ·cases q
theorem dX (ok:X.Ok P):∀n,(qgo X n).ok P X
 |0=>⟨fun _ _ _ _ _ q=>(by cases q),fun _ _ _ _ _ q=>(by cases q),fun _ _ _ _ _ q=>(by cases q)⟩
 | n + 1=>by
  have he:=dX ok n
  refine⟨fun f args h K r q=> ?_,fun id args h K r q=>KQ ok he q,fun f args h K r q=>Bx ok he q⟩
  have q:DL X (qgo X n) f args h K=some r:=q
  unfold DL at q
  cases hc:X.C f with
  |none=>rw [hc]at q; exact BG ok he q
  | some g=>
   rw [hc]at q
   obtain⟨q1,q2⟩:=ok.C hc
   simp only at q
   cases hg:g args h with
   |none=>rw [hg]at q; cases q
   | some p=>
    obtain⟨v,h'⟩:=p
    rw [hg]at q
    exact⟨v,h',q1,q2 hg,q⟩
theorem VT (ok:X.Ok P) {n:Nat} {f:FuncId} {args:List KV} {h h':KH} {v:KV} (q:(qgo X n).call f args h (fun v h=>some (v,h))=some (v,h')):KCall P f args h v h':=by
 obtain⟨v1,h1,_,k,e⟩:=(dX ok n).call _ _ _ _ _ q
 simp only [Option.some.injEq,Prod.mk.injEq]at e
 obtain⟨rfl,rfl⟩:=e
 exact k
end
end Go.K
end
