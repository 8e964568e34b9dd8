/- Closed runs: a part. No condition beyond each statement's own. -/
import Derived.Test.YtkabooclnoiclaaGreatDoorK04
set_option linter.all false
section
namespace Go.K
open Go.Abs
def Bl (d:TD) (x y:KV):Option Bool:=
 match d,x,y with
 | .int _, .int k a, .int k' b=>if k=k' then some (a==b)else none
 | .str, .str n a, .str m b=>some (Nat.beq n m&&Nat.beq a b)
 | .bool, .bool a, .bool b=>some (a==b)
 |_,_,_=>none
def vd (d:TD) (x:KV):Bool:=
 match d,x with
 | .int _, .int _ _=>true
 | .str, .str _ _=>true
 | .bool, .bool _=>true
 |_,_=>false
def qR (d:TD) (k:KV):List (KV×KV×Nat)→Nat→Option (Option (Nat×KV))
 | [],_=>some none
 | (k',v,_)::r,i=>match Bl d k k' with
  |some true=>some (some (i,v))
  |some false=>qR d k r (i+1)
  |none=>none
def xF (h:KH) (m:KV):Option (Nat×List (KV×KV×Nat)×Nat):=
 match m with
 | .map id=>match h.get id with
  |some (.map es clk)=>some (id,es,clk)
  |_=>none
 |_=>none
def wv (h:KH) (T:TypeId→TI) (d:TD) (m k v:KV):Option KH:=
 match d,xF h m with
 | .map kt _,some (id,es,clk)=>
  if vd (T kt).d k=true then
  match qR (T kt).d k es 0 with
  |some (some (i,_))=>some (h.set id (some (.map (es.modify i fun e=>(k,v,e.2.2)) clk)))
  |some none=>some (h.set id (some (.map (es ++ [(k,v,clk)]) (clk+1))))
  |none=>none
  else none
 |_,_=>none
def pI (ok:Bool) (v:KV) (b:Bool):KV:=match ok with|true=> .tuple [v, .bool b]|false=>v
def Wa (h:KH) (T:TypeId→TI) (Z:TypeId→KV) (d:TD) (m k:KV) (ok:Bool):Option KV:=
 match d with
 | .map kt et=>
  if vd (T kt).d k=true∧(T et).zok=true then
  match m with
  | .nilmap=>some (pI ok (Z et) false)
  | m=>match xF h m with
   | some (_,es,_)=>match qR (T kt).d k es 0 with
    |some (some (_,v))=>some (pI ok v true)
    |some none=>some (pI ok (Z et) false)
    |none=>none
   |none=>none
  else none
 |_=>none
def ub (h:KH) (T:TypeId→TI) (Z:TypeId→KV) (d:TD) (m k:KV):Option (KV×KH):=
 match d,xF h m with
 | .map kt et,some (id,es,clk)=>
  if vd (T kt).d k=true∧(T et).zok=true then
  match qR (T kt).d k es 0 with
  |some (some (i,v))=>some (.tuple [v, .int .i64 (match es[i]? with|some e=>e.2.2|none=>0)],h.set id (some (.map (es.modify i fun e=>(k,e.2.1,e.2.2)) clk)))
  |some none=>some (.tuple [Z et, .int .i64 clk],h.set id (some (.map (es ++ [(k,Z et,clk)]) (clk+1))))
  |none=>none
  else none
 |_,_=>none
def wT (b:Nat):List (KV×KV×Nat)→Nat→Option Nat
 | [],_=>none
 |(_,_,c)::r,i=>bif Nat.beq c b then some i else wT b r (i+1)
def wE (h:KH) (m s v:KV):Option KH:=
 match xF h m,s with
 | some (id,es,clk), .int _ b=>if 0≤b then(match wT b.toNat es 0 with
  |some i=>some (h.set id (some (.map (es.modify i fun e=>(e.1,v,e.2.2)) clk)))
  |none=>none)else none
 |_,_=>none
def WV (h:KH) (m:KV):Option KV:=
 match m with
 | .nilmap=>some (.int .i64 0)
 | m=>match xF h m with
  |some (_,es,_)=>some (.int .i64 es.length)
  |none=>none
def dl (h:KH) (m:KV):Option KH:=
 match m with
 | .nilmap=>some h
 | m=>match xF h m with
  |some (id,_,clk)=>some (h.set id (some (.map [] clk)))
  |none=>none
section
variable {P:Program} {B:zJ} {G:Gh} {h:KH} {w:World} {fr:KFr} {a:Act}
def Obj.noCells:Obj→Bool
 | .cells .. => false
 |_=>true
theorem ZZ {b:Nat} {o:Obj} (o':Obj) (hb:w.heap[b]? =some o) (hn:Obj.noCells o=true):∃w',(setObj b o').run P w= .ok () w'∧Chg w w' b o':=by
 have hlt:=heap_lt hb
 refine⟨{w with heap:=w.heap.setIfInBounds b o'}, ?_,⟨rfl,rfl,rfl,by simp,by simp [hlt],fun k hk=>by simp [Array.getElem?_setIfInBounds,Ne.symm hk]⟩⟩
 unfold setObj
 cases o<;>first|(simp [Obj.noCells]at hn; done)|simp only [Sem.run,hb]
theorem wx (r:KRel B G h w) {m:KV} {cm:Value} {id:Nat} {es:List (KV×KV×Nat)} {clk:Nat} (hm:KR G m cm) (e:xF h m=some (id,es,clk)):
  ∃ b o ent,m= .map id∧cm= .map (some b)∧h.get id=some (.map es clk)∧G.at_ id=some (b,o)∧w.heap[b]? =some (.map ent clk)∧KEs G es ent.toList ∧
   (∀w',w'.heap[b]? =some (.map ent clk)→(getObj b).run P w'= .ok (.map ent clk) w'):=by
 unfold xF at e
 split at e
 ·split at e
  ·rename_i es' clk' hg
   simp only [Option.some.injEq,Prod.mk.injEq]at e
   obtain⟨rfl,rfl,rfl⟩:=e
   cases hm with
   | map ha=>
    rename_i b o
    obtain⟨b',k,ob,e1,_,e3,e4⟩:=r.blk _ _ hg
    rw [ha]at e1; cases e1
    cases e4 with
    |map hes=>exact⟨b,o,_,rfl,rfl,hg,ha,e3,hes,fun w' hw=>by simp [getObj,Sem.run,hw]⟩
  ·cases e
 ·cases e
theorem jm (r:KRel B G h w) {id b o:Nat} {es es':List (KV×KV×Nat)} {clk clk':Nat} {ent ent':Array MapEntry} (hg:h.get id=some (.map es clk)) (ha:G.at_ id=some (b,o)) (hb:w.heap[b]? =some (.map ent clk))
  (hes:KEs G es' ent'.toList):∃w',(setObj b (.map ent' clk')).run P w= .ok () w'∧KRel B G (h.set id (some (.map es' clk'))) w':=by
 obtain⟨w',h1,h2⟩:=ZZ (P:=P) (.map ent' clk') hb rfl
 exact⟨w',h1,r.chg hg rfl rfl ha h2 (.map hes)⟩
theorem Vj {d:TypeDesc} {x y:KV} {cx cy:Value} {t:Bool} (hx:KR G x cx) (hy:KR G y cy) (e:Bl (tiD P (some d)) x y=some t):Instr.sameNow d cx cy=some t:=by
 unfold Bl at e
 split at e
 ·rename_i hd
  cases hx; cases hy
  split at e
  ·rename_i hk
   injection e with e; subst e
   obtain rfl:=Zf hd
   simp [Instr.sameNow,hk]
  ·cases e
 ·rename_i hd
  cases hx; cases hy
  rename_i s u
  injection e with e; subst e
  obtain rfl:=Zp hd
  simp only [Instr.sameNow,Option.some.injEq]
  rw [JV,qM,Bool.eq_iff_iff,decide_eq_true_eq,beq_iff_eq]
  exact Dj.symm
 ·rename_i hd
  cases hx; cases hy
  injection e with e; subst e
  obtain rfl:=uA hd
  rfl
 ·cases e
inductive KF (G:Gh) (es:List (KV×KV×Nat)) (l:List MapEntry):Option (Nat×KV)→Option (Nat×Value)→Prop
 |none:KF G es l none none
 |some {i:Nat} {v:KV} {c:Value}:KR G v c→KF G es l (some (i,v)) (some (i,c))
theorem vi {d:TypeDesc} {k:KV} {ck:Value} (hk:KR G k ck):∀ {es:List (KV×KV×Nat)} {l:List MapEntry} {i:Nat} {q:Option (Nat×KV)},KEs G es l→qR (tiD P (some d)) k es i=some q →
  ∃c,Instr.findNow d ck l i=some c∧KF G es l q c∧∀j v,q=some (j,v)→i≤j∧j<i+es.length
 |_,_,i,q, .nil,e=>by simp only [qR]at e; injection e with e; subst e; exact⟨none,rfl, .none,by simp⟩
 | _,_,i,q, .cons (k:=k') (v:=v) (b:=b) (ck:=ck') (cv:=cv) (es:=es) (r:=l) h1 h2 h3,e=>by
  simp only [qR]at e
  split at e
  ·rename_i hkk
   injection e with e; subst e
   refine⟨some (i,cv), ?_, .some h2, ?_⟩
   ·simp only [Instr.findNow,Vj (P:=P) hk h1 hkk]
   ·intro j u hu
    simp only [Option.some.injEq,Prod.mk.injEq]at hu
    obtain⟨rfl,_⟩:=hu
    simp
  ·rename_i hkk
   obtain⟨c,c1,c2,c3⟩:=vi hk h3 e
   refine⟨c, ?_, ?_, ?_⟩
   ·simp only [Instr.findNow,Vj (P:=P) hk h1 hkk,c1]
   ·cases c2 with
    |none=>exact .none
    |some hv=>exact .some hv
   ·intro j u hu
    have:=c3 j u hu
    simp only [List.length_cons]; omega
  ·cases e
theorem KEs.modify {es:List (KV×KV×Nat)} {l:List MapEntry} (h:KEs G es l) (f:KV×KV×Nat→KV×KV×Nat) (g:MapEntry→MapEntry)
  (hfg:∀k v b ck cv,KR G k ck→KR G v cv→∃k' v' ck' cv',f (k,v,b)=(k',v',b)∧g ⟨ck,cv,b⟩=⟨ck',cv',b⟩∧KR G k' ck'∧KR G v' cv'):∀i,KEs G (es.modify i f) (l.modify i g):=by
 induction h with
 |nil=>intro i; cases i<;>exact .nil
 | @cons k v b ck cv es r h1 h2 h3 ih=>
  intro i
  cases i with
  | zero=>
   obtain⟨k',v',ck',cv',e1,e2,e3,e4⟩:=hfg k v b ck cv h1 h2
   simp only [List.modify_zero_cons,e1,e2]
   exact .cons e3 e4 h3
  | succ i=>
   simp only [List.modify_succ_cons]
   exact .cons h1 h2 (ih i)
theorem KEs.push {es:List (KV×KV×Nat)} {l:List MapEntry} (h:KEs G es l) {k v:KV} {b:Nat} {ck cv:Value} (hk:KR G k ck) (hv:KR G v cv):KEs G (es ++ [(k,v,b)]) (l ++ [⟨ck,cv,b⟩]):=by
 induction h with
 |nil=>exact .cons hk hv .nil
 |cons h1 h2 _ ih=>exact .cons h1 h2 ih
theorem KEs.length {es:List (KV×KV×Nat)} {l:List MapEntry} (h:KEs G es l):es.length=l.length:=by
 induction h with
 |nil=>rfl
 |cons _ _ _ ih=>simp [ih]
theorem KEs.get {es:List (KV×KV×Nat)} {l:List MapEntry} (h:KEs G es l):∀(i:Nat) (x:KV×KV×Nat),es[i]? =some x→∃y,l[i]? =some y∧KR G x.1 y.key∧KR G x.2.1 y.val∧x.2.2=y.born:=by
 induction h with
 |nil=>intro i x hx; simp at hx
 | cons h1 h2 _ ih=>
  intro i x hx
  cases i with
  |zero=>simp at hx; subst hx; exact⟨_,rfl,h1,h2,rfl⟩
  |succ i=>exact ih i x (by simpa using hx)
theorem gu {d:TypeDesc} {x:KV} {c:Value} (hx:KR G x c) (e:vd (tiD P (some d)) x=true):(∃k j n,d= .int k∧c= .int j n)∨(∃s,d= .string∧c= .string s)∨(∃b,d= .bool∧c= .bool b):=by
 unfold vd at e
 split at e
 ·rename_i hd
  cases hx
  exact .inl ⟨_,_,_,Zf hd,rfl⟩
 ·rename_i hd
  cases hx
  exact .inr (.inl ⟨_,Zp hd,rfl⟩)
 ·rename_i hd
  cases hx
  exact .inr (.inr ⟨_,uA hd,rfl⟩)
 ·cases e
theorem xi {kt:TypeId} {d:TypeDesc} (hu:P.underlying kt=some d) {x:KV} {c:Value} (hx:KR G x c) (e:vd (tiD P (some d)) x=true) (em:Bool) (w:World):(Instr.checkKey em 10000 kt c).run P w= .ok () w:=by
 have:∀n,(Instr.checkKey em (n+1) kt c).run P w= .ok () w:=by
  intro n
  rcases gu hx e with⟨k,j,m,rfl,rfl⟩|⟨s,rfl,rfl⟩|⟨b,rfl,rfl⟩ <;>
   simp only [Instr.checkKey,iB,run_underlying hu,iA,iC]
 exact this 9999
theorem Qj {d:TypeDesc} {a b:Value} (e:Instr.sameNow d a b=some true):a=b:=by
 unfold Instr.sameNow at e
 split at e
 ·split at e
  ·rename_i hk
   injection e with e
   rw [hk,beq_iff_eq.1 e]
  ·cases e
 ·injection e with e
  rw [qM,decide_eq_true_eq]at e; rw [e]
 ·injection e with e
  rw [beq_iff_eq.1 e]
 ·cases e
theorem ke {d:TypeDesc} {ck:Value}:∀ {l:List MapEntry} {i j:Nat} {c:Value},Instr.findNow d ck l i=some (some (j,c))→∃x,l[j-i]? =some x∧x.key=ck∧x.val=c∧i≤j
 | [],i,j,c,e=>by simp [Instr.findNow]at e
 | x::l,i,j,c,e=>by
  simp only [Instr.findNow]at e
  split at e
  ·rename_i hs
   simp only [Option.some.injEq,Prod.mk.injEq]at e
   obtain⟨rfl,rfl⟩:=e
   exact⟨x,by simp,(Qj hs).symm,rfl,Nat.le_refl _⟩
  ·obtain⟨y,y1,y2,y3,y4⟩:=ke e
   exact⟨y,by rw [show j-i=(j-(i+1))+1 by omega]; simpa using y1,y2,y3,by omega⟩
  ·cases e
theorem uW {d:TypeDesc} {x:KV} {c:Value} (hx:KR G x c) (e:vd (tiD P (some d)) x=true) (w:World):(Instr.keyThatStays c c).run P w= .ok c w:=by
 have:Instr.sameBits 10000 c c=true:=by
  have:∀n,Instr.sameBits (n+1) c c=true:=by
   intro n
   rcases gu hx e with⟨k,j,m,rfl,rfl⟩|⟨s,rfl,rfl⟩|⟨b,rfl,rfl⟩
   ·simp [Instr.sameBits]
   ·simp only [Instr.sameBits]; exact(qM s s).trans (by simp)
   ·simp [Instr.sameBits]
  exact this 9999
 simp only [Instr.keyThatStays,this,if_true,iC]
theorem xA {kt:TypeId} {d:TypeDesc} (hu:P.underlying kt=some d) {ck:Value} {l:List MapEntry} {c:Option (Nat×Value)} (e:Instr.findNow d ck l 0=some c) (w:World):(Instr.findKey kt ck l).run P w= .ok c w:=by
 simp only [Instr.findKey,iB,run_underlying hu,iA,e,iC]
theorem Je {kt:TypeId} {x:KV} (e:vd (ti P kt).d x=true):∃d,P.underlying kt=some d∧(ti P kt).d=tiD P (some d):=by
 obtain⟨d,h1,h2⟩:=Ve (P:=P) (t:=kt) rfl (by intro hh; rw [hh]at e; simp [vd]at e)
 exact⟨d,h1,h2.symm⟩
theorem kf (r:KRel B G h w) {t:TypeId} {m k v:KV} {cm ck cv:Value} (hm:KR G m cm) (hk:KR G k ck) (hv:KR G v cv) {h':KH} (e:wv h (ti P) (ti P t).d m k v=some h'):
  ∃w',(Instr.mapUpdate t cm ck cv).run P w= .ok () w'∧KRel B G h' w':=by
 unfold wv at e
 split at e
 ·rename_i kt et id es clk hd hmo
  split at e
  ·rename_i hok
   obtain⟨b,o,ent,rfl,rfl,hg,ha,hb,hes,hget⟩:=wx (P:=P) r hm hmo
   obtain⟨d,hu,htd⟩:=Je hok
   rw [htd]at e hok
   split at e
   ·rename_i i u hf
    injection e with e; subst e
    obtain⟨c,c1,c2,_⟩:=vi (P:=P) hk hes hf
    cases c2 with
    | some hu'=>
     rename_i cu
     obtain⟨x,x1,x2,x3,_⟩:=ke c1
     rw [Nat.sub_zero,Array.getElem?_toList]at x1
     have hmod:(ent.modify i fun e=> {e with key:=ck,val:=cv}).toList=ent.toList.modify i fun e=> {e with key:=ck,val:=cv}:=Array.toList_modify
     obtain ⟨w',k1,k2⟩:=jm (P:=P) (clk':=clk) (ent':=ent.modify i fun e=> {e with key:=ck,val:=cv}) r hg ha hb (hes:=by
      rw [hmod]
      exact hes.modify (fun e=>(k,v,e.2.2)) _ (fun k0 v0 b0 ck0 cv0 _ _=>⟨k,v,ck,cv,rfl,rfl,hk,hv⟩) i)
     refine⟨w', ?_,k2⟩
     have hkk:((ent[i]?).map (·.key)).getD ck=ck:=by rw [x1]; simp [x2]
     simp only [Instr.mapUpdate,iB,run_underlying (wd hd),iA,hget w hb,xi hu hk hok,xA hu c1,hkk,uW hk hok,k1]
   ·rename_i hf
    injection e with e; subst e
    obtain⟨c,c1,c2,_⟩:=vi (P:=P) hk hes hf
    cases c2
    obtain ⟨w',k1,k2⟩:=jm (P:=P) (clk':=clk+1) (ent':=ent.push {key:=ck,val:=cv,born:=clk}) r hg ha hb (hes:=by
     rw [Array.toList_push]; exact hes.push hk hv)
    refine⟨w', ?_,k2⟩
    simp only [Instr.mapUpdate,iB,run_underlying (wd hd),iA,hget w hb,xi hu hk hok,xA hu c1,k1]
   ·cases e
  ·cases e
 ·cases e
theorem qN {v:KV} {c:Value} (hv:KR G v c) (ok b:Bool):KR G (pI ok v b) (if ok=true then .tuple #[c, .bool b]else c):=by
 cases ok
 ·exact hv
 ·exact .tuple rfl (fun i u c h1 h2=>by
   match i with
   |0=>simp at h1 h2; subst h1 h2; exact hv
   |1=>simp at h1 h2; subst h1 h2; exact .bool _
   |i+2=>simp at h1)
theorem U8 (r:KRel B G h w) {t:TypeId} {m k v:KV} {cm ck:Value} {ok:Bool} (hm:KR G m cm) (hk:KR G k ck) (e:Wa h (ti P) (kz P) (ti P t).d m k ok=some v):
  KS P B G w (Instr.lookup t cm ck ok) v h:=by
 unfold Wa at e
 split at e
 ·rename_i kt et hd
  split at e
  ·rename_i hc
   obtain⟨hok,hz⟩:=hc
   obtain⟨d,hu,htd⟩:=Je hok
   obtain⟨ie,z,hie,hzz,hzv⟩:=qU hz
   have hkz:KR G (kz P et) z:=by rw [hzv]; exact KR.of z
   rw [htd]at e hok
   split at e
   ·injection e with e; subst e
    cases hm
    refine .same r (c:=if ok then .tuple #[z, .bool false]else z) ?_ (qN hkz ok false)
    simp only [Instr.lookup,iB,run_underlying (wd hd),iA,iC,xi hu hk hok,xA hu (show Instr.findNow d ck [] 0=some none from rfl),zp hie hzz]
   ·split at e
    ·rename_i id es clk hmo
     obtain⟨b,o,ent,rfl,rfl,hg,ha,hb,hes,hget⟩:=wx (P:=P) r hm hmo
     split at e
     ·rename_i i u hf
      injection e with e; subst e
      obtain⟨c,c1,c2,_⟩:=vi (P:=P) hk hes hf
      cases c2 with
      | some hu'=>
       rename_i cu
       refine .same r (c:=if ok then .tuple #[cu, .bool true]else cu) ?_ (qN hu' ok true)
       simp only [Instr.lookup,iB,run_underlying (wd hd),iA,iC,hget w hb,xi hu hk hok,xA hu c1]
     ·rename_i hf
      injection e with e; subst e
      obtain⟨c,c1,c2,_⟩:=vi (P:=P) hk hes hf
      cases c2
      refine .same r (c:=if ok then .tuple #[z, .bool false]else z) ?_ (qN hkz ok false)
      simp only [Instr.lookup,iB,run_underlying (wd hd),iA,iC,hget w hb,xi hu hk hok,xA hu c1,zp hie hzz]
     ·cases e
    ·cases e
  ·cases e
 ·cases e
theorem YY (r:KRel B G h w) {t:TypeId} {m k v:KV} {cm ck:Value} {h':KH} (hm:KR G m cm) (hk:KR G k ck) (e:ub h (ti P) (kz P) (ti P t).d m k=some (v,h')):
  KS P B G w (Instr.mapEntry t cm ck) v h':=by
 unfold ub at e
 split at e
 ·rename_i kt et id es clk hd hmo
  split at e
  ·rename_i hc
   obtain⟨hok,hz⟩:=hc
   obtain⟨b,o,ent,rfl,rfl,hg,ha,hb,hes,hget⟩:=wx (P:=P) r hm hmo
   obtain⟨d,hu,htd⟩:=Je hok
   obtain⟨ie,z,hie,hzz,hzv⟩:=qU hz
   have hkz:KR G (kz P et) z:=by rw [hzv]; exact KR.of z
   rw [htd]at e hok
   split at e
   ·rename_i i u hf
    simp only [Option.some.injEq,Prod.mk.injEq]at e
    obtain⟨rfl,rfl⟩:=e
    obtain⟨c,c1,c2,c3⟩:=vi (P:=P) hk hes hf
    cases c2 with
    | some hu'=>
     rename_i cu
     obtain⟨x,x1,x2,x3,_⟩:=ke c1
     rw [Nat.sub_zero,Array.getElem?_toList]at x1
     have hmod:(ent.modify i fun e=> {e with key:=ck}).toList=ent.toList.modify i fun e=> {e with key:=ck}:=Array.toList_modify
     obtain ⟨w',k1,k2⟩:=jm (P:=P) (clk':=clk) (ent':=ent.modify i fun e=> {e with key:=ck}) r hg ha hb (hes:=by
      rw [hmod]
      exact hes.modify (fun e=>(k,e.2.1,e.2.2)) _ (fun k0 v0 b0 ck0 cv0 _ hv0=>⟨k,v0,ck,cv0,rfl,rfl,hk,hv0⟩) i)
     have hkk:((ent[i]?).map (·.key)).getD ck=ck:=by rw [x1]; simp [x2]
     have hi:i<es.length:=by have:=(c3 i u rfl).2; omega
     obtain⟨y,y1,_,_,y4⟩:=hes.get i _ (List.getElem?_eq_getElem hi)
     rw [Array.getElem?_toList]at y1
     have hbb:((ent[i]?).map (fun e=>(e.born:Int))).getD 0=(es[i].2.2:Int):=by rw [y1]; simp [y4]
     refine⟨.tuple #[cu,goInt es[i].2.2],w',G, ?_, .refl _, ?_,k2⟩
     ·simp only [Instr.mapEntry,iB,run_underlying (wd hd),iA,hget w hb,xi hu hk hok,xA hu c1,hkk,uW hk hok,k1,hbb,iC]
     ·rw [List.getElem?_eq_getElem hi]
      exact .tuple rfl (fun i u c h1 h2=>by
       match i with
       |0=>simp at h1 h2; subst h1 h2; exact hu'
       |1=>simp at h1 h2; subst h1 h2; exact .int _ _
       |i+2=>simp at h1)
   ·rename_i hf
    simp only [Option.some.injEq,Prod.mk.injEq]at e
    obtain⟨rfl,rfl⟩:=e
    obtain⟨c,c1,c2,_⟩:=vi (P:=P) hk hes hf
    cases c2
    obtain ⟨w',k1,k2⟩:=jm (P:=P) (clk':=clk+1) (ent':=ent.push {key:=ck,val:=z,born:=clk}) r hg ha hb (hes:=by
     rw [Array.toList_push]; exact hes.push hk hkz)
    refine⟨.tuple #[z,goInt clk],w',G, ?_, .refl _, ?_,k2⟩
    ·simp only [Instr.mapEntry,iB,run_underlying (wd hd),iA,hget w hb,xi hu hk hok,xA hu c1,zp hie hzz,k1,iC]
    ·exact .tuple rfl (fun i u c h1 h2=>by
      match i with
      |0=>simp at h1 h2; subst h1 h2; exact hkz
      |1=>simp at h1 h2; subst h1 h2; exact .int _ _
      |i+2=>simp at h1)
   ·cases e
  ·cases e
 ·cases e
theorem pw {bn:Nat}:∀ {es:List (KV×KV×Nat)} {l:List MapEntry} {i j:Nat},KEs G es l→wT bn es i=some j→i≤j∧l.findIdx? (fun e=>(e.born:Int)==(bn:Int))=some (j-i)
 |_,_,i,j, .nil,e=>by simp [wT]at e
 | _,_,i,j, .cons (k:=k') (v:=v) (b:=b) (ck:=ck') (cv:=cv) (es:=es) (r:=l) h1 h2 h3,e=>by
  simp only [wT,wt,Bool.cond_decide]at e
  rw [List.findIdx?_cons]
  split at e
  ·rename_i hb
   injection e with e; subst e
   refine⟨Nat.le_refl _, ?_⟩
   rw [if_pos (by simp [hb])]; simp
  ·rename_i hb
   obtain⟨e1,e2⟩:=pw h3 e
   refine⟨by omega, ?_⟩
   rw [if_neg (by simp; omega),e2]
   simp; omega
theorem pP (r:KRel B G h w) {t:TypeId} {m s v:KV} {cm cs cv:Value} (hm:KR G m cm) (hs:KR G s cs) (hv:KR G v cv) {h':KH} (e:wE h m s v=some h'):
  ∃w',(Instr.entryStore t cm cs cv).run P w= .ok () w'∧KRel B G h' w':=by
 unfold wE at e
 split at e
 ·rename_i id es clk kk b hmo
  obtain⟨bl,o,ent,rfl,rfl,hg,ha,hb,hes,hget⟩:=wx (P:=P) r hm hmo
  cases hs
  split at e
  ·rename_i h0
   split at e
   ·rename_i i hi
    injection e with e; subst e
    obtain⟨_,e2⟩:=pw hes hi
    have hmod:(ent.modify i fun e=> {e with val:=cv}).toList=ent.toList.modify i fun e=> {e with val:=cv}:=Array.toList_modify
    obtain ⟨w',k1,k2⟩:=jm (P:=P) (clk':=clk) (ent':=ent.modify i fun e=> {e with val:=cv}) r hg ha hb (hes:=by
     rw [hmod]
     exact hes.modify (fun e=>(e.1,v,e.2.2)) _ (fun k0 v0 b0 ck0 cv0 hk0 _=>⟨k0,v,ck0,cv,rfl,rfl,hk0,hv⟩) i)
    refine⟨w', ?_,k2⟩
    have hbi:((b.toNat:Nat):Int)=b:=by omega
    rw [Nat.sub_zero,hbi,←List.findIdx?_toArray,Array.toArray_toList]at e2
    simp only [Instr.entryStore,iB,iA,hget w hb,asInt,asIntOf,iC,e2,k1]
   ·cases e
  ·cases e
 ·cases e
theorem VD (r:KRel B G h w) {t ty:TypeId} {kt et:TypeId} (hd:(ti P t).d= .map kt et) {m v:KV} {cm:Value} (hm:KR G m cm) (e:WV h m=some v):KS P B G w (Builtin.len_ #[t] ty #[cm]) v h:=by
 unfold WV at e
 split at e
 ·injection e with e; subst e
  cases hm
  exact .same r (c:=goInt 0) (by simp [Builtin.len_,run_underlying (wd hd)]) (.int _ _)
 ·split at e
  ·rename_i id es clk hmo
   obtain⟨bl,o,ent,rfl,rfl,hg,ha,hb,hes,hget⟩:=wx (P:=P) r hm hmo
   injection e with e; subst e
   refine .same r (c:=goInt ent.size) ?_ ?_
   ·simp only [Builtin.len_,List.getElem?_toArray,List.getElem?_cons_zero,iB,run_underlying (wd hd),iA,hget w hb,iC]
   ·rw [hes.length,Array.length_toList]; exact .int _ _
  ·cases e
theorem Ql (r:KRel B G h w) {t ty:TypeId} {kt et:TypeId} (hd:(ti P t).d= .map kt et) {m:KV} {cm:Value} {h':KH} (hm:KR G m cm) (e:dl h m=some h'):KS P B G w (Builtin.clear_ #[t] ty #[cm]) (.tuple []) h':=by
 unfold dl at e
 split at e
 ·injection e with e; subst e
  cases hm
  exact .same r (c:= .tuple #[]) (by simp [Builtin.clear_,run_underlying (wd hd)]) (.tuple rfl (by simp))
 ·split at e
  ·rename_i id es clk hmo
   obtain⟨bl,o,ent,rfl,rfl,hg,ha,hb,hes,hget⟩:=wx (P:=P) r hm hmo
   injection e with e; subst e
   obtain⟨w',k1,k2⟩:=jm (P:=P) (clk':=clk) (es':= []) (ent':= #[]) r hg ha hb .nil
   refine⟨.tuple #[],w',G, ?_, .refl _, .tuple rfl (by simp),k2⟩
   simp only [Builtin.clear_,List.getElem?_toArray,List.getElem?_cons_zero,iB,run_underlying (wd hd),iA,hget w hb,k1,iC]
  ·cases e
end
def pG (h:KH) (d:TD) (x:KV):Option (KV×KH):=
 if yw h=true then
 match d,x with
 | .str, .str n s=>some (.ptr h.next 0,h.push (.sit n s 0))
 | .map _ _, .nilmap=>some (.ptr h.next 0,h.push (.mit none 0 [] 0))
 | .map _ _,m=>match xF h m with
  |some (id,_,clk)=>some (.ptr h.next 0,h.push (.mit (some id) clk [] clk))
  |none=>none
 |_,_=>none
 else none
def DU (b:Nat):List Nat→Bool
 | []=>false
 |c::r=>Nat.beq c b||DU b r
def Xx (seen:List Nat):List (KV×KV×Nat)→List (KV×KV×Nat)
 | []=> []
 |e::r=>bif DU e.2.2 seen then Xx seen r else e::Xx seen r
def pr:KV:= .tuple [.bool false]
def qH (h:KH) (it:KV) (isString:Bool):Option (KV×KH):=
 match it with
 | .ptr id 0=>match h.get id,isString with
  | some (.sit n s pos),true=>
   if pos<n then
    (if jq s pos<128 then some (.tuple [.bool true, .int .i64 pos, .int .i32 (jq s pos)],h.set id (some (.sit n s (pos+1))))else none)
   else some (pr,h)
  |some (.mit none _ _ _),false=>some (pr,h)
  | some (.mit (some m) since seen last),false=>match h.get m with
   | some (.map es clk)=>
    if seen.isEmpty=false∧es.isEmpty=false∧es.all (fun e=>Nat.ble last e.2.2)=true then none else
    match Xx seen es with
    | []=>some (pr,h)
    | [(k,v,b)]=>if b<since then some (.tuple [.bool true,k,v],h.set id (some (.mit (some m) since (seen ++ [b]) clk)))else none
    |_=>none
   |_=>none
  |_,_=>none
 |_=>none
section
variable {P:Program} {B:zJ} {G:Gh} {h:KH} {w:World} {fr:KFr} {a:Act}
theorem gi (r:KRel B G h w) (hrm:yw h=true) {o:KO} {ob:Obj} (hr:o.R (G.new h.next (w.heap.size,0) 0) 0 0 ob):
  ∃G',G.le G'∧KR G' (.ptr h.next 0) (.pointer (some ⟨w.heap.size,0,none⟩))∧KR G' (.map h.next) (.map (some w.heap.size))∧KRel B G' (h.push o) (w.alloc ob):=by
 have hn':h.next+1<65000:=by simpa [yw,zL] using hrm
 exact⟨_,Gh.new_le G r.fresh _ _, .ptr (off:=0) (o:=0) (Gh.new_at _ _ _ _), .map (Gh.new_at _ _ _ _),r.alloc hn' hr⟩
theorem Wo (r:KRel B G h w) (hrm:yw h=true) {t:TypeId} {rs:Option KV} {cr:Option Value} (hr:KO' G rs cr) (hd:rs.isSome=true→(∃k e,(ti P t).d= .map k e)∧∃k n,rs=some (.int k n)):
  KS P B G w (Instr.makeMap t cr) (.map h.next) (h.push (.map [] 0)):=by
 obtain⟨G',g1,_,g2,g3⟩:=gi r hrm (o:= .map [] 0) (ob:= .map #[] 0) (.map .nil)
 refine⟨_,_,G', ?_,g1,g2,g3⟩
 cases hr with
 |none=>rfl
 | some hv=>
  obtain⟨⟨k,e,hk⟩,j,n,hn⟩:=hd rfl
  injection hn with hn; subst hn
  cases hv
  simp only [Instr.makeMap,iB,run_underlying (wd hk),iA,asInt,asIntOf,iC]
  rfl
theorem Bx (r:KRel B G h w) {t:TypeId} {x v:KV} {c:Value} {h':KH} (hx:KR G x c) (e:pG h (ti P t).d x=some (v,h')):KS P B G w (Instr.range t c) v h':=by
 unfold pG at e
 split at e
 ·rename_i hrm
  split at e
  ·rename_i n s hd
   simp only [Option.some.injEq,Prod.mk.injEq]at e
   obtain⟨rfl,rfl⟩:=e
   cases hx with
   | str s=>
    obtain⟨G',g1,g2,_,g3⟩:=gi r hrm (o:= .sit s.size (zc s.data.toList) 0) (ob:= .stringIter s 0) (.sit s 0 rfl)
    exact⟨_,_,G',by simp only [Instr.range,iB,run_underlying (yO hd),iA,iC]; rfl,g1,g2,g3⟩
  ·rename_i kt et hd
   simp only [Option.some.injEq,Prod.mk.injEq]at e
   obtain⟨rfl,rfl⟩:=e
   cases hx
   obtain⟨G',g1,g2,_,g3⟩:=gi r hrm (o:= .mit none 0 [] 0) (ob:= .mapIter none 0 #[] 0) (.mit rfl (.inl ⟨rfl,rfl⟩))
   exact⟨_,_,G',by simp only [Instr.range,iB,run_underlying (wd hd),iA,iC]; rfl,g1,g2,g3⟩
  ·rename_i kt et hd _
   split at e
   ·rename_i id es clk hmo
    simp only [Option.some.injEq,Prod.mk.injEq]at e
    obtain⟨rfl,rfl⟩:=e
    obtain⟨bl,o,ent,rfl,rfl,hg,ha,hb,hes,hget⟩:=wx (P:=P) r hx hmo
    have hle:=Gh.new_le G r.fresh (w.heap.size,0) 0
    obtain⟨G',g1,g2,_,g3⟩:=gi r hrm (o:= .mit (some id) clk [] clk) (ob:= .mapIter (some bl) clk #[] clk) (.mit rfl (.inr ⟨id,bl,o,rfl,rfl,hle.at_ ha⟩))
    exact⟨_,_,G',by simp only [Instr.range,iB,run_underlying (wd hd),iA,iC,hget w hb]; rfl,g1,g2,g3⟩
   ·cases e
  ·cases e
 ·cases e
theorem fb (b:Nat) (l:List Nat):DU b l=l.toArray.contains b:=by
 induction l with
 |nil=>simp [DU]
 | cons c r ih=>
  simp only [DU,ih,wt]
  simp [eq_comm]
theorem Bk {seen:List Nat} {es:List (KV×KV×Nat)} {l:List MapEntry} (h:KEs G es l):KEs G (Xx seen es) (l.filter fun e=> !seen.toArray.contains e.born):=by
 induction h with
 |nil=>exact .nil
 | @cons k v b ck cv es r h1 h2 h3 ih=>
  simp only [Xx,fb,List.filter_cons]
  cases hc:seen.toArray.contains b with
  |true=>simpa using ih
  |false=>simpa using KEs.cons h1 h2 ih
theorem KEs.all {p:Nat→Bool} {es:List (KV×KV×Nat)} {l:List MapEntry} (h:KEs G es l):es.all (fun e=>p e.2.2)=l.all (fun e=>p e.born):=by
 induction h with
 |nil=>rfl
 |cons _ _ _ ih=>simp [ih]
theorem KEs.empty {es:List (KV×KV×Nat)} {l:List MapEntry} (h:KEs G es l):es.isEmpty=l.isEmpty:=by
 cases h<;>rfl
theorem Br (r :KRel B G h w) {t:TypeId} {it v:KV} {c:Value} {isString:Bool} {h':KH} (hx:KR G it c) (e:qH h it isString=some (v,h')):KS P B G w (Instr.next c isString t) v h':=by
 have hover:KR G pr (.tuple #[.bool false]):= .tuple rfl (fun i u c h1 h2=>by
  match i with
  |0=>simp at h1 h2; subst h1 h2; exact .bool _
  |i+1=>simp at h1)
 unfold qH at e
 split at e
 ·rename_i id
  cases hx with
  | ptr ha =>
   rename_i b o
   split at e
   ·rename_i n s pos hg
    obtain⟨b',k,ob,e1,_,e3,e4⟩:=r.blk _ _ hg
    rw [ha]at e1; cases e1
    cases e4 with
    | sit s pos hz=>
     subst hz
     have hget:(getObj b).run P w= .ok (.stringIter s pos) w:=by simp [getObj,Sem.run,e3]
     split at e
     ·rename_i hp
      split at e
      ·rename_i ha128
       simp only [Option.some.injEq,Prod.mk.injEq]at e
       obtain⟨rfl,rfl⟩:=e
       have hk:=KR.idx s hp
       rw [hk]at ha128
       have hdec:Utf8.decode s pos=(jq (zc s.data.toList) pos,1):=by
        rw [hk]; exact decode_ascii s pos hp ha128
       obtain⟨w',g1,g2⟩:=ZZ (P:=P) (.stringIter s (pos+1)) e3 rfl
       refine⟨.tuple #[.bool true,goInt pos, .int .i32 (jq (zc s.data.toList) pos)],w',G, ?_, .refl _, .tuple rfl ?_,r.chg hg rfl rfl ha g2 (.sit s _ rfl)⟩
       ·simp only [Instr.next,Nat.add_zero,iB,hget,iA,hp,if_true,hdec,g1,iC]
       ·intro i u c h1 h2
        match i with
        |0=>simp at h1 h2; subst h1 h2; exact .bool _
        |1=>simp at h1 h2; subst h1 h2; exact .int _ _
        |2=>simp at h1 h2; subst h1 h2; exact .int _ _
        |i+3=>simp at h1
      ·cases e
     ·rename_i hp
      simp only [Option.some.injEq,Prod.mk.injEq]at e
      obtain⟨rfl,rfl⟩:=e
      refine .same r (c:= .tuple #[.bool false]) ?_ hover
      simp only [Instr.next,Nat.add_zero,iB,hget,iA,hp,if_false,iC]
   ·rename_i since seen last hg
    obtain⟨b',k,ob,e1,_,e3,e4⟩:=r.blk _ _ hg
    rw [ha]at e1; cases e1
    simp only [Option.some.injEq,Prod.mk.injEq]at e
    obtain⟨rfl,rfl⟩:=e
    cases e4 with
    | mit hz hm=>
     subst hz
     rcases hm with⟨_,rfl⟩|⟨_,_,_,hm,_⟩
     ·refine .same r (c:= .tuple #[.bool false]) ?_ hover
      have hget:(getObj b).run P w= .ok (.mapIter none since seen.toArray last) w:=by simp [getObj,Sem.run,e3]
      simp only [Instr.next,Nat.add_zero,iB,hget,iA,iC]
     ·cases hm
   ·rename_i m since seen last hg
    obtain⟨b',k,ob,e1,_,e3,e4⟩:=r.blk _ _ hg
    rw [ha]at e1; cases e1
    cases e4 with
    | mit hz hm=>
     subst hz
     rcases hm with⟨hm,_⟩|⟨mi,mb,mk,hmi,rfl,hma⟩
     ·cases hm
     ·injection hmi with hmi; subst hmi
      have hget:(getObj b).run P w= .ok (.mapIter (some mb) since seen.toArray last) w:=by simp [getObj,Sem.run,e3]
      split at e
      ·rename_i es clk hgm
       obtain⟨mb',mk',mob,f1,_,f3,f4⟩:=r.blk _ _ hgm
       rw [hma]at f1; cases f1
       cases f4 with
       | map hes=>
        rename_i ent
        have hgetm:(getObj mb).run P w= .ok (.map ent clk) w:=by simp [getObj,Sem.run,f3]
        split at e
        ·cases e
        ·rename_i hcond
         have hc2:(!seen.toArray.isEmpty && !ent.isEmpty&&ent.all fun x=>decide (x.born≥last))=false:=by
          have e1:seen.toArray.isEmpty=seen.isEmpty:=by simp
          have e2:ent.isEmpty=es.isEmpty:=by rw [hes.empty]; simp [Array.isEmpty_toList]
          have e3:(ent.all fun x=>decide (x.born≥last))=es.all (fun e=>Nat.ble last e.2.2):=by
           rw [hes.all (p:=fun b=>Nat.ble last b),←Array.all_toList]
           congr 1; funext x; rw [QY]
          rw [e1,e2,e3]
          cases h1:seen.isEmpty<;>cases h2:es.isEmpty<;>cases h3:es.all (fun e=>Nat.ble last e.2.2)<;>simp_all
         have hfil:(ent.filter fun e=> !seen.toArray.contains e.born).toList=ent.toList.filter fun e=> !seen.toArray.contains e.born:=Array.toList_filter
         have hleft:=Bk (seen:=seen) hes
         rw [←hfil]at hleft
         split at e
         ·rename_i hk
          simp only [Option.some.injEq,Prod.mk.injEq]at e
          obtain⟨rfl,rfl⟩:=e
          rw [hk]at hleft
          have hL:(ent.filter fun e=> !seen.toArray.contains e.born)= #[]:=by
           apply Array.ext'
           cases hq:(ent.filter fun e=> !seen.toArray.contains e.born).toList with
           |nil=>rfl
           |cons x y=>rw [hq]at hleft; cases hleft
          refine .same r (c:= .tuple #[.bool false]) ?_ hover
          simp only [Instr.next,Nat.add_zero,iB,hget,hgetm,iA,hc2,Bool.false_eq_true,if_false,iC,hL]
          simp [choose,Sem.run,Question.forced]
         ·rename_i kk vv bb hk
          split at e
          ·rename_i hlt
           simp only [Option.some.injEq,Prod.mk.injEq]at e
           obtain⟨rfl,rfl⟩:=e
           rw [hk]at hleft
           cases hq:(ent.filter fun e=> !seen.toArray.contains e.born).toList with
           |nil=>rw [hq]at hleft; cases hleft
           | cons x y=>
            rw [hq]at hleft
            cases hleft with
            | cons h1 h2 h3=>
             rename_i ck cv
             cases h3
             have hL:(ent.filter fun e=> !seen.toArray.contains e.born)= #[⟨ck,cv,bb⟩]:=Array.ext' hq
             obtain⟨w',g1,g2⟩:=ZZ (P:=P) (.mapIter (some mb) since (seen ++ [bb]).toArray clk) e3 rfl
             refine⟨.tuple #[.bool true,ck,cv],w',G, ?_, .refl _, .tuple rfl ?_,r.chg hg rfl rfl ha g2 ?_⟩
             ·have hl2:decide (bb<since)=true:=decide_eq_true hlt
              have hl3:decide (bb≥since)=false:=decide_eq_false (by omega)
              simp only [Instr.next,Nat.add_zero,iB,hget,hgetm,iA,hc2,Bool.false_eq_true,if_false,iC,hL]
              have q1:(#[(⟨ck,cv,bb⟩:MapEntry)].filter fun x=>decide (x.born<since))= #[⟨ck,cv,bb⟩]:=by simp [hlt]
              have q2:(#[(⟨ck,cv,bb⟩:MapEntry)].filter fun x=>decide (x.born≥since))= #[]:=by simp; omega
              rw [q1,q2]
              simp only [List.isEmpty_toArray,List.isEmpty_cons,Bool.false_eq_true,if_false,choose,Sem.run]
              simp [Question.forced,g1]
             ·intro i u c h1' h2'
              match i with
              |0=>simp at h1' h2'; subst h1' h2'; exact .bool _
              |1=>simp at h1' h2'; subst h1' h2'; exact h1
              |2=>simp at h1' h2'; subst h1' h2'; exact h2
              |i+3=>simp at h1'
             ·exact .mit rfl (.inr ⟨m,mb,mk,rfl,rfl,hma⟩)
          ·cases e
         ·cases e
      ·cases e
   ·cases e
 ·cases e
end
end Go.K
end
