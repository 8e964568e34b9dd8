/- The layer of closed runs: a part. No condition beyond each statement's own. -/
import Derived.Test.YtkabooclnoiclaaGreatDoorK11
set_option linter.unusedVariables false
set_option linter.unusedSimpArgs false
set_option linter.unnecessarySimpa false
section
namespace Go.K
open Go.Abs
section
variable {h:KH} {K:QK}
noncomputable def uX (h:KH) (id off m:Nat) (K:List KV→QR):QR:=xO h id fun o=>o.onCells fun _ cs=>Zk cs off fun l=>bY l m fun l=>gV l m (K l)
theorem ke {id off m:Nat} {K:List KV→QR} {r:KV×KH} (e:uX h id off m K=some r):∃l,uR h id off m=some l∧K l=some r:=by
 unfold uX at e
 rw [xj]at e
 unfold uR
 cases hg:h.get id with
 |none=>rw [hg]at e; cases e
 | some o=>
  rw [hg]at e
  cases o<;>first|(cases e; done)|skip
  rename_i ro cs
  simp only [Option.elim_some,KO.onCells,qL,qY,dJ]at e
  split at e
  ·rename_i h1
   split at e
   ·rename_i h2
    exact⟨_,by simp only; rw [if_pos ⟨h1,h2.2⟩],e⟩
   ·cases e
  ·cases e
noncomputable def Zs (s n i:Nat) (K:List KV→QR):QR:=Nat.rec (motive:=fun _=>Nat→(List KV→QR)→QR) (fun i K=>K []) (fun _ ih i K=>nfc (je s i) fun b=>nfc (Nat.succ i) fun i=>ih i fun l=>K (.int .u8 (.ofNat b)::l)) n i K
theorem dq (s:Nat):∀(n i:Nat) (K:List KV→QR),Zs s n i K=K (vG s n i)
 |0,i,K=>rfl
 | n+1,i,K=>by
  refine(zi (je s i) fun b=>nfc (Nat.succ i) fun i=>Zs s n i fun l=>K (.int .u8 (.ofNat b)::l)).trans ?_
  refine(zi (Nat.succ i) fun j=>Zs s n j fun l=>K (.int .u8 (.ofNat (je s i))::l)).trans ?_
  exact dq s n (i+1) _
noncomputable def QY (sz:Nat) (x:KV) (h:KH) (K:Nat→List KV→QR):QR:=x.onSl (fun id off len _ s=>zb (Nat.beq sz s) (nfc (Nat.mul len sz) fun m=>uX h id off m (K len)) none) (K 0 []) (K 0 []) none
noncomputable def J9 (x:KV) (h:KH) (K:Nat→List KV→QR):QR:=x.onStr (fun n s=>Zs s n 0 (K n)) none
def eC (f:KV→KH→(Nat→List KV→QR)→QR) (d:TD) (sz:Nat):Prop:=∀(x:KV) (h:KH) (K:Nat→List KV→QR) (r:KV×KH),f x h K=some r→∃n l,Bo h d sz x=some (n,l)∧K n l=some r
theorem W6 {d:TD} {e sz by_:Nat} (hd:d= .slice e sz by_):eC (QY sz) d sz:=by
 subst hd
 intro x h K r q
 cases x<;>first|(cases q; done)|skip
 ·rename_i id off len c s
  simp only [QY,KV.onSl,za,zi,Nat.beq_eq]at q
  split at q
  ·rename_i hs
   obtain⟨l,e1,e2⟩:=ke q
   refine⟨len,l, ?_,e2⟩
   have e1:uR h id off (len*sz)=some l:=e1
   simp only [Bo]
   rw [if_pos ⟨hs,trivial⟩,e1]
  ·cases q
 ·exact⟨0,[],rfl,q⟩
 ·exact⟨0,[],rfl,q⟩
theorem Vr {d:TD} (hd:d= .str):eC J9 d 1:=by
 subst hd
 intro x h K r q
 cases x<;>first|(cases q; done)|skip
 rename_i n s
 simp only [J9,KV.onStr,dq]at q
 exact⟨n,_,rfl,q⟩
noncomputable def GC (s:KV) (h:KH) (K:QK):QR:=s.onSl (fun _ _ _ _ _=>s.hd fun s=>K s h) (K .slz h) (K .nilsl h) none
noncomputable def Gj (h:KH) (id off len n c sz:Nat) (new:List KV) (K:QK):QR:=xO h id fun o=>o.onCells fun ro cs=>zb ro none (eq new fun m=>XI cs (Nat.add off (Nat.mul len sz)) m new fun cs=>j5 h id (.cells false cs) fun h=>nfc (Nat.add len n) fun k=>K (.sl id off k (some c) sz) h)
noncomputable def Ux (h:KH) (len n sz:Nat) (old new:List KV) (K:QK):QR:=df old new fun all=>yO h (.cells false all) fun i h=>nfc (Nat.add len n) fun k=>K (.sl i 0 k none sz) h
noncomputable def G5 (h:KH) (id len n sz:Nat) (old new:List KV) (K:QK):QR:=xO h id fun o=>o.onCells fun ro _=>zb ro none (JU h id fun h=>Ux h len n sz old new K)
noncomputable def pJ (sz bytes:Nat) (src:KV→KH→(Nat→List KV→QR)→QR) (s x:KV) (h:KH) (K:QK):QR:=
 zb (yw h) (src x h fun n new=>zb (Nat.beq n 0) (GC s h K) (s.onSl (fun id off len c sz'=>zb (Nat.beq sz' sz&&Nat.ble ((len+n)*bytes) 140737488355328)
  (uX h id off (Nat.mul len sz) fun old=>Option.rec (motive:=fun _=>QR) (G5 h id len n sz old new K) (fun c=>zb (Nat.ble (Nat.add len n) c) (Gj h id off len n c sz new K) (Ux h len n sz old new K)) c) none)
  none (zb (Nat.ble (n*bytes) 140737488355328) (yO h (.cells false new) fun i h=>K (.sl i 0 n none sz) h) none) none)) none
theorem Vh {len n sz:Nat} {old new:List KV} {r:KV×KH} (e:Ux h len n sz old new K=some r):yw h=true∧K (.sl h.next 0 (len+n) none sz) (h.push (.cells false (old++new)))=some r:=by
 unfold Ux at e
 rw [jT,yH]at e
 split at e
 ·rename_i hr; rw [zi]at e; exact⟨hr,e⟩
 ·cases e
def Gs (h:KH) (sz bytes n:Nat) (new:List KV) (s:KV):Option (KV×KH):=
   if n=0 then(match s with| .sl .. | .nilsl| .slz=>some (s,h)|_=>none)else
   match s with
   | .nilsl=>if n*bytes≤140737488355328 then some (.sl h.next 0 n none sz,h.push (.cells false new))else none
   | .sl id off len c sz'=>
    if sz'=sz∧(len+n)*bytes≤140737488355328 then
     match uR h id off (len*sz)with
     |none=>none
     | some old=>
      match c with
      | some c=>
       if len+n≤c then(match h.get id with
        |some (.cells false cs)=>if off+len*sz+new.length≤cs.length then some (.sl id off (len+n) (some c) sz,h.set id (some (.cells false (cs.take (off+len*sz)++new++cs.drop (off+len*sz+new.length)))))else none
        |_=>none)
       else some (.sl h.next 0 (len+n) none sz,h.push (.cells false (old++new)))
      | none=>match h.get id with
       |some (.cells false cs)=>some (.sl h.next 0 (len+n) none sz,(h.set id none).push (.cells false (old++new)))
       |_=>none
    else none
   |_=>none
theorem B7 {sz bytes n:Nat} {new:List KV} {s:KV} {r:KV×KH}
  (e:zb (Nat.beq n 0) (GC s h K) (s.onSl (fun id off len c sz'=>zb (Nat.beq sz' sz&&Nat.ble ((len+n)*bytes) 140737488355328)
  (uX h id off (Nat.mul len sz) fun old=>Option.rec (motive:=fun _=>QR) (G5 h id len n sz old new K) (fun c=>zb (Nat.ble (Nat.add len n) c) (Gj h id off len n c sz new K) (Ux h len n sz old new K)) c) none)
  none (zb (Nat.ble (n*bytes) 140737488355328) (yO h (.cells false new) fun i h=>K (.sl i 0 n none sz) h) none) none)=some r):∃v h',Gs h sz bytes n new s=some (v,h')∧K v h'=some r:=by
 rw [za]at e
 by_cases hn:n=0
 ·rw [if_pos (by rw [Nat.beq_eq]; exact hn)]at e
  unfold Gs
  rw [if_pos hn]
  cases s<;>first|(cases e; done)|skip
  ·exact⟨_,_,rfl,by simpa [GC,KV.onSl,KV.hd] using e⟩
  ·exact⟨_,_,rfl,e⟩
  ·exact⟨_,_,rfl,e⟩
 ·rw [if_neg (by rw [Nat.beq_eq]; exact hn)]at e
  unfold Gs
  rw [if_neg hn]
  cases s<;>first|(cases e; done)|skip
  ·rename_i id off len c sz'
   simp only [KV.onSl,za,Bool.and_eq_true,Nat.beq_eq,Nat.ble_eq]at e
   by_cases hc:sz'=sz∧(len+n)*bytes≤140737488355328
   ·rw [if_pos hc]at e
    simp only
    rw [if_pos hc]
    obtain⟨old,e1,e⟩:=ke e
    have e1:uR h id off (len*sz)=some old:=e1
    rw [e1]
    cases c with
    | none=>
     simp only [G5,xj]at e
     cases hg:h.get id with
     |none=>rw [hg]at e; cases e
     | some o=>
      rw [hg]at e
      cases o<;>first|(cases e; done)|skip
      rename_i ro cs
      cases ro with
      |true=>cases e
      | false=>
       simp only [Option.elim_some,KO.onCells,za,Bool.false_eq_true,if_false,Kw]at e
       obtain⟨_,e⟩:=Vh e
       exact⟨_,_,rfl,e⟩
    | some c=>
     simp only [Nat.ble_eq]at e
     have hle:Nat.add len n=len+n:=rfl
     rw [hle]at e
     simp only
     by_cases h2:len+n≤c
     ·rw [if_pos h2]at e ⊢
      simp only [Gj,xj]at e
      cases hg:h.get id with
      |none=>rw [hg]at e; cases e
      | some o=>
       rw [hg]at e
       cases o<;>first|(cases e; done)|skip
       rename_i ro cs
       cases ro with
       |true=>cases e
       | false=>
        simp only [Option.elim_some,KO.onCells,za,Bool.false_eq_true,if_false,Wx,pF,v6,zi]at e
        have ha:Nat.add off (Nat.mul len sz)=off+len*sz:=rfl
        rw [ha]at e
        split at e
        ·rename_i h3
         simp only
         rw [if_pos h3]
         exact⟨_,_,rfl,e⟩
        ·cases e
     ·rw [if_neg h2]at e ⊢
      obtain⟨_,e⟩:=Vh e
      exact⟨_,_,rfl,e⟩
   ·rw [if_neg hc]at e; cases e
  ·simp only [KV.onSl,za,Nat.ble_eq,yH]at e
   simp only
   split at e
   ·rename_i h1
    split at e
    ·rw [if_pos h1]; exact⟨_,_,rfl,e⟩
    ·cases e
   ·cases e
theorem Zu {T:TypeId→TI} {d dx:TD} {el sz bytes:Nat} {src:KV→KH→(Nat→List KV→QR)→QR} (hd:d= .slice el sz bytes) (hs:eC src dx sz) (hz:(T el).zok=true) (hl:(T el).zero.cells.length=sz) (hb:0<bytes) (s x:KV):
  QOk (pJ sz bytes src s x h K) (jz h T d dx s x) K:=by
 subst hd
 intro r e
 unfold pJ at e
 rw [za]at e
 split at e
 ·rename_i hr
  obtain⟨n,new,e1,e⟩:=hs _ _ _ _ e
  obtain⟨v,h',e2,e3⟩:=B7 e
  refine⟨v,h', ?_,e3⟩
  simp only [jz,hz,hl,hb,hr,and_self,if_true,e1]
  exact e2
 ·cases e
end
theorem QOk.mono {e:QR} {s s':Option (KV×KH)} {K:QK} (k:QOk e s K) (h:∀p,s=some p→s'=some p):QOk e s' K:=fun r q=>by
 obtain⟨v,hh,e1,e2⟩:=k r q
 exact⟨v,hh,h _ e1,e2⟩
section
variable {h:KH} {K:QK} {E:KE}
def bB (E:KE) (t:TypeId) (h:KH) (x i:KV):Option (KV×KH):=match i with| .int _ i=>(Xh E t x i).map fun v=>(v,h)|_=>none
theorem Ku {t:TypeId} (hd:(E.T t).d= .str) (x i:KV):QOk (Du x i h K) (bB E t h x i) K:=by
 refine(DK hd x i).mono ?_
 intro p e
 cases i<;>first|(cases e; done)|skip
 rename_i k i
 simp only [Ws]at e
 simp only [bB,Xh]
 cases hk:bp (E.T t).d x i with
 |none=>rw [hk]at e; cases e
 |some v=>rw [hk]at e; exact e
noncomputable def fB (n sz:Nat) (x i:KV) (h:KH) (K:QK):QR:=i.onInt (fun _ i=>q9 i fun i=>x.onAgg (fun cs=>zb (Nat.blt i n) (Bs cs (Nat.mul i sz) fun v=>v.hd fun v=>K v h) none) none) none
noncomputable def fT (n sz:Nat) (x i:KV) (h:KH) (K:QK):QR:=i.onInt (fun _ i=>q9 i fun i=>x.onAgg (fun cs=>zb (Nat.blt i n) (Zk cs (Nat.mul i sz) fun l=>bY l sz fun l=>K (.agg l) h) none) none) none
theorem eg {t e:TypeId} {n sz:Nat} (hd:(E.T t).d= .arr n sz) (ha:E.A t=some e) (ho:(E.T e).ok=true∧(E.T e).d≠ .other) (x i:KV):
  QOk (zb (E.T e).d.agg (fT n (E.T e).sz x i h K) (fB n (E.T e).sz x i h K)) (bB E t h x i) K:=by
 have none1:∀x i,bp (.arr n sz) x i=none:=fun x i=>by cases x<;>rfl
 rw [za]
 split
 ·rename_i hagg
  cases i<;>try exact .none _ _
  rename_i k i
  show QOk (q9 i _) _ _
  rw [ur]
  by_cases hi:0≤i
  ·rw [if_pos hi]
   cases x<;>try exact .none _ _
   rename_i cs
   simp only [KV.onAgg,za,qL,qY,zI,decide_eq_true_eq,bB,Xh,hd,none1,gL,ha]
   by_cases hl:i.toNat<n
   ·have hcond:0≤i∧i<(n:Int)∧(E.T e).ok=true∧(E.T e).d≠ .other:=⟨hi,by omega,ho.1,ho.2⟩
    rw [if_pos hl]
    simp only [if_pos hcond,krd,hagg,if_true]
    have:Nat.mul i.toNat (E.T e).sz=i.toNat*(E.T e).sz:=rfl
    rw [this]
    split
    ·exact .one rfl
    ·exact .none _ _
   ·rw [if_neg hl]; exact .none _ _
  ·rw [if_neg hi]; exact .none _ _
 ·rename_i hagg
  rw [Bool.not_eq_true]at hagg
  cases i<;>try exact .none _ _
  rename_i k i
  show QOk (q9 i _) _ _
  rw [ur]
  by_cases hi:0≤i
  ·rw [if_pos hi]
   cases x<;>try exact .none _ _
   rename_i cs
   simp only [KV.onAgg,za,pO,zI,decide_eq_true_eq,bB,Xh,hd,none1,gL,ha]
   by_cases hl:i.toNat<n
   ·have hcond:0≤i∧i<(n:Int)∧(E.T e).ok=true∧(E.T e).d≠ .other:=⟨hi,by omega,ho.1,ho.2⟩
    rw [if_pos hl]
    simp only [if_pos hcond,krd,hagg,if_false,Bool.false_eq_true]
    have:Nat.mul i.toNat (E.T e).sz=i.toNat*(E.T e).sz:=rfl
    rw [this]
    cases cs[i.toNat*(E.T e).sz]? with
    |none=>exact .none _ _
    |some v=>simp only [Option.elim_some,KV.hd_eq]; exact .one rfl
   ·rw [if_neg hl]; exact .none _ _
  ·rw [if_neg hi]; exact .none _ _
noncomputable def Pc (x:KV) (h:KH) (K:QK):QR:=x.onStr (fun n b=>Zs b n 0 fun l=>yO h (.cells false l) fun i h=>K (.sl i 0 n none 1) h) none
theorem DS {T:TypeId→TI} {s d:TypeId} {e by_:Nat} (hs:(T s).ok=true) (hss:(T s).d= .str) (hd:(T d).d= .slice e 1 by_) (he:(T e).d= .int .u8) (x:KV):QOk (Pc x h K) (vK h T s d x) K:=by
 cases x<;>try exact .none _ _
 rename_i n b
 simp only [Pc,KV.onStr,dq,yH]
 split
 ·rename_i hr
  refine .one ?_
  simp only [vK,hs,if_true,hd]
  rw [if_pos ⟨he,hss,hr⟩]
 ·exact .none _ _
noncomputable def Jk (l:List KV) (K:Nat→QR):QR:=List.rec (motive:=fun _=>(Nat→QR)→QR) (fun K=>K 0) (fun v _ ih K=>v.onInt (fun k n=>IntKind.rec (motive:=fun _=>QR→QR) (fun _=>none) (fun _=>none) (fun _=>none) (fun _=>none) (fun q=>q) (fun _=>none) (fun _=>none) (fun _=>none) k
 (q9 n fun n=>zb (Nat.blt n 256) (ih fun s=>nfc (Nat.add n (Nat.mul 256 s)) K) none)) none) l K
theorem YO:∀(l:List KV) (K:Nat→QR) (r:KV×KH),Jk l K=some r→∃b,bq l=some b∧K b=some r
 | [],K,r,q=>⟨0,rfl,q⟩
 | v ::l,K,r,q=>by
  cases v<;>first|(cases q; done)|skip
  rename_i k n
  cases k<;>first|(cases q; done)|skip
  have q:(q9 n fun n=>zb (Nat.blt n 256) (Jk l fun s=>nfc (Nat.add n (Nat.mul 256 s)) K) none)=some r:=q
  rw [ur]at q
  split at q
  ·rename_i hn
   rw [za]at q
   split at q
   ·rename_i hb
    obtain⟨b,e1,e2⟩:=YO l _ r q
    rw [zi]at e2
    refine⟨_, ?_,e2⟩
    simp only [bq,e1,hb,cond_true]
   ·cases q
  ·cases q
noncomputable def Dg (x:KV) (h:KH) (K:QK):QR:=x.onSl (fun id off len c s=>zb (Nat.beq s 1) (uX h id off len fun l=>Jk l fun b=>K (.str len b) h) none) (K (.str 0 0) h) (K (.str 0 0) h) none
theorem DM {T:TypeId→TI} {s d:TypeId} {e sz by_:Nat} (hs:(T s).ok=true) (hss:(T s).d= .slice e sz by_) (hd:(T d).d= .str) (he:(T e).d= .int .u8) (x:KV):QOk (Dg x h K) (vK h T s d x) K:=by
 intro r q
 cases x<;>first|(cases q; done)|skip
 ·rename_i id off len c sz'
  simp only [Dg,KV.onSl,za,Nat.beq_eq]at q
  split at q
  ·rename_i h1
   subst h1
   obtain⟨l,e1,q⟩:=ke q
   obtain⟨b,e2,q⟩:=YO _ _ _ q
   refine⟨_,_, ?_,q⟩
   simp only [vK,hs,if_true,hss,hd,he,e1,e2]
  ·cases q
 ·exact⟨_,_,by simp only [vK,hs,if_true,hss,hd,he],q⟩
 ·exact⟨_,_,by simp only [vK,hs,if_true,hss,hd,he],q⟩
noncomputable def Pd (h:KH) (id off n:Nat) (new:List KV) (K:QK):QR:=xO h id fun o=>o.onCells fun ro cs=>zb ro none (eq new fun m=>XI cs off m new fun cs=>j5 h id (.cells false cs) fun h=>K (.int .i64 (.ofNat n)) h)
noncomputable def Ki (sz:Nat) (src:KV→KH→(Nat→List KV→QR)→QR) (x y:KV) (h:KH) (K:QK):QR:=
 x.onSl (fun id off len c sz'=>zb (Nat.beq sz sz') (src y h fun n new=>zb (Nat.ble n len) (Pd h id off n new K) none) none) none none none
theorem V7 {d dx:TD} {el sz bytes:Nat} {src:KV→KH→(Nat→List KV→QR)→QR} (hd:d= .slice el sz bytes) (hs:eC src dx sz) (x y:KV):QOk (Ki sz src x y h K) (ZP h d dx x y) K:=by
 subst hd
 intro r q
 cases x<;>first|(cases q; done)|skip
 rename_i id off len c sz'
 simp only [Ki,KV.onSl,za,Nat.beq_eq]at q
 split at q
 ·rename_i h1
  obtain⟨n,new,e1,q⟩:=hs _ _ _ _ q
  simp only [Nat.ble_eq]at q
  split at q
  ·rename_i h2
   simp only [Pd,xj]at q
   cases hg:h.get id with
   |none=>rw [hg]at q; cases q
   | some o=>
    rw [hg]at q
    cases o<;>first|(cases q; done)|skip
    rename_i ro cs
    cases ro with
    |true=>cases q
    | false=>
     simp only [Option.elim_some,KO.onCells,za,Bool.false_eq_true,if_false,Wx,pF,v6]at q
     split at q
     ·rename_i h3
      refine⟨_,_, ?_,q⟩
      simp only [ZP]
      rw [if_pos h1,e1]
      simp only
      rw [if_pos h2,hg]
      simp only
      rw [if_pos h3]
      rfl
     ·cases q
  ·cases q
 ·cases q
noncomputable def mfc (l:List (KV×KV×Nat)) (K:List (KV×KV×Nat)→QR):QR:=List.rec (motive:=fun _=>(List (KV×KV×Nat)→QR)→QR) (fun K=>K []) (fun x _ ih K=>x.1.fc fun a=>x.2.1.fc fun b=>nfc x.2.2 fun c=>ih fun r=>K ((a,b,c)::r)) l K
theorem Pg:∀(l:List (KV×KV×Nat)) (K:List (KV×KV×Nat)→QR),mfc l K=K l
 | [],K=>rfl
 | (a,b,c)::r,K=>by
  have e:mfc ((a,b,c)::r) K=a.fc fun a=>b.fc fun b=>nfc c fun c=>mfc r fun r=>K ((a,b,c)::r):=rfl
  rw [e]; simp only [KV.fc_eq,zi,Pg r]
noncomputable def Bl (l:List Nat) (K:List Nat→QR):QR:=List.rec (motive:=fun _=>(List Nat→QR)→QR) (fun K=>K []) (fun x _ ih K=>nfc x fun a=>ih fun r=>K (a::r)) l K
theorem Qd:∀(l:List Nat) (K:List Nat→QR),Bl l K=K l
 | [],K=>rfl
 | a::r,K=>by
  have e:Bl (a::r) K=nfc a fun a=>Bl r fun r=>K (a::r):=rfl
  rw [e]; simp only [zi,Qd r]
noncomputable def KO.fc (o:KO) (K:KO→QR):QR:=KO.rec (motive:=fun _=>(KO→QR)→QR) (fun ro cs K=>bfc ro fun ro=>KV.fcs cs fun cs=>K (.cells ro cs)) (fun es c K=>mfc es fun es=>nfc c fun c=>K (.map es c)) (fun n s p K=>nfc n fun n=>nfc s fun s=>nfc p fun p=>K (.sit n s p))
 (fun m s l x K=>Uc m fun m=>nfc s fun s=>Bl l fun l=>nfc x fun x=>K (.mit m s l x)) (fun l K=>K (.loop l)) (fun c K=>K (.defd c)) o K
theorem KO.fc_eq (o:KO) (K:KO→QR):o.fc K=K o:=by
 cases o with
 |cells ro cs=>exact(X4 ro fun ro=>KV.fcs cs fun cs=>K (.cells ro cs)).trans (KV.fcs_eq cs fun cs=>K (.cells ro cs))
 |map es c=>exact(Pg es fun es=>nfc c fun c=>K (.map es c)).trans (zi c fun c=>K (.map es c))
 |sit n s p=>exact(zi n fun n=>nfc s fun s=>nfc p fun p=>K (.sit n s p)).trans ((zi s fun s=>nfc p fun p=>K (.sit n s p)).trans (zi p fun p=>K (.sit n s p)))
 |mit m s l x=>exact(QJ m fun m=>nfc s fun s=>Bl l fun l=>nfc x fun x=>K (.mit m s l x)).trans ((zi s fun s=>Bl l fun l=>nfc x fun x=>K (.mit m s l x)).trans ((Qd l fun l=>nfc x fun x=>K (.mit m s l x)).trans (zi x fun x=>K (.mit m s l x))))
 |loop l=>rfl
 |defd c=>rfl
noncomputable def gB (s:Option (KV×Nat×KO)) (h:KH) (K:QK):QR:=Option.rec (motive:=fun _=>QR) none (fun p=>p.1.fc fun v=>nfc p.2.1 fun id=>p.2.2.fc fun o=>j5 h id o fun h=>K v h) s
theorem jc {s:Option (KV×Nat×KO)} {t:Option (KV×KH)} (e:t=s.map fun p=>(p.1,h.set p.2.1 (some p.2.2))):QOk (gB s h K) t K:=by
 subst e
 cases s with
 |none=>exact .none _ _
 | some p=>
  obtain⟨v,id,o⟩:=p
  simp only [gB,KV.fc_eq,zi,KO.fc_eq,v6]
  exact .one rfl
def uy (h:KH) (T:TypeId→TI) (d:TD) (m k v:KV):Option (KV×Nat×KO):=
 match d,xz h m with
 | .map kt _,some (id,es,clk)=>
  if wW (T kt).d k=true then
  match qH (T kt).d k es 0 with
  |some (some (i,_))=>some (.tuple [],id, .map (es.modify i fun e=>(k,v,e.2.2)) clk)
  |some none=>some (.tuple [],id, .map (es ++ [(k,v,clk)]) (clk+1))
  |none=>none
  else none
 |_,_=>none
theorem qZ (T:TypeId→TI) (d:TD) (m k v:KV):((wr h T d m k v).map fun h=>((.tuple []:KV),h))=(uy h T d m k v).map fun p=>(p.1,h.set p.2.1 (some p.2.2)):=by
 unfold wr uy
 cases hm:xz h m with
 |none=>cases d<;>rfl
 | some p=>
  obtain⟨id,es,clk⟩:=p
  cases d<;>first|rfl|skip
  rename_i kt et
  simp only
  by_cases hk:wW (T kt).d k=true
  ·rw [if_pos hk,if_pos hk]
   cases qH (T kt).d k es 0 with
   |none=>rfl
   | some q=>cases q with
    |none=>rfl
    |some ij=>rfl
  ·rw [if_neg hk,if_neg hk]; rfl
def bD (h:KH) (T:TypeId→TI) (Z:TypeId→KV) (d:TD) (m k:KV):Option (KV×Nat×KO):=
 match d,xz h m with
 | .map kt et,some (id,es,clk)=>
  if wW (T kt).d k=true∧(T et).zok=true then
  match qH (T kt).d k es 0 with
  |some (some (i,v))=>some (.tuple [v, .int .i64 (match es[i]? with|some e=>e.2.2|none=>0)],id, .map (es.modify i fun e=>(k,e.2.1,e.2.2)) clk)
  |some none=>some (.tuple [Z et, .int .i64 clk],id, .map (es ++ [(k,Z et,clk)]) (clk+1))
  |none=>none
  else none
 |_,_=>none
theorem Yw (T:TypeId→TI) (Z:TypeId→KV) (d:TD) (m k:KV):vU h T Z d m k=(bD h T Z d m k).map fun p=>(p.1,h.set p.2.1 (some p.2.2)):=by
 unfold vU bD
 cases hm:xz h m with
 |none=>cases d<;>rfl
 | some p=>
  obtain⟨id,es,clk⟩:=p
  cases d<;>first|rfl|skip
  rename_i kt et
  simp only
  by_cases hk:wW (T kt).d k=true∧(T et).zok=true
  ·rw [if_pos hk,if_pos hk]
   cases qH (T kt).d k es 0 with
   |none=>rfl
   | some q=>cases q with
    |none=>rfl
    |some ij=>rfl
  ·rw [if_neg hk,if_neg hk]; rfl
def jS (h:KH) (m s v:KV):Option (KV×Nat×KO):=
 match xz h m,s with
 | some (id,es,clk), .int _ b=>if 0≤b then(match wO b.toNat es 0 with
  |some i=>some (.tuple [],id, .map (es.modify i fun e=>(e.1,v,e.2.2)) clk)
  |none=>none)else none
 |_,_=>none
theorem pz (m s v:KV):((wA h m s v).map fun h=>((.tuple []:KV),h))=(jS h m s v).map fun p=>(p.1,h.set p.2.1 (some p.2.2)):=by
 unfold wA jS
 cases hm:xz h m with
 |none=>rfl
 | some p=>
  obtain⟨id,es,clk⟩:=p
  cases s<;>first|rfl|skip
  rename_i k b
  simp only
  by_cases hk:0≤b
  ·rw [if_pos hk,if_pos hk]
   cases wO b.toNat es 0<;>rfl
  ·rw [if_neg hk,if_neg hk]; rfl
def kM (h:KH) (m:KV):Option (KV×Nat×KO):=match xz h m with
 |some (id,_,clk)=>some (.tuple [],id, .map [] clk)
 |none=>none
theorem Jm (m:KV):QOk (gB (kM h m) h K) ((gZ h m).map fun h=>(.tuple [],h)) K:=by
 refine(jc (t:=(kM h m).map fun p=>(p.1,h.set p.2.1 (some p.2.2))) rfl).mono ?_
 intro p e
 cases m with
 |map i=>rw [←e]; unfold gZ kM; simp only; cases xz h (.map i)<;>rfl
 |nilmap=>cases e
 |_=>cases e
def Zb (h:KH) (it:KV) (isString:Bool):Option (KV×Nat×KO):=
 match it with
 | .ptr id 0=>match h.get id,isString with
  | some (.sit n s pos),true=>
   if pos<n then
    (if je s pos<128 then some (.tuple [.bool true, .int .i64 pos, .int .i32 (je s pos)],id, .sit n s (pos+1))else none)
   else none
  | some (.mit (some m) since seen last),false=>match h.get m with
   | some (.map es clk)=>
    if seen.isEmpty=false∧es.isEmpty=false∧es.all (fun e=>Nat.ble last e.2.2)=true then none else
    match Y9 seen es with
    | [(k,v,b)]=>if b<since then some (.tuple [.bool true,k,v],id, .mit (some m) since (seen ++ [b]) clk)else none
    |_=>none
   |_=>none
  |_,_=>none
 |_=>none
noncomputable def Pt (s:Bool) (it:KV) (h:KH) (K:QK):QR:=Option.rec (motive:=fun _=>QR) (Option.rec (motive:=fun _=>QR) none (fun p=>p.1.fc fun v=>zb (xp v d8) (K v h) none) (qx h it s)) (fun _=>gB (Zb h it s) h K) (Zb h it s)
theorem KM {it:KV} {s:Bool} {p:KV×Nat×KO} (e:Zb h it s=some p):qx h it s=some (p.1,h.set p.2.1 (some p.2.2)):=by
 unfold Zb at e
 unfold qx
 split at e
 ·rename_i id
  simp only
  split at e
  ·rename_i n st pos hg
   rw [hg]
   simp only
   split at e
   ·rename_i hp
    rw [if_pos hp]
    split at e
    ·rename_i h2
     rw [if_pos h2]
     injection e with e; subst e; rfl
    ·cases e
   ·cases e
  ·rename_i m since seen last hg
   rw [hg]
   simp only
   split at e
   ·rename_i es clk hm
    rw [hm]
    simp only
    split at e
    ·cases e
    ·rename_i hc
     rw [if_neg hc]
     split at e
     ·rename_i k v b hl
      rw [hl]
      simp only
      split at e
      ·rename_i hb
       rw [if_pos hb]
       injection e with e; subst e; rfl
      ·cases e
     ·cases e
   ·cases e
  ·cases e
 ·cases e
theorem UG {it:KV} {s:Bool} {h':KH} (e:qx h it s=some (d8,h')):h'=h:=by
 unfold qx at e
 have ne:∀ {a:KV} {l:List KV},KV.tuple (.bool true::a::l)≠d8:=fun h=>by simp [d8]at h
 split at e
 ·split at e
  ·split at e
   ·split at e
    ·simp only [Option.some.injEq,Prod.mk.injEq]at e; exact absurd e.1 ne
    ·cases e
   ·simp only [Option.some.injEq,Prod.mk.injEq]at e; exact e.2.symm
  ·simp only [Option.some.injEq,Prod.mk.injEq]at e; exact e.2.symm
  ·split at e
   ·split at e
    ·cases e
    ·split at e
     ·simp only [Option.some.injEq,Prod.mk.injEq]at e; exact e.2.symm
     ·split at e
      ·simp only [Option.some.injEq,Prod.mk.injEq]at e; exact absurd e.1 ne
      ·cases e
     ·cases e
   ·cases e
  ·cases e
 ·cases e
theorem DJ (s:Bool) (it:KV):QOk (Pt s it h K) (qx h it s) K:=by
 unfold Pt
 cases h3:Zb h it s with
 |some p=>exact jc (by rw [KM h3]; rfl)
 | none=>
  intro r q
  cases hn:qx h it s with
  |none=>rw [hn]at q; cases q
  | some p=>
   obtain⟨v,h'⟩:=p
   rw [hn]at q
   simp only [KV.fc_eq,za]at q
   split at q
   ·rename_i hv
    have:=wV _ _ hv
    subst this
    have:=UG hn
    subst this
    exact⟨_,_,rfl,q⟩
   ·cases q
noncomputable def Qe (h:KH) (K:QK):QR:=yO h (.map [] 0) fun i h=>K (.map i) h
noncomputable def V8 (x:KV) (h:KH) (K:QK):QR:=x.onInt (fun _ _=>yO h (.map [] 0) fun i h=>K (.map i) h) none
def Pj (h:KH) (d:TD) (x:KV):Option KO:=match d,x with
 | .str, .str n s=>some (.sit n s 0)
 | .map _ _, .nilmap=>some (.mit none 0 [] 0)
 | .map _ _,m=>match xz h m with
  |some (id,_,clk)=>some (.mit (some id) clk [] clk)
  |none=>none
 |_,_=>none
noncomputable def D3 (d:TD) (x:KV) (h:KH) (K:QK):QR:=Option.rec (motive:=fun _=>QR) none (fun o=>o.fc fun o=>yO h o fun i h=>K (.ptr i 0) h) (Pj h d x)
theorem DY (d:TD) (x:KV):QOk (D3 d x h K) (pk h d x) K:=by
 have fin:∀(o:KO) (s:Option (KV×KH)),(yw h=true→s=some (.ptr h.next 0,h.push o))→QOk (o.fc fun o=>yO h o fun i h=>K (.ptr i 0) h) s K:=by
  intro o s hs
  rw [KO.fc_eq,yH]
  split
  ·rename_i hr; exact .one (hs hr)
  ·exact .none _ _
 unfold D3
 cases d<;>first|exact .none _ _|skip
 ·cases x<;>first|exact .none _ _|skip
  exact fin _ _ fun hr=>by simp only [pk,hr,if_true]
 ·cases x<;>first|exact .none _ _|skip
  ·rename_i i
   simp only [Pj]
   cases hm:xz h (.map i)with
   |none=>exact .none _ _
   |some p=>exact fin _ _ fun hr=>by simp only [pk,hr,if_true,hm]
  ·exact fin _ _ fun hr=>by simp only [pk,hr,if_true]
noncomputable def p5 (z:List KV) (n:Nat) (K:List KV→QR):QR:=Nat.rec (motive:=fun _=>List KV→(List KV→QR)→QR) (fun _ K=>K []) (fun _ ih z K=>ih z fun r=>df z r K) n z K
theorem YP (z:List KV):∀(n:Nat) (K:List KV→QR),p5 z n K=K (xV n z)
 |0,K=>rfl
 | n+1,K=>by
  have e:p5 z (n+1) K=p5 z n fun r=>df z r K:=rfl
  rw [e,YP z n,jT]
  simp only [xV,List.replicate_succ,List.flatten_cons]
noncomputable def ff (sz bytes:Nat) (z:List KV) (l c:KV) (h:KH) (K:QK):QR:=l.onInt (fun _ l=>q9 l fun l=>c.onInt (fun _ c=>q9 c fun c=>zb (Nat.ble l c&&Nat.ble (Nat.mul bytes c) 140737488355328&&Nat.ble c 140737488355328) (p5 z c fun cs=>yO h (.cells false cs) fun i h=>K (.sl i 0 l (some c) sz) h) none) none) none
theorem Gz {T:TypeId→TI} {Z:TypeId→KV} {d:TD} {e sz bytes:Nat} {z:List KV} (hd:d= .slice e sz bytes) (hz:(T e).zok=true) (hl:(Z e).cells.length=sz) (hzz:(Z e).cells=z) (l c:KV):QOk (ff sz bytes z l c h K) (ZZ h T Z d l c) K:=by
 subst hd hzz
 intro r q
 cases l<;>first|(cases q; done)|skip
 rename_i k1 l
 have q:(q9 l fun l=>c.onInt (fun _ c=>q9 c fun c=>zb (Nat.ble l c&&Nat.ble (Nat.mul bytes c) 140737488355328&&Nat.ble c 140737488355328) (p5 (Z e).cells c fun cs=>yO h (.cells false cs) fun i h=>K (.sl i 0 l (some c) sz) h) none) none)=some r:=q
 rw [ur]at q
 split at q
 ·rename_i h0
  cases c<;>first|(cases q; done)|skip
  rename_i k2 c _
  simp only [KV.onInt,ur,za,YP,yH,Bool.and_eq_true,Nat.ble_eq]at q
  split at q
  ·rename_i h1
   split at q
   ·rename_i h2
    split at q
    ·rename_i hr
     refine⟨_,_, ?_,q⟩
     simp only [ZZ]
     have hm:Nat.mul bytes c.toNat=bytes*c.toNat:=rfl
     rw [hm]at h2
     have hb:(bytes:Int)*c≤140737488355328:=by
      have e1:(c.toNat:Int)=c:=by omega
      rw [←e1,←Int.natCast_mul]
      have:=h2.1.2
      omega
     rw [if_pos ⟨h0,by omega,hb,by omega,hz,hl,hr⟩]
    ·cases q
   ·cases q
  ·cases q
 ·cases q
end
noncomputable def wH (d:TD):Bool:=match d with| .other=>true|_=>false
theorem vY (d:TD):wH d=false→d≠ .other:=by intro h e; subst e; cases h
section
variable {S:Type} {E:KE}
noncomputable def Qs (E:KE) (t:TypeId) (a:Operand) (K:QOp→S) (F:S):S:=
 zb ((E.T t).ok && !(wH (E.T t).d)) (zb (E.T t).d.agg (nfc (E.T t).sz fun n=>cO E.ng a fun a=>K (.f1 (ZC n) a)) (cO E.ng a fun a=>K (.f1 ZH a))) F
theorem GS (t:TypeId) (a:Operand) (K:QOp→S) (F:S):Qs E t a K F=F∨∃q:QOp,q.okE E (.load t a)∧Qs E t a K F=K q:=by
 unfold Qs
 simp only [za,zi,Bool.and_eq_true,Bool.not_eq_true']
 by_cases hc:(E.T t).ok=true∧(wH (E.T t).d)=false
 ·rw [if_pos hc]
  have h1:(E.T t).ok=true∧(E.T t).d≠ .other:=⟨hc.1,vY _ hc.2⟩
  by_cases ha:(E.T t).d.agg=true
  ·rw [if_pos ha]
   exact .inr (jI (f:=fun h v=>(j3 h v (E.T t).sz true).map fun v=>(v,h)) (fun v h K=>Y6 v _) (fun l h=>by simp only [zw,if_pos h1,ha]) K)
  ·rw [if_neg ha]
   rw [Bool.not_eq_true]at ha
   exact .inr (jI (f:=fun h v=>(j3 h v (E.T t).sz false).map fun v=>(v,h)) (fun v h K=>Xc v _) (fun l h=>by simp only [zw,if_pos h1,ha]) K)
 ·rw [if_neg hc]; exact .inl rfl
noncomputable def jN (E:KE) (s:TypeId) (x:Operand) (f:Nat) (K:QOp→S) (F:S):S:=
 match(E.T s).d with
 | .struct fs=>match fs[f]? with
  |some (k,n)=>zb (Nat.beq n 0) F (nfc k fun k=>cO E.ng x fun x=>K (.f1 (Pl k) x))
  |none=>F
 |_=>F
theorem Ys (s:TypeId) (x:Operand) (f:Nat) (K:QOp→S) (F:S):jN E s x f K F=F∨∃q:QOp,q.okE E (.fieldAddr s x f)∧jN E s x f K F=K q:=by
 unfold jN
 split
 ·rename_i fs hd
  split
  ·rename_i k n hf
   rw [za,zi]
   split
   ·exact .inl rfl
   ·rename_i hn
    rw [Nat.beq_eq]at hn
    exact .inr (jI (f:=fun h v=>(w6 (E.T s).d v f).map fun v=>(v,h)) (fun v h K=>BX hd hf hn v) (fun l h=>rfl) K)
  ·exact .inl rfl
 ·exact .inl rfl
noncomputable def WL (E:KE) (s:TypeId) (x:Operand) (f:Nat) (K:QOp→S) (F:S):S:=
 match(E.T s).d with
 | .struct fs=>match fs[f]?,(E.T s).fts[f]? with
  |some (off,_),some ft=>zb ((E.T ft).ok && !(wH (E.T ft).d)) (nfc off fun off=>zb (E.T ft).d.agg (nfc (E.T ft).sz fun n=>cO E.ng x fun x=>K (.f1 (Pi off n) x)) (cO E.ng x fun x=>K (.f1 (Gi off) x))) F
  |_,_=>F
 |_=>F
theorem Kt (s:TypeId) (x:Operand) (f:Nat) (K:QOp→S) (F:S):WL E s x f K F=F∨∃q:QOp,q.okE E (.field s x f)∧WL E s x f K F=K q:=by
 unfold WL
 split
 ·rename_i fs hd
  split
  ·rename_i off n ft hf ht
   simp only [za,zi,Bool.and_eq_true,Bool.not_eq_true']
   by_cases hc:(E.T ft).ok=true∧(wH (E.T ft).d)=false
   ·rw [if_pos hc]
    have h1:(E.T ft).ok=true∧(E.T ft).d≠ .other:=⟨hc.1,vY _ hc.2⟩
    by_cases ha:(E.T ft).d.agg=true
    ·rw [if_pos ha]
     exact .inr (jI (f:=fun h v=>(jX (E.T s) E.T v f).map fun v=>(v,h)) (fun v h K=>G4 hd hf ht h1 ha v) (fun l h=>rfl) K)
    ·rw [if_neg ha]
     rw [Bool.not_eq_true]at ha
     exact .inr (jI (f:=fun h v=>(jX (E.T s) E.T v f).map fun v=>(v,h)) (fun v h K=>D9 hd hf ht h1 ha v) (fun l h=>rfl) K)
   ·rw [if_neg hc]; exact .inl rfl
  ·exact .inl rfl
 ·exact .inl rfl
noncomputable def jD (E:KE) (t:TypeId) (x i:Operand) (K:QOp→S) (F:S):S:=
 match(E.T t).d with
 | .slice _ sz _=>nfc sz fun sz=>cO E.ng x fun x=>cO E.ng i fun i=>K (.f2 (eR sz) x i)
 | .arr n sz=>nfc n fun n=>nfc sz fun sz=>cO E.ng x fun x=>cO E.ng i fun i=>K (.f2 (fP n sz) x i)
 |_=>F
theorem Yy (t:TypeId) (x i:Operand) (K:QOp→S) (F:S):jD E t x i K F=F∨∃q:QOp,q.okE E (.indexAddr t x i)∧jD E t x i K F=K q:=by
 unfold jD
 split
 ·rename_i hd
  rw [zi]
  exact .inr (vA (f:=fun h x i=>Y5 (E.T t).d h x i) (fun v u h K=>D2 hd v u) (fun l h=>rfl) K)
 ·rename_i hd
  simp only [zi]
  exact .inr (vA (f:=fun h x i=>Y5 (E.T t).d h x i) (fun v u h K=>PC hd v u) (fun l h=>rfl) K)
 ·exact .inl rfl
noncomputable def zaa (g:Int→Int→Int) (x y:KV) (h:KH) (K:QK):QR:=qii x y fun k a b=>K (.int k (k.wrap (g a b))) h
noncomputable def DG (x y:KV) (h:KH) (K:QK):QR:=qii x y fun k a b=>zb (Ph b 0) none (K (.int k (Int.tmod a b)) h)
theorem Gn {xt:TypeId} (ho:(E.T xt).d≠ .other) {h:KH} {K:QK} (x y:KV):QOk (DG x y h K) (xq E h .rem xt x y) K:=by
 unfold DG
 cases x<;>try exact .none _ _
 cases y<;>try exact .none _ _
 rename_i k a k' b
 show QOk (zb _ _ _) _ _
 rw [za]
 by_cases hk:k=k'
 ·subst hk
  rw [if_pos ((pK _ _).2 rfl)]
  show QOk (zb (Ph b 0) none _) _ _
  rw [za]
  split
  ·exact .none _ _
  ·rename_i hb
   rw [WA]at hb
   have hb:b≠0:=by simpa using hb
   exact .one (YJ ho (by simp) (by simp) (show XG k .rem a b=_ by simp only [XG,Vx,if_neg hb,Option.bind_some]; rfl))
 ·rw [if_neg (fun x=>hk ((pK _ _).1 x))]; exact .none _ _
noncomputable def PH (E:KE) (op:BinOp) (t:TypeId) (x y:Operand) (K:QOp→S) (F:S):S:=
 zb (wH (E.T t).d) F (match(E.T t).d,op with
  | .int _, .rem=>zb (Nat.beq E.ng 0) (cO E.ng x fun x=>cO E.ng y fun y=>K (.f2 DG x y)) F
  | .int _, .add=>zb (Nat.beq E.ng 0) (cO E.ng x fun x=>cO E.ng y fun y=>K (.f2 (zaa (· + ·)) x y))<|cO E.ng x fun x=>cO E.ng y fun y=>K (.f2 (qar fy) x y)
  | .int _, .sub=>cO E.ng x fun x=>cO E.ng y fun y=>K (.f2 (qar f5) x y)
  | .int _, .mul=>cO E.ng x fun x=>cO E.ng y fun y=>K (.f2 (qar f8) x y)
  | .int _, .eql=>cO E.ng x fun x=>cO E.ng y fun y=>K (.f2 (UK Ph) x y)
  | .int _, .neq=>cO E.ng x fun x=>cO E.ng y fun y=>K (.f2 (UK fun a b=> !(Ph a b)) x y)
  | .int _, .lss=>cO E.ng x fun x=>cO E.ng y fun y=>K (.f2 (UK GM) x y)
  | .int _, .leq=>cO E.ng x fun x=>cO E.ng y fun y=>K (.f2 (UK fun a b=> !(GM b a)) x y)
  | .int _, .gtr=>cO E.ng x fun x=>cO E.ng y fun y=>K (.f2 (UK fun a b=>GM b a) x y)
  | .int _, .geq=>cO E.ng x fun x=>cO E.ng y fun y=>K (.f2 (UK fun a b=> !(GM a b)) x y)
  | .str, .add=>cO E.ng x fun x=>cO E.ng y fun y=>K (.f2 lL x y)
  | .str, .eql=>cO E.ng x fun x=>cO E.ng y fun y=>K (.f2 rE x y)
  | .str, .neq=>cO E.ng x fun x=>cO E.ng y fun y=>K (.f2 rp x y)
  |_,_=>F)
theorem P6 (op:BinOp) (t:TypeId) (x y:Operand) (yt:TypeId) (K:QOp→S) (F:S):PH E op t x y K F=F∨∃q:QOp,q.okE E (.binOp op t x y yt)∧PH E op t x y K F=K q:=by
 unfold PH
 rw [za]
 by_cases ho:(wH (E.T t).d)=true
 ·rw [if_pos ho]; exact .inl rfl
 ·rw [if_neg ho]
  have ho:=vY _ (Bool.not_eq_true _▸ho)
  split
  ·rw [za]
   split
   ·exact .inr (vA (f:=fun h x y=>xq E h .rem t x y) (fun v u h K=>Gn ho v u) (fun l h=>rfl) K)
   ·exact .inl rfl
  ·rw [za]
   split
   ·exact .inr (vA (f:=fun h x y=>xq E h .add t x y) (fun v u h K=>JM ho (by simp) (by simp) (fun k a b=>⟨_,rfl,rfl⟩) v u) (fun l h=>rfl) K)
   exact .inr (vA (f:=fun h x y=>xq E h .add t x y) (fun v u h K=>UY ho (by simp) (by simp) (g:=(· + ·)) Dh (fun _ _ _=>rfl) v u) (fun l h=>rfl) K)
  ·exact .inr (vA (f:=fun h x y=>xq E h .sub t x y) (fun v u h K=>UY ho (by simp) (by simp) (g:=(· - ·)) G9 (fun _ _ _=>rfl) v u) (fun l h=>rfl) K)
  ·exact .inr (vA (f:=fun h x y=>xq E h .mul t x y) (fun v u h K=>UY ho (by simp) (by simp) (g:=(· * ·)) B5 (fun _ _ _=>rfl) v u) (fun l h=>rfl) K)
  ·exact .inr (vA (f:=fun h x y=>xq E h .eql t x y) (fun v u h K=>ku ho (by simp) (by simp) (fun _ a b=>by rw [WA]; rfl) v u) (fun l h=>rfl) K)
  ·exact .inr (vA (f:=fun h x y=>xq E h .neq t x y) (fun v u h K=>ku ho (by simp) (by simp) (fun _ a b=>by rw [WA]; rfl) v u) (fun l h=>rfl) K)
  ·exact .inr (vA (f:=fun h x y=>xq E h .lss t x y) (fun v u h K=>ku ho (by simp) (by simp) (fun _ a b=>by rw [pY]; rfl) v u) (fun l h=>rfl) K)
  ·exact .inr (vA (f:=fun h x y=>xq E h .leq t x y) (fun v u h K=>ku ho (by simp) (by simp) (fun _ a b=>by
    rw [pY]; show some (KV.bool (decide (a≤b)))=_; congr 2; rw [Bool.eq_iff_iff]; simp) v u) (fun l h=>rfl) K)
  ·exact .inr (vA (f:=fun h x y=>xq E h .gtr t x y) (fun v u h K=>ku ho (by simp) (by simp) (fun _ a b=>by rw [pY]; rfl) v u) (fun l h=>rfl) K)
  ·exact .inr (vA (f:=fun h x y=>xq E h .geq t x y) (fun v u h K=>ku ho (by simp) (by simp) (fun _ a b=>by
    rw [pY]; show some (KV.bool (decide (a≥b)))=_; congr 2; rw [Bool.eq_iff_iff]; simp) v u) (fun l h=>rfl) K)
  ·exact .inr (vA (f:=fun h x y=>xq E h .add t x y) (fun v u h K=>cD ho v u) (fun l h=>rfl) K)
  ·exact .inr (vA (f:=fun h x y=>xq E h .eql t x y) (fun v u h K=>cB ho v u) (fun l h=>rfl) K)
  ·exact .inr (vA (f:=fun h x y=>xq E h .neq t x y) (fun v u h K=>PI ho v u) (fun l h=>rfl) K)
  ·exact .inl rfl
noncomputable def cA (E:KE) (t:TypeId) (x:Operand) (K:QOp→S) (F:S):S:=match(E.T t).d with
 | .str=>cO E.ng x fun x=>K (.f1 eO x)
 | .slice .. => cO E.ng x fun x=>K (.f1 eY x)
 |_=>F
theorem c9 (t:TypeId) (x:Operand) (K:QOp→S) (F:S):cA E t x K F=F∨∃q:QOp,q.okE E (.call ⟨.builtin .len, #[x], #[t]⟩)∧cA E t x K F=K q:=by
 unfold cA
 split
 ·rename_i hd
  exact .inr (jI (f:=fun h v=>(UR (E.T t).d v).map fun v=>(v,h)) (fun v h K=>Px hd v) (fun l h=>by simp only [zw,v8,List.map_cons,List.map_nil,hd]) K)
 ·rename_i hd
  exact .inr (jI (f:=fun h v=>(UR (E.T t).d v).map fun v=>(v,h)) (fun v h K=>BL hd v) (fun l h=>by simp only [zw,v8,List.map_cons,List.map_nil,hd]) K)
 ·exact .inl rfl
noncomputable def pE (E:KE) (t tx:TypeId) (s x:Operand) (K:QOp→S) (F:S):S:=match(E.T t).d with
 | .slice e sz bytes=>zb ((E.T e).zok&&Nat.beq (E.T e).zero.cells.length sz&&Nat.blt 0 bytes) (nfc sz fun sz=>nfc bytes fun bytes=>match(E.T tx).d with
  | .slice _ sz1 _=>zb (Nat.beq sz1 sz) (cO E.ng s fun s=>cO E.ng x fun x=>K (.f2 (pJ sz bytes (QY sz)) s x)) F
  | .str=>zb (Nat.beq sz 1) (cO E.ng s fun s=>cO E.ng x fun x=>K (.f2 (pJ sz bytes J9) s x)) F
  |_=>F) F
 |_=>F
theorem Ju (t tx:TypeId) (s x:Operand) (K:QOp→S) (F:S):pE E t tx s x K F=F∨∃q:QOp,q.okE E (.call ⟨.builtin .append, #[s,x], #[t,tx]⟩)∧pE E t tx s x K F=K q:=by
 unfold pE
 split
 ·rename_i e sz bytes hd
  simp only [za,zi,Bool.and_eq_true,Nat.beq_eq,zI,decide_eq_true_eq]
  by_cases hc:((E.T e).zok=true∧(E.T e).zero.cells.length=sz)∧0<bytes
  ·rw [if_pos hc]
   split
   ·rename_i e1 sz1 b1 hd1
    by_cases h1:sz1=sz
    ·rw [if_pos h1]
     subst h1
     exact .inr (vA (f:=fun h s x=>jz h E.T (E.T t).d (E.T tx).d s x) (fun v u h K=>Zu hd (W6 hd1) hc.1.1 hc.1.2 hc.2 v u) (fun l h=>rfl) K)
    ·rw [if_neg h1]; exact .inl rfl
   ·rename_i hd1
    by_cases h1:sz=1
    ·rw [if_pos h1]
     subst h1
     exact .inr (vA (f:=fun h s x=>jz h E.T (E.T t).d (E.T tx).d s x) (fun v u h K=>Zu hd (Vr hd1) hc.1.1 hc.1.2 hc.2 v u) (fun l h=>rfl) K)
    ·rw [if_neg h1]; exact .inl rfl
   ·exact .inl rfl
  ·rw [if_neg hc]; exact .inl rfl
 ·exact .inl rfl
noncomputable def Z1 (E:KE) (o:Op) (K:QOp→S) (F:S):S:=zb (k8 E.T o) (K (.old fun l h=>zw E l h o)) F
theorem kp (o:Op) (K:QOp→S) (F:S):Z1 E o K F=F∨∃q:QOp,q.okE E o∧Z1 E o K F=K q:=by
 unfold Z1
 rw [za]
 split
 ·rename_i hp
  exact .inr ⟨.old fun l h=>zw E l h o,fun e l h K=>cq fun v h' e=>bi hp e,rfl⟩
 ·exact .inl rfl
noncomputable def cOp (E:KE) (o:Op) (K:QOp→S) (F:S):S:=match o with
 | .move x=>cO E.ng x fun x=>K (.f1 J3 x)
 | .assign x=>cO E.ng x fun x=>K (.f1 J3 x)
 | .pick c a b=>cO E.ng c fun c=>cO E.ng a fun a=>cO E.ng b fun b=>K (.f3 Ga c a b)
 | .alloc e=>zb ((E.T e).zok&&KV.isCells (E.Z e).cells) (KV.fcs (E.Z e).cells fun cs=>K (.f0 (Wj cs))) F
 | .box _ x=>cO E.ng x fun x=>K (.f1 lB x)
 | .build t ps=>Wo E t ps.toList K F
 | .buildSlice t len ps=>pG E t len ps.toList K F
 | .load t a=>Qs E t a K F
 | .store t a x=>zb (E.T t).ok (nfc (E.T t).sz fun n=>cO E.ng a fun a=>cO E.ng x fun x=>K (.f2 (Df n) a x)) F
 | .fieldAddr s x f=>jN E s x f K F
 | .field s x f=>WL E s x f K F
 | .indexAddr t x i=>jD E t x i K F
 | .index t x i=>match(E.T t).d,E.A t with
  | .str,_=>cO E.ng x fun x=>cO E.ng i fun i=>K (.f2 Du x i)
  | .arr n _,some e=>zb ((E.T e).ok && !(wH (E.T e).d)) (nfc n fun n=>nfc (E.T e).sz fun sz=>cO E.ng x fun x=>cO E.ng i fun i=>K (.f2 (fun x i h K=>zb (E.T e).d.agg (fT n sz x i h K) (fB n sz x i h K)) x i)) F
  |_,_=>Z1 E (.index t x i) K F
 | .binOp op t x y yt=>PH E op t x y K (Z1 E (.binOp op t x y yt) K F)
 | .unOp op t x=>match op with| .not=>cO E.ng x fun x=>K (.f1 sm x)|op=>Z1 E (.unOp op t x) K F
 | .convert s d x=>match(E.T d).d,(E.T s).d with
  | .int k,_=>zb (E.T s).ok (cO E.ng x fun x=>K (.f1 (nz k) x)) F
  | .slice e 1 _, .str=>zb (E.T s).ok (match(E.T e).d with| .int .u8=>cO E.ng x fun x=>K (.f1 Pc x)|_=>F) F
  | .str, .slice e _ _=>zb (E.T s).ok (match(E.T e).d with| .int .u8=>cO E.ng x fun x=>K (.f1 Dg x)|_=>F) F
  |_,_=>Z1 E (.convert s d x) K F
 | .makeMap t r=>match r,(E.T t).d with
  |none,_=>K (.f0 Qe)
  |some x, .map _ _=>cO E.ng x fun x=>K (.f1 V8 x)
  |_,_=>F
 | .makeSlice t n c=>match(E.T t).d with
  | .slice e sz bytes=>zb ((E.T e).zok&&Nat.beq (E.Z e).cells.length sz) (nfc sz fun sz=>nfc bytes fun bytes=>KV.fcs (E.Z e).cells fun z=>cO E.ng n fun n=>cO E.ng c fun c=>K (.f2 (ff sz bytes z) n c)) F
  |_=>F
 | .mapUpdate t m k x=>cO E.ng m fun m=>cO E.ng k fun k=>cO E.ng x fun x=>K (.f3 (fun m k x h K=>gB (uy h E.T (E.T t).d m k x) h K) m k x)
 | .insert t m k x=>cO E.ng m fun m=>cO E.ng k fun k=>cO E.ng x fun x=>K (.f3 (fun m k x h K=>gB (uy h E.T (E.T t).d m k x) h K) m k x)
 | .mapEntry t m k=>cO E.ng m fun m=>cO E.ng k fun k=>K (.f2 (fun m k h K=>gB (bD h E.T E.Z (E.T t).d m k) h K) m k)
 | .entryStore t m s x=>cO E.ng m fun m=>cO E.ng s fun s=>cO E.ng x fun x=>K (.f3 (fun m s x h K=>gB (jS h m s x) h K) m s x)
 | .range t x=>cO E.ng x fun x=>K (.f1 (D3 (E.T t).d) x)
 | .next it s=>cO E.ng it fun it=>K (.f1 (Pt s) it)
 | .extract x i=>nfc i fun i=>cO E.ng x fun x=>K (.f1 (mD i) x)
 | .call ⟨.builtin .len,⟨[x]⟩,⟨[t]⟩⟩=>cA E t x K (Z1 E (.call ⟨.builtin .len, #[x], #[t]⟩) K F)
 | .call ⟨.builtin .append,⟨[s,x]⟩,⟨[t,tx]⟩⟩=>pE E t tx s x K F
 | .call ⟨.builtin .copy,⟨[s,x]⟩,⟨[t,tx]⟩⟩=>match(E.T t).d,(E.T tx).d with
  | .slice _ sz _, .slice _ sz1 _=>zb (Nat.beq sz1 sz) (nfc sz fun sz=>cO E.ng s fun s=>cO E.ng x fun x=>K (.f2 (Ki sz (QY sz)) s x)) F
  | .slice _ 1 _, .str=>cO E.ng s fun s=>cO E.ng x fun x=>K (.f2 (Ki 1 J9) s x)
  |_,_=>F
 | .call ⟨.builtin .clear,⟨[x]⟩,⟨[t]⟩⟩=>match(E.T t).d with
  | .map _ _=>cO E.ng x fun x=>K (.f1 (fun m h K=>Option.rec (motive:=fun _=>QR) none (fun _=>gB (kM h m) h K) (kM h m)) x)
  |_=>F
 |o=>Z1 E o K F
theorem Wc (o:Op) (K:QOp→S) (F:S):cOp E o K F=F∨∃q:QOp,q.okE E o∧cOp E o K F=K q:=by
 unfold cOp
 split
 ·exact .inr (jI (f:=fun h v=>some (v,h)) (fun v h K=>VS v) (fun l h=>rfl) K)
 ·exact .inr (jI (f:=fun h v=>some (v,h)) (fun v h K=>VS v) (fun l h=>rfl) K)
 ·exact .inr (PV (f:=fun h c a b=>JJ h c a b) (fun v u w h K=>BK v u w) (fun l h=>rfl) K)
 ·rename_i e
  simp only [za,KV.fcs_eq,Bool.and_eq_true]
  split
  ·rename_i hc
   exact .inr ⟨.f0 (Wj (E.Z e).cells),fun en l h K=>KZ hc.1 rfl hc.2,rfl⟩
  ·exact .inl rfl
 ·exact .inr (jI (f:=fun h x=>if KV.isCells x.cells=true∧yw h=true then some (.ptr h.next 0,h.push (.cells false x.cells))else none) (fun v h K=>cV v) (fun l h=>rfl) K)
 ·exact Kr _ _ _ _
 ·exact Jl _ _ _ _ _
 ·exact GS _ _ _ _
 ·rename_i t a x
  simp only [za,zi]
  split
  ·rename_i hc
   exact .inr (vA (f:=fun h p v=>(dN h p v (E.T t).sz).map fun h=>(.tuple [],h)) (fun v u h K=>K7 _ v u) (fun l h=>by simp only [zw,if_pos hc]) K)
  ·exact .inl rfl
 ·exact Ys _ _ _ _ _
 ·exact Kt _ _ _ _ _
 ·exact Yy _ _ _ _ _
 ·rename_i t x i
  split
  ·rename_i hd
   exact .inr (vA (f:=fun h x i=>bB E t h x i) (fun v u h K=>Ku hd v u) (fun l h=>rfl) K)
  ·rename_i n sz e hd ha
   simp only [za (b:=_&&_),zi,Bool.and_eq_true,Bool.not_eq_true']
   split
   ·rename_i hc
    exact .inr (vA (f:=fun h x i=>bB E t h x i) (fun v u h K=>eg hd ha ⟨hc.1,vY _ hc.2⟩ v u) (fun l h=>rfl) K)
   ·exact .inl rfl
  ·exact kp _ _ _
 ·rename_i op t x y yt
  rcases P6 (E:=E) op t x y yt K (Z1 E (.binOp op t x y yt) K F)with h|h
  ·rw [h]; exact kp _ _ _
  ·exact .inr h
 ·split
  ·exact .inr (jI (f:=fun h v=>(kun .not v).map fun v=>(v,h)) (fun v h K=>cf v) (fun l h=>rfl) K)
  ·exact kp _ _ _
 ·rename_i s d x
  split
  ·rename_i k hd
   rw [za]
   split
   ·rename_i hs
    exact .inr (jI (f:=fun h v=>vK h E.T s d v) (fun v h K=>ct hs hd v) (fun l h=>rfl) K)
   ·exact .inl rfl
  ·rename_i e b hd hss
   rw [za]
   split
   ·rename_i hs
    split
    ·rename_i he
     exact .inr (jI (f:=fun h v=>vK h E.T s d v) (fun v h K=>DS hs hss hd he v) (fun l h=>rfl) K)
    ·exact .inl rfl
   ·exact .inl rfl
  ·rename_i e sz b hd hss
   rw [za]
   split
   ·rename_i hs
    split
    ·rename_i he
     exact .inr (jI (f:=fun h v=>vK h E.T s d v) (fun v h K=>DM hs hss hd he v) (fun l h=>rfl) K)
    ·exact .inl rfl
   ·exact .inl rfl
  ·exact kp _ _ _
 ·rename_i t r
  split
  ·refine .inr ⟨.f0 Qe,fun en l h K=> ?_,rfl⟩
   intro r q
   have q:yO h (.map [] 0) (fun i h=>K (.map i) h)=some r:=q
   rw [yH]at q
   split at q
   ·rename_i hr; exact⟨_,_,by simp only [zw,hr,if_true],q⟩
   ·cases q
  ·rename_i x kt et hd
   refine .inr (jI (f:=fun h v=>if yw h=true then(match v with| .int _ _=>some (.map h.next,h.push (.map [] 0))|_=>none)else none) ?_ (fun l h=>by simp only [zw,hd]; split<;>first|(split<;>simp_all)|rfl) K)
   intro v h K r q
   cases v<;>first|(cases q; done)|skip
   simp only [V8,KV.onInt,yH]at q
   split at q
   ·rename_i hr; exact⟨_,_,by simp only [hr,if_true],q⟩
   ·cases q
  ·exact .inl rfl
 ·rename_i t n c
  split
  ·rename_i e sz bytes hd
   simp only [za,zi,KV.fcs_eq,Bool.and_eq_true,Nat.beq_eq]
   split
   ·rename_i hc
    exact .inr (vA (f:=fun h l c=>ZZ h E.T E.Z (E.T t).d l c) (fun v u h K=>Gz hd hc.1 hc.2 rfl v u) (fun l h=>rfl) K)
   ·exact .inl rfl
  ·exact .inl rfl
 ·rename_i t m k x
  exact .inr (PV (f:=fun h m k x=>(wr h E.T (E.T t).d m k x).map fun h=>(.tuple [],h)) (fun v u w h K=>jc (qZ _ _ _ _ _)) (fun l h=>rfl) K)
 ·rename_i t m k x
  exact .inr (PV (f:=fun h m k x=>(wr h E.T (E.T t).d m k x).map fun h=>(.tuple [],h)) (fun v u w h K=>jc (qZ _ _ _ _ _)) (fun l h=>rfl) K)
 ·rename_i t m k
  exact .inr (vA (f:=fun h m k=>vU h E.T E.Z (E.T t).d m k) (fun v u h K=>jc (Yw _ _ _ _ _)) (fun l h=>rfl) K)
 ·rename_i t m s x
  exact .inr (PV (f:=fun h m s x=>(wA h m s x).map fun h=>(.tuple [],h)) (fun v u w h K=>jc (pz _ _ _)) (fun l h=>rfl) K)
 ·rename_i t x
  exact .inr (jI (f:=fun h x=>pk h (E.T t).d x) (fun v h K=>DY _ v) (fun l h=>rfl) K)
 ·rename_i it s
  exact .inr (jI (f:=fun h x=>qx h x s) (fun v h K=>DJ s v) (fun l h=>rfl) K)
 ·rw [zi]
  exact .inr (jI (f:=fun h v=>(js v _).map fun v=>(v,h)) (fun v h K=>eo _ v) (fun l h=>rfl) K)
 ·rename_i x t
  rcases c9 (E:=E) t x K (Z1 E (.call ⟨.builtin .len, #[x], #[t]⟩) K F)with h|h
  ·rw [h]; exact kp _ _ _
  ·exact .inr h
 ·exact Ju _ _ _ _ _ _
 ·rename_i s x t tx
  split
  ·rename_i e1 sz b1 e2 sz1 b2 hd hdx
   simp only [za,zi,Nat.beq_eq]
   split
   ·rename_i hs
    subst hs
    exact .inr (vA (f:=fun h x y=>ZP h (E.T t).d (E.T tx).d x y) (fun v u h K=>V7 hd (W6 hdx) v u) (fun l h=>rfl) K)
   ·exact .inl rfl
  ·rename_i hd hdx
   exact .inr (vA (f:=fun h x y=>ZP h (E.T t).d (E.T tx).d x y) (fun v u h K=>V7 hd (Vr hdx) v u) (fun l h=>rfl) K)
  ·exact .inl rfl
 ·rename_i x t
  split
  ·rename_i kt et hd
   refine .inr (jI (f:=fun h m=>(gZ h m).map fun h=>(.tuple [],h)) ?_ (fun l h=>by simp only [zw,v8,List.map_cons,List.map_nil,hd]) K)
   intro v h K r q
   cases hk:kM h v with
   |none=>rw [hk]at q; cases q
   | some p=>
    rw [hk]at q
    exact Jm v r (by rw [hk]; exact q)
  ·exact .inl rfl
 ·exact kp _ _ _
end
end Go.K
end
