/- Closed runs: a part. No condition beyond each statement's own. -/
import Derived.Test.YtkabooclnoiclaaGreatDoorK11
set_option linter.all false
section
namespace Go.K
open Go.Abs
section
variable {h:KH} {K:QK}
noncomputable def jc (h:KH) (id off m:Nat) (K:List KV→QR):QR:=xX h id fun o=>o.onCells fun _ cs=>ZE cs off fun l=>gf l m fun l=>de l m (K l)
theorem kw {id off m:Nat} {K:List KV→QR} {r:KV×KH} (e:jc h id off m K=some r):∃l,u7 h id off m=some l∧K l=some r:=by
 unfold jc at e
 rw [xo]at e
 unfold u7
 cases hg:h.get id with
 |none=>rw [hg]at e; cases e
 | some o=>
  rw [hg]at e
  cases o<;>first|(cases e; done)|skip
  rename_i ro cs
  simp only [Option.elim_some,KO.onCells,qV,kg,d8]at e
  split at e
  ·rename_i h1
   split at e
   ·rename_i h2
    exact⟨_,by simp only; rw [if_pos ⟨h1,h2.2⟩],e⟩
   ·cases e
  ·cases e
noncomputable def ZL (s n i:Nat) (K:List KV→QR):QR:=Nat.rec (motive:=fun _=>Nat→(List KV→QR)→QR) (fun i K=>K []) (fun _ ih i K=>nfc (jq s i) fun b=>nfc (Nat.succ i) fun i=>ih i fun l=>K (.int .u8 (.ofNat b)::l)) n i K
theorem dO (s:Nat):∀(n i:Nat) (K:List KV→QR),ZL s n i K=K (vR s n i)
 |0,i,K=>rfl
 | n+1,i,K=>by
  refine(zi (jq s i) fun b=>nfc (Nat.succ i) fun i=>ZL s n i fun l=>K (.int .u8 (.ofNat b)::l)).trans ?_
  refine(zi (Nat.succ i) fun j=>ZL s n j fun l=>K (.int .u8 (.ofNat (jq s i))::l)).trans ?_
  exact dO s n (i+1) _
noncomputable def KT (sz:Nat) (x:KV) (h:KH) (K:Nat→List KV→QR):QR:=x.onSl (fun id off len _ s=>zb (Nat.beq sz s) (nfc (Nat.mul len sz) fun m=>jc h id off m (K len)) none) (K 0 []) (K 0 []) none
noncomputable def Q2 (x:KV) (h:KH) (K:Nat→List KV→QR):QR:=x.onStr (fun n s=>ZL s n 0 (K n)) none
def lX (f:KV→KH→(Nat→List KV→QR)→QR) (d:TD) (sz:Nat):Prop:=∀(x:KV) (h:KH) (K:Nat→List KV→QR) (r:KV×KH),f x h K=some r→∃n l,Gj h d sz x=some (n,l)∧K n l=some r
theorem VB {d:TD} {e sz by_:Nat} (hd:d= .slice e sz by_):lX (KT sz) d sz:=by
 subst hd
 intro x h K r q
 cases x<;>first|(cases q; done)|skip
 ·rename_i id off len c s
  simp only [KT,KV.onSl,za,zi,Nat.beq_eq]at q
  split at q
  ·rename_i hs
   obtain⟨l,e1,e2⟩:=kw q
   refine⟨len,l, ?_,e2⟩
   have e1:u7 h id off (len*sz)=some l:=e1
   simp only [Gj]
   rw [if_pos ⟨hs,trivial⟩,e1]
  ·cases q
 ·exact⟨0,[],rfl,q⟩
 ·exact⟨0,[],rfl,q⟩
theorem V0 {d:TD} (hd:d= .str):lX Q2 d 1:=by
 subst hd
 intro x h K r q
 cases x<;>first|(cases q; done)|skip
 rename_i n s
 simp only [Q2,KV.onStr,dO]at q
 exact⟨n,_,rfl,q⟩
noncomputable def DL (s:KV) (h:KH) (K:QK):QR:=s.onSl (fun _ _ _ _ _=>s.hd fun s=>K s h) (K .slz h) (K .nilsl h) none
noncomputable def Dm (h:KH) (id off len n c sz:Nat) (new:List KV) (K:QK):QR:=xX h id fun o=>o.onCells fun ro cs=>zb ro none (lQ new fun m=>X9 cs (Nat.add off (Nat.mul len sz)) m new fun cs=>qh h id (.cells false cs) fun h=>nfc (Nat.add len n) fun k=>K (.sl id off k (some c) sz) h)
noncomputable def U9 (h:KH) (len n sz:Nat) (old new:List KV) (K:QK):QR:=dG old new fun all=>yQ h (.cells false all) fun i h=>nfc (Nat.add len n) fun k=>K (.sl i 0 k none sz) h
noncomputable def Pf (h:KH) (id len n sz:Nat) (old new:List KV) (K:QK):QR:=xX h id fun o=>o.onCells fun ro _=>zb ro none (QD h id fun h=>U9 h len n sz old new K)
noncomputable def p9 (sz bytes:Nat) (src:KV→KH→(Nat→List KV→QR)→QR) (s x:KV) (h:KH) (K:QK):QR:=
 zb (yw h) (src x h fun n new=>zb (Nat.beq n 0) (DL s h K) (s.onSl (fun id off len c sz'=>zb (Nat.beq sz' sz&&Nat.ble ((len+n)*bytes) 140737488355328)
  (jc h id off (Nat.mul len sz) fun old=>Option.rec (motive:=fun _=>QR) (Pf h id len n sz old new K) (fun c=>zb (Nat.ble (Nat.add len n) c) (Dm h id off len n c sz new K) (U9 h len n sz old new K)) c) none)
  none (zb (Nat.ble (n*bytes) 140737488355328) (yQ h (.cells false new) fun i h=>K (.sl i 0 n none sz) h) none) none)) none
theorem VM {len n sz:Nat} {old new:List KV} {r:KV×KH} (e:U9 h len n sz old new K=some r):yw h=true∧K (.sl h.next 0 (len+n) none sz) (h.push (.cells false (old++new)))=some r:=by
 unfold U9 at e
 rw [j3,yI]at e
 split at e
 ·rename_i hr; rw [zi]at e; exact⟨hr,e⟩
 ·cases e
def Dz (h:KH) (sz bytes n:Nat) (new:List KV) (s:KV):Option (KV×KH):=
   if n=0 then(match s with| .sl .. | .nilsl| .slz=>some (s,h)|_=>none)else
   match s with
   | .nilsl=>if n*bytes≤140737488355328 then some (.sl h.next 0 n none sz,h.push (.cells false new))else none
   | .sl id off len c sz'=>
    if sz'=sz∧(len+n)*bytes≤140737488355328 then
     match u7 h id off (len*sz)with
     |none=>none
     | some old=>
      match c with
      | some c=>
       if len+n≤c then(match h.get id with
        |some (.cells false cs)=>if off+len*sz+new.length≤cs.length then some (.sl id off (len+n) (some c) sz,h.set id (some (.cells false (cs.take (off+len*sz)++new++cs.drop (off+len*sz+new.length)))))else none
        |_=>none)
       else some (.sl h.next 0 (len+n) none sz,h.push (.cells false (old++new)))
      | none=>match h.get id with
       |some (.cells false cs)=>some (.sl h.next 0 (len+n) none sz,(h.set id none).push (.cells false (old++new)))
       |_=>none
    else none
   |_=>none
theorem Da {sz bytes n:Nat} {new:List KV} {s:KV} {r:KV×KH}
  (e:zb (Nat.beq n 0) (DL s h K) (s.onSl (fun id off len c sz'=>zb (Nat.beq sz' sz&&Nat.ble ((len+n)*bytes) 140737488355328)
  (jc h id off (Nat.mul len sz) fun old=>Option.rec (motive:=fun _=>QR) (Pf h id len n sz old new K) (fun c=>zb (Nat.ble (Nat.add len n) c) (Dm h id off len n c sz new K) (U9 h len n sz old new K)) c) none)
  none (zb (Nat.ble (n*bytes) 140737488355328) (yQ h (.cells false new) fun i h=>K (.sl i 0 n none sz) h) none) none)=some r):∃v h',Dz h sz bytes n new s=some (v,h')∧K v h'=some r:=by
 rw [za]at e
 by_cases hn:n=0
 ·rw [if_pos (by rw [Nat.beq_eq]; exact hn)]at e
  unfold Dz
  rw [if_pos hn]
  cases s<;>first|(cases e; done)|skip
  ·exact⟨_,_,rfl,by simpa [DL,KV.onSl,KV.hd] using e⟩
  ·exact⟨_,_,rfl,e⟩
  ·exact⟨_,_,rfl,e⟩
 ·rw [if_neg (by rw [Nat.beq_eq]; exact hn)]at e
  unfold Dz
  rw [if_neg hn]
  cases s<;>first|(cases e; done)|skip
  ·rename_i id off len c sz'
   simp only [KV.onSl,za,iF,Nat.beq_eq,Nat.ble_eq]at e
   by_cases hc:sz'=sz∧(len+n)*bytes≤140737488355328
   ·rw [if_pos hc]at e
    simp only
    rw [if_pos hc]
    obtain⟨old,e1,e⟩:=kw e
    have e1:u7 h id off (len*sz)=some old:=e1
    rw [e1]
    cases c with
    | none=>
     simp only [Pf,xo]at e
     cases hg:h.get id with
     |none=>rw [hg]at e; cases e
     | some o=>
      rw [hg]at e
      cases o<;>first|(cases e; done)|skip
      rename_i ro cs
      cases ro with
      |true=>cases e
      | false=>
       simp only [Option.elim_some,KO.onCells,za,Bool.false_eq_true,if_false,Bs]at e
       obtain⟨_,e⟩:=VM e
       exact⟨_,_,rfl,e⟩
    | some c=>
     simp only [Nat.ble_eq]at e
     have hle:Nat.add len n=len+n:=rfl
     rw [hle]at e
     simp only
     by_cases h2:len+n≤c
     ·rw [if_pos h2]at e ⊢
      simp only [Dm,xo]at e
      cases hg:h.get id with
      |none=>rw [hg]at e; cases e
      | some o=>
       rw [hg]at e
       cases o<;>first|(cases e; done)|skip
       rename_i ro cs
       cases ro with
       |true=>cases e
       | false=>
        simp only [Option.elim_some,KO.onCells,za,Bool.false_eq_true,if_false,WX,pY,uo,zi]at e
        have ha:Nat.add off (Nat.mul len sz)=off+len*sz:=rfl
        rw [ha]at e
        split at e
        ·rename_i h3
         simp only
         rw [if_pos h3]
         exact⟨_,_,rfl,e⟩
        ·cases e
     ·rw [if_neg h2]at e ⊢
      obtain⟨_,e⟩:=VM e
      exact⟨_,_,rfl,e⟩
   ·rw [if_neg hc]at e; cases e
  ·simp only [KV.onSl,za,Nat.ble_eq,yI]at e
   simp only
   split at e
   ·rename_i h1
    split at e
    ·rw [if_pos h1]; exact⟨_,_,rfl,e⟩
    ·cases e
   ·cases e
theorem ZN {T:TypeId→TI} {d dx:TD} {el sz bytes:Nat} {src:KV→KH→(Nat→List KV→QR)→QR} (hd:d= .slice el sz bytes) (hs:lX src dx sz) (hz:(T el).zok=true) (hl:(T el).zero.cells.length=sz) (hb:0<bytes) (s x:KV):
  QOk (p9 sz bytes src s x h K) (jM h T d dx s x) K:=by
 subst hd
 intro r e
 unfold p9 at e
 rw [za]at e
 split at e
 ·rename_i hr
  obtain⟨n,new,e1,e⟩:=hs _ _ _ _ e
  obtain⟨v,h',e2,e3⟩:=Da e
  refine⟨v,h', ?_,e3⟩
  simp only [jM,hz,hl,hb,hr,and_self,if_true,e1]
  exact e2
 ·cases e
end
theorem QOk.mono {e:QR} {s s':Option (KV×KH)} {K:QK} (k:QOk e s K) (h:∀p,s=some p→s'=some p):QOk e s' K:=fun r q=>by
 obtain⟨v,hh,e1,e2⟩:=k r q
 exact⟨v,hh,h _ e1,e2⟩
section
variable {h:KH} {K:QK} {E:KE}
def bP (E:KE) (t:TypeId) (h:KH) (x i:KV):Option (KV×KH):=match i with| .int _ i=>(XH E t x i).map fun v=>(v,h)|_=>none
theorem Bq {t:TypeId} (hd:(E.T t).d= .str) (x i:KV):QOk (PI x i h K) (bP E t h x i) K:=by
 refine(P2 hd x i).mono ?_
 intro p e
 cases i<;>first|(cases e; done)|skip
 rename_i k i
 simp only [WP]at e
 simp only [bP,XH]
 cases hk:bG (E.T t).d x i with
 |none=>rw [hk]at e; cases e
 |some v=>rw [hk]at e; exact e
noncomputable def mI (n sz:Nat) (x i:KV) (h:KH) (K:QK):QR:=i.onInt (fun _ i=>kq i fun i=>x.onAgg (fun cs=>zb (Nat.blt i n) (Gp cs (Nat.mul i sz) fun v=>v.hd fun v=>K v h) none) none) none
noncomputable def nc (n sz:Nat) (x i:KV) (h:KH) (K:QK):QR:=i.onInt (fun _ i=>kq i fun i=>x.onAgg (fun cs=>zb (Nat.blt i n) (ZE cs (Nat.mul i sz) fun l=>gf l sz fun l=>K (.agg l) h) none) none) none
theorem lO {t e:TypeId} {n sz:Nat} (hd:(E.T t).d= .arr n sz) (ha:E.A t=some e) (ho:(E.T e).ok=true∧(E.T e).d≠ .other) (x i:KV):
  QOk (zb (E.T e).d.agg (nc n (E.T e).sz x i h K) (mI n (E.T e).sz x i h K)) (bP E t h x i) K:=by
 have none1:∀x i,bG (.arr n sz) x i=none:=fun x i=>by cases x<;>rfl
 rw [za]
 split
 ·rename_i hagg
  cases i<;>try exact .none _ _
  rename_i k i
  show QOk (kq i _) _ _
  rw [uO]
  by_cases hi:0≤i
  ·rw [if_pos hi]
   cases x<;>try exact .none _ _
   rename_i cs
   simp only [KV.onAgg,za,qV,kg,zL,decide_eq_true_eq,bP,XH,hd,none1,gV,ha]
   by_cases hl:i.toNat<n
   ·have hcond:0≤i∧i<(n:Int)∧(E.T e).ok=true∧(E.T e).d≠ .other:=⟨hi,by omega,ho.1,ho.2⟩
    rw [if_pos hl]
    simp only [if_pos hcond,krd,hagg,if_true]
    have:Nat.mul i.toNat (E.T e).sz=i.toNat*(E.T e).sz:=rfl
    rw [this]
    split
    ·exact .one rfl
    ·exact .none _ _
   ·rw [if_neg hl]; exact .none _ _
  ·rw [if_neg hi]; exact .none _ _
 ·rename_i hagg
  rw [Bool.not_eq_true]at hagg
  cases i<;>try exact .none _ _
  rename_i k i
  show QOk (kq i _) _ _
  rw [uO]
  by_cases hi:0≤i
  ·rw [if_pos hi]
   cases x<;>try exact .none _ _
   rename_i cs
   simp only [KV.onAgg,za,Ze,zL,decide_eq_true_eq,bP,XH,hd,none1,gV,ha]
   by_cases hl:i.toNat<n
   ·have hcond:0≤i∧i<(n:Int)∧(E.T e).ok=true∧(E.T e).d≠ .other:=⟨hi,by omega,ho.1,ho.2⟩
    rw [if_pos hl]
    simp only [if_pos hcond,krd,hagg,if_false,Bool.false_eq_true]
    have:Nat.mul i.toNat (E.T e).sz=i.toNat*(E.T e).sz:=rfl
    rw [this]
    cases cs[i.toNat*(E.T e).sz]? with
    |none=>exact .none _ _
    |some v=>simp only [Option.elim_some,KV.hd_eq]; exact .one rfl
   ·rw [if_neg hl]; exact .none _ _
  ·rw [if_neg hi]; exact .none _ _
noncomputable def cN (x:KV) (h:KH) (K:QK):QR:=x.onStr (fun n b=>ZL b n 0 fun l=>yQ h (.cells false l) fun i h=>K (.sl i 0 n none 1) h) none
theorem ce {T:TypeId→TI} {s d:TypeId} {e by_:Nat} (hs:(T s).ok=true) (hss:(T s).d= .str) (hd:(T d).d= .slice e 1 by_) (he:(T e).d= .int .u8) (x:KV):QOk (cN x h K) (vV h T s d x) K:=by
 cases x<;>try exact .none _ _
 rename_i n b
 simp only [cN,KV.onStr,dO,yI]
 split
 ·rename_i hr
  refine .one ?_
  simp only [vV,hs,if_true,hd]
  rw [if_pos ⟨he,hss,hr⟩]
 ·exact .none _ _
noncomputable def J0 (l:List KV) (K:Nat→QR):QR:=List.rec (motive:=fun _=>(Nat→QR)→QR) (fun K=>K 0) (fun v _ ih K=>v.onInt (fun k n=>IntKind.rec (motive:=fun _=>QR→QR) (fun _=>none) (fun _=>none) (fun _=>none) (fun _=>none) (fun q=>q) (fun _=>none) (fun _=>none) (fun _=>none) k
 (kq n fun n=>zb (Nat.blt n 256) (ih fun s=>nfc (Nat.add n (Nat.mul 256 s)) K) none)) none) l K
theorem Xc:∀(l:List KV) (K:Nat→QR) (r:KV×KH),J0 l K=some r→∃b,bH l=some b∧K b=some r
 | [],K,r,q=>⟨0,rfl,q⟩
 | v ::l,K,r,q=>by
  cases v<;>first|(cases q; done)|skip
  rename_i k n
  cases k<;>first|(cases q; done)|skip
  have q:(kq n fun n=>zb (Nat.blt n 256) (J0 l fun s=>nfc (Nat.add n (Nat.mul 256 s)) K) none)=some r:=q
  rw [uO]at q
  split at q
  ·rename_i hn
   rw [za]at q
   split at q
   ·rename_i hb
    obtain⟨b,e1,e2⟩:=Xc l _ r q
    rw [zi]at e2
    refine⟨_, ?_,e2⟩
    simp only [bH,e1,hb,cond_true]
   ·cases q
  ·cases q
noncomputable def Pr (x:KV) (h:KH) (K:QK):QR:=x.onSl (fun id off len c s=>zb (Nat.beq s 1) (jc h id off len fun l=>J0 l fun b=>K (.str len b) h) none) (K (.str 0 0) h) (K (.str 0 0) h) none
theorem P4 {T:TypeId→TI} {s d:TypeId} {e sz by_:Nat} (hs:(T s).ok=true) (hss:(T s).d= .slice e sz by_) (hd:(T d).d= .str) (he:(T e).d= .int .u8) (x:KV):QOk (Pr x h K) (vV h T s d x) K:=by
 intro r q
 cases x<;>first|(cases q; done)|skip
 ·rename_i id off len c sz'
  simp only [Pr,KV.onSl,za,Nat.beq_eq]at q
  split at q
  ·rename_i h1
   subst h1
   obtain⟨l,e1,q⟩:=kw q
   obtain⟨b,e2,q⟩:=Xc _ _ _ q
   refine⟨_,_, ?_,q⟩
   simp only [vV,hs,if_true,hss,hd,he,e1,e2]
  ·cases q
 ·exact⟨_,_,by simp only [vV,hs,if_true,hss,hd,he],q⟩
 ·exact⟨_,_,by simp only [vV,hs,if_true,hss,hd,he],q⟩
noncomputable def cP (h:KH) (id off n:Nat) (new:List KV) (K:QK):QR:=xX h id fun o=>o.onCells fun ro cs=>zb ro none (lQ new fun m=>X9 cs off m new fun cs=>qh h id (.cells false cs) fun h=>K (.int .i64 (.ofNat n)) h)
noncomputable def Be (sz:Nat) (src:KV→KH→(Nat→List KV→QR)→QR) (x y:KV) (h:KH) (K:QK):QR:=
 x.onSl (fun id off len c sz'=>zb (Nat.beq sz sz') (src y h fun n new=>zb (Nat.ble n len) (cP h id off n new K) none) none) none none none
theorem UI {d dx:TD} {el sz bytes:Nat} {src:KV→KH→(Nat→List KV→QR)→QR} (hd:d= .slice el sz bytes) (hs:lX src dx sz) (x y:KV):QOk (Be sz src x y h K) (Z7 h d dx x y) K:=by
 subst hd
 intro r q
 cases x<;>first|(cases q; done)|skip
 rename_i id off len c sz'
 simp only [Be,KV.onSl,za,Nat.beq_eq]at q
 split at q
 ·rename_i h1
  obtain⟨n,new,e1,q⟩:=hs _ _ _ _ q
  simp only [Nat.ble_eq]at q
  split at q
  ·rename_i h2
   simp only [cP,xo]at q
   cases hg:h.get id with
   |none=>rw [hg]at q; cases q
   | some o=>
    rw [hg]at q
    cases o<;>first|(cases q; done)|skip
    rename_i ro cs
    cases ro with
    |true=>cases q
    | false=>
     simp only [Option.elim_some,KO.onCells,za,Bool.false_eq_true,if_false,WX,pY,uo]at q
     split at q
     ·rename_i h3
      refine⟨_,_, ?_,q⟩
      simp only [Z7]
      rw [if_pos h1,e1]
      simp only
      rw [if_pos h2,hg]
      simp only
      rw [if_pos h3]
      rfl
     ·cases q
  ·cases q
 ·cases q
noncomputable def mfc (l:List (KV×KV×Nat)) (K:List (KV×KV×Nat)→QR):QR:=List.rec (motive:=fun _=>(List (KV×KV×Nat)→QR)→QR) (fun K=>K []) (fun x _ ih K=>x.1.fc fun a=>x.2.1.fc fun b=>nfc x.2.2 fun c=>ih fun r=>K ((a,b,c)::r)) l K
theorem cV:∀(l:List (KV×KV×Nat)) (K:List (KV×KV×Nat)→QR),mfc l K=K l
 | [],K=>rfl
 | (a,b,c)::r,K=>by
  have e:mfc ((a,b,c)::r) K=a.fc fun a=>b.fc fun b=>nfc c fun c=>mfc r fun r=>K ((a,b,c)::r):=rfl
  rw [e]; simp only [KV.fc_eq,zi,cV r]
noncomputable def Gd (l:List Nat) (K:List Nat→QR):QR:=List.rec (motive:=fun _=>(List Nat→QR)→QR) (fun K=>K []) (fun x _ ih K=>nfc x fun a=>ih fun r=>K (a::r)) l K
theorem Q6:∀(l:List Nat) (K:List Nat→QR),Gd l K=K l
 | [],K=>rfl
 | a::r,K=>by
  have e:Gd (a::r) K=nfc a fun a=>Gd r fun r=>K (a::r):=rfl
  rw [e]; simp only [zi,Q6 r]
noncomputable def KO.fc (o:KO) (K:KO→QR):QR:=KO.rec (motive:=fun _=>(KO→QR)→QR) (fun ro cs K=>bfc ro fun ro=>KV.fcs cs fun cs=>K (.cells ro cs)) (fun es c K=>mfc es fun es=>nfc c fun c=>K (.map es c)) (fun n s p K=>nfc n fun n=>nfc s fun s=>nfc p fun p=>K (.sit n s p))
 (fun m s l x K=>YW m fun m=>nfc s fun s=>Gd l fun l=>nfc x fun x=>K (.mit m s l x)) (fun l K=>K (.loop l)) (fun c K=>K (.defd c)) o K
theorem KO.fc_eq (o:KO) (K:KO→QR):o.fc K=K o:=by
 cases o with
 |cells ro cs=>exact(Wq ro fun ro=>KV.fcs cs fun cs=>K (.cells ro cs)).trans (KV.fcs_eq cs fun cs=>K (.cells ro cs))
 |map es c=>exact(cV es fun es=>nfc c fun c=>K (.map es c)).trans (zi c fun c=>K (.map es c))
 |sit n s p=>exact(zi n fun n=>nfc s fun s=>nfc p fun p=>K (.sit n s p)).trans ((zi s fun s=>nfc p fun p=>K (.sit n s p)).trans (zi p fun p=>K (.sit n s p)))
 |mit m s l x=>exact(WH m fun m=>nfc s fun s=>Gd l fun l=>nfc x fun x=>K (.mit m s l x)).trans ((zi s fun s=>Gd l fun l=>nfc x fun x=>K (.mit m s l x)).trans ((Q6 l fun l=>nfc x fun x=>K (.mit m s l x)).trans (zi x fun x=>K (.mit m s l x))))
 |loop l=>rfl
 |defd c=>rfl
noncomputable def gL (s:Option (KV×Nat×KO)) (h:KH) (K:QK):QR:=Option.rec (motive:=fun _=>QR) none (fun p=>p.1.fc fun v=>nfc p.2.1 fun id=>p.2.2.fc fun o=>qh h id o fun h=>K v h) s
theorem jo {s:Option (KV×Nat×KO)} {t:Option (KV×KH)} (e:t=s.map fun p=>(p.1,h.set p.2.1 (some p.2.2))):QOk (gL s h K) t K:=by
 subst e
 cases s with
 |none=>exact .none _ _
 | some p=>
  obtain⟨v,id,o⟩:=p
  simp only [gL,KV.fc_eq,zi,KO.fc_eq,uo]
  exact .one rfl
def uV (h:KH) (T:TypeId→TI) (d:TD) (m k v:KV):Option (KV×Nat×KO):=
 match d,xF h m with
 | .map kt _,some (id,es,clk)=>
  if vd (T kt).d k=true then
  match qR (T kt).d k es 0 with
  |some (some (i,_))=>some (.tuple [],id, .map (es.modify i fun e=>(k,v,e.2.2)) clk)
  |some none=>some (.tuple [],id, .map (es ++ [(k,v,clk)]) (clk+1))
  |none=>none
  else none
 |_,_=>none
theorem km (T:TypeId→TI) (d:TD) (m k v:KV):((wv h T d m k v).map fun h=>((.tuple []:KV),h))=(uV h T d m k v).map fun p=>(p.1,h.set p.2.1 (some p.2.2)):=by
 unfold wv uV
 cases hm:xF h m with
 |none=>cases d<;>rfl
 | some p=>
  obtain⟨id,es,clk⟩:=p
  cases d<;>first|rfl|skip
  rename_i kt et
  simp only
  by_cases hk:vd (T kt).d k=true
  ·rw [if_pos hk,if_pos hk]
   cases qR (T kt).d k es 0 with
   |none=>rfl
   | some q=>cases q with
    |none=>rfl
    |some ij=>rfl
  ·rw [if_neg hk,if_neg hk]; rfl
def bQ (h:KH) (T:TypeId→TI) (Z:TypeId→KV) (d:TD) (m k:KV):Option (KV×Nat×KO):=
 match d,xF h m with
 | .map kt et,some (id,es,clk)=>
  if vd (T kt).d k=true∧(T et).zok=true then
  match qR (T kt).d k es 0 with
  |some (some (i,v))=>some (.tuple [v, .int .i64 (match es[i]? with|some e=>e.2.2|none=>0)],id, .map (es.modify i fun e=>(k,e.2.1,e.2.2)) clk)
  |some none=>some (.tuple [Z et, .int .i64 clk],id, .map (es ++ [(k,Z et,clk)]) (clk+1))
  |none=>none
  else none
 |_,_=>none
theorem YN (T:TypeId→TI) (Z:TypeId→KV) (d:TD) (m k:KV):ub h T Z d m k=(bQ h T Z d m k).map fun p=>(p.1,h.set p.2.1 (some p.2.2)):=by
 unfold ub bQ
 cases hm:xF h m with
 |none=>cases d<;>rfl
 | some p=>
  obtain⟨id,es,clk⟩:=p
  cases d<;>first|rfl|skip
  rename_i kt et
  simp only
  by_cases hk:vd (T kt).d k=true∧(T et).zok=true
  ·rw [if_pos hk,if_pos hk]
   cases qR (T kt).d k es 0 with
   |none=>rfl
   | some q=>cases q with
    |none=>rfl
    |some ij=>rfl
  ·rw [if_neg hk,if_neg hk]; rfl
def j1 (h:KH) (m s v:KV):Option (KV×Nat×KO):=
 match xF h m,s with
 | some (id,es,clk), .int _ b=>if 0≤b then(match wT b.toNat es 0 with
  |some i=>some (.tuple [],id, .map (es.modify i fun e=>(e.1,v,e.2.2)) clk)
  |none=>none)else none
 |_,_=>none
theorem pU (m s v:KV):((wE h m s v).map fun h=>((.tuple []:KV),h))=(j1 h m s v).map fun p=>(p.1,h.set p.2.1 (some p.2.2)):=by
 unfold wE j1
 cases hm:xF h m with
 |none=>rfl
 | some p=>
  obtain⟨id,es,clk⟩:=p
  cases s<;>first|rfl|skip
  rename_i k b
  simp only
  by_cases hk:0≤b
  ·rw [if_pos hk,if_pos hk]
   cases wT b.toNat es 0<;>rfl
  ·rw [if_neg hk,if_neg hk]; rfl
def kY (h:KH) (m:KV):Option (KV×Nat×KO):=match xF h m with
 |some (id,_,clk)=>some (.tuple [],id, .map [] clk)
 |none=>none
theorem J2 (m:KV):QOk (gL (kY h m) h K) ((dl h m).map fun h=>(.tuple [],h)) K:=by
 refine(jo (t:=(kY h m).map fun p=>(p.1,h.set p.2.1 (some p.2.2))) rfl).mono ?_
 intro p e
 cases m with
 |map i=>rw [←e]; unfold dl kY; simp only; cases xF h (.map i)<;>rfl
 |nilmap=>cases e
 |_=>cases e
def Zx (h:KH) (it:KV) (isString:Bool):Option (KV×Nat×KO):=
 match it with
 | .ptr id 0=>match h.get id,isString with
  | some (.sit n s pos),true=>
   if pos<n then
    (if jq s pos<128 then some (.tuple [.bool true, .int .i64 pos, .int .i32 (jq s pos)],id, .sit n s (pos+1))else none)
   else none
  | some (.mit (some m) since seen last),false=>match h.get m with
   | some (.map es clk)=>
    if seen.isEmpty=false∧es.isEmpty=false∧es.all (fun e=>Nat.ble last e.2.2)=true then none else
    match Xx seen es with
    | [(k,v,b)]=>if b<since then some (.tuple [.bool true,k,v],id, .mit (some m) since (seen ++ [b]) clk)else none
    |_=>none
   |_=>none
  |_,_=>none
 |_=>none
noncomputable def ew (s:Bool) (it:KV) (h:KH) (K:QK):QR:=Option.rec (motive:=fun _=>QR) (Option.rec (motive:=fun _=>QR) none (fun p=>p.1.fc fun v=>zb (xy v pr) (K v h) none) (qH h it s)) (fun _=>gL (Zx h it s) h K) (Zx h it s)
theorem BD {it:KV} {s:Bool} {p:KV×Nat×KO} (e:Zx h it s=some p):qH h it s=some (p.1,h.set p.2.1 (some p.2.2)):=by
 unfold Zx at e
 unfold qH
 split at e
 ·rename_i id
  simp only
  split at e
  ·rename_i n st pos hg
   rw [hg]
   simp only
   split at e
   ·rename_i hp
    rw [if_pos hp]
    split at e
    ·rename_i h2
     rw [if_pos h2]
     injection e with e; subst e; rfl
    ·cases e
   ·cases e
  ·rename_i m since seen last hg
   rw [hg]
   simp only
   split at e
   ·rename_i es clk hm
    rw [hm]
    simp only
    split at e
    ·cases e
    ·rename_i hc
     rw [if_neg hc]
     split at e
     ·rename_i k v b hl
      rw [hl]
      simp only
      split at e
      ·rename_i hb
       rw [if_pos hb]
       injection e with e; subst e; rfl
      ·cases e
     ·cases e
   ·cases e
  ·cases e
 ·cases e
theorem Ji {it:KV} {s:Bool} {h':KH} (e:qH h it s=some (pr,h')):h'=h:=by
 unfold qH at e
 have ne:∀ {a:KV} {l:List KV},KV.tuple (.bool true::a::l)≠pr:=fun h=>by simp [pr]at h
 split at e
 ·split at e
  ·split at e
   ·split at e
    ·simp only [Option.some.injEq,Prod.mk.injEq]at e; exact absurd e.1 ne
    ·cases e
   ·simp only [Option.some.injEq,Prod.mk.injEq]at e; exact e.2.symm
  ·simp only [Option.some.injEq,Prod.mk.injEq]at e; exact e.2.symm
  ·split at e
   ·split at e
    ·cases e
    ·split at e
     ·simp only [Option.some.injEq,Prod.mk.injEq]at e; exact e.2.symm
     ·split at e
      ·simp only [Option.some.injEq,Prod.mk.injEq]at e; exact absurd e.1 ne
      ·cases e
     ·cases e
   ·cases e
  ·cases e
 ·cases e
theorem P1 (s:Bool) (it:KV):QOk (ew s it h K) (qH h it s) K:=by
 unfold ew
 cases h3:Zx h it s with
 |some p=>exact jo (by rw [BD h3]; rfl)
 | none=>
  intro r q
  cases hn:qH h it s with
  |none=>rw [hn]at q; cases q
  | some p=>
   obtain⟨v,h'⟩:=p
   rw [hn]at q
   simp only [KV.fc_eq,za]at q
   split at q
   ·rename_i hv
    have:=w9 _ _ hv
    subst this
    have:=Ji hn
    subst this
    exact⟨_,_,rfl,q⟩
   ·cases q
noncomputable def Q7 (h:KH) (K:QK):QR:=yQ h (.map [] 0) fun i h=>K (.map i) h
noncomputable def UJ (x:KV) (h:KH) (K:QK):QR:=x.onInt (fun _ _=>yQ h (.map [] 0) fun i h=>K (.map i) h) none
def cY (h:KH) (d:TD) (x:KV):Option KO:=match d,x with
 | .str, .str n s=>some (.sit n s 0)
 | .map _ _, .nilmap=>some (.mit none 0 [] 0)
 | .map _ _,m=>match xF h m with
  |some (id,_,clk)=>some (.mit (some id) clk [] clk)
  |none=>none
 |_,_=>none
noncomputable def cC (d:TD) (x:KV) (h:KH) (K:QK):QR:=Option.rec (motive:=fun _=>QR) none (fun o=>o.fc fun o=>yQ h o fun i h=>K (.ptr i 0) h) (cY h d x)
theorem cz (d:TD) (x:KV):QOk (cC d x h K) (pG h d x) K:=by
 have fin:∀(o:KO) (s:Option (KV×KH)),(yw h=true→s=some (.ptr h.next 0,h.push o))→QOk (o.fc fun o=>yQ h o fun i h=>K (.ptr i 0) h) s K:=by
  intro o s hs
  rw [KO.fc_eq,yI]
  split
  ·rename_i hr; exact .one (hs hr)
  ·exact .none _ _
 unfold cC
 cases d<;>first|exact .none _ _|skip
 ·cases x<;>first|exact .none _ _|skip
  exact fin _ _ fun hr=>by simp only [pG,hr,if_true]
 ·cases x<;>first|exact .none _ _|skip
  ·rename_i i
   simp only [cY]
   cases hm:xF h (.map i)with
   |none=>exact .none _ _
   |some p=>exact fin _ _ fun hr=>by simp only [pG,hr,if_true,hm]
  ·exact fin _ _ fun hr=>by simp only [pG,hr,if_true]
noncomputable def Zq (z:List KV) (n:Nat) (K:List KV→QR):QR:=Nat.rec (motive:=fun _=>List KV→(List KV→QR)→QR) (fun _ K=>K []) (fun _ ih z K=>ih z fun r=>dG z r K) n z K
theorem Xd (z:List KV):∀(n:Nat) (K:List KV→QR),Zq z n K=K (wb n z)
 |0,K=>rfl
 | n+1,K=>by
  have e:Zq z (n+1) K=Zq z n fun r=>dG z r K:=rfl
  rw [e,Xd z n,j3]
  simp only [wb,List.replicate_succ,List.flatten_cons]
noncomputable def mv (sz bytes:Nat) (z:List KV) (l c:KV) (h:KH) (K:QK):QR:=l.onInt (fun _ l=>kq l fun l=>c.onInt (fun _ c=>kq c fun c=>zb (Nat.ble l c&&Nat.ble (Nat.mul bytes c) 140737488355328&&Nat.ble c 140737488355328) (Zq z c fun cs=>yQ h (.cells false cs) fun i h=>K (.sl i 0 l (some c) sz) h) none) none) none
theorem DI {T:TypeId→TI} {Z:TypeId→KV} {d:TD} {e sz bytes:Nat} {z:List KV} (hd:d= .slice e sz bytes) (hz:(T e).zok=true) (hl:(Z e).cells.length=sz) (hzz:(Z e).cells=z) (l c:KV):QOk (mv sz bytes z l c h K) (Yf h T Z d l c) K:=by
 subst hd hzz
 intro r q
 cases l<;>first|(cases q; done)|skip
 rename_i k1 l
 have q:(kq l fun l=>c.onInt (fun _ c=>kq c fun c=>zb (Nat.ble l c&&Nat.ble (Nat.mul bytes c) 140737488355328&&Nat.ble c 140737488355328) (Zq (Z e).cells c fun cs=>yQ h (.cells false cs) fun i h=>K (.sl i 0 l (some c) sz) h) none) none)=some r:=q
 rw [uO]at q
 split at q
 ·rename_i h0
  cases c<;>first|(cases q; done)|skip
  rename_i k2 c _
  simp only [KV.onInt,uO,za,Xd,yI,iF,Nat.ble_eq]at q
  split at q
  ·rename_i h1
   split at q
   ·rename_i h2
    split at q
    ·rename_i hr
     refine⟨_,_, ?_,q⟩
     simp only [Yf]
     have hm:Nat.mul bytes c.toNat=bytes*c.toNat:=rfl
     rw [hm]at h2
     have hb:(bytes:Int)*c≤140737488355328:=by
      have e1:(c.toNat:Int)=c:=by omega
      rw [←e1,←Int.natCast_mul]
      have:=h2.1.2
      omega
     rw [if_pos ⟨h0,by omega,hb,by omega,hz,hl,hr⟩]
    ·cases q
   ·cases q
  ·cases q
 ·cases q
end
noncomputable def wM (d:TD):Bool:=match d with| .other=>true|_=>false
theorem um (d:TD):wM d=false→d≠ .other:=by intro h e; subst e; cases h
section
variable {S:Type} {E:KE}
noncomputable def Kl (E:KE) (t:TypeId) (a:Operand) (K:QOp→S) (F:S):S:=
 zb ((E.T t).ok && !(wM (E.T t).d)) (zb (E.T t).d.agg (nfc (E.T t).sz fun n=>cO E.ng a fun a=>K (.f1 (ZV n) a)) (cO E.ng a fun a=>K (.f1 ZY a))) F
theorem D4 (t:TypeId) (a:Operand) (K:QOp→S) (F:S):Kl E t a K F=F∨∃q:QOp,q.okE E (.load t a)∧Kl E t a K F=K q:=by
 unfold Kl
 simp only [za,zi,iF,Bool.not_eq_true']
 by_cases hc:(E.T t).ok=true∧(wM (E.T t).d)=false
 ·rw [if_pos hc]
  have h1:(E.T t).ok=true∧(E.T t).d≠ .other:=⟨hc.1,um _ hc.2⟩
  by_cases ha:(E.T t).d.agg=true
  ·rw [if_pos ha]
   exact .inr (jT (f:=fun h v=>(qf h v (E.T t).sz true).map fun v=>(v,h)) (fun v h K=>Xu v _) (fun l h=>by simp only [zu,if_pos h1,ha]) K)
  ·rw [if_neg ha]
   rw [Bool.not_eq_true]at ha
   exact .inr (jT (f:=fun h v=>(qf h v (E.T t).sz false).map fun v=>(v,h)) (fun v h K=>XB v _) (fun l h=>by simp only [zu,if_pos h1,ha]) K)
 ·rw [if_neg hc]; exact .inl rfl
noncomputable def jX (E:KE) (s:TypeId) (x:Operand) (f:Nat) (K:QOp→S) (F:S):S:=
 match(E.T s).d with
 | .struct fs=>match fs[f]? with
  |some (k,n)=>zb (Nat.beq n 0) F (nfc k fun k=>cO E.ng x fun x=>K (.f1 (c8 k) x))
  |none=>F
 |_=>F
theorem YI (s:TypeId) (x:Operand) (f:Nat) (K:QOp→S) (F:S):jX E s x f K F=F∨∃q:QOp,q.okE E (.fieldAddr s x f)∧jX E s x f K F=K q:=by
 unfold jX
 split
 ·rename_i fs hd
  split
  ·rename_i k n hf
   rw [za,zi]
   split
   ·exact .inl rfl
   ·rename_i hn
    rw [Nat.beq_eq]at hn
    exact .inr (jT (f:=fun h v=>(vk (E.T s).d v f).map fun v=>(v,h)) (fun v h K=>GY hd hf hn v) (fun l h=>rfl) K)
  ·exact .inl rfl
 ·exact .inl rfl
noncomputable def Vd (E:KE) (s:TypeId) (x:Operand) (f:Nat) (K:QOp→S) (F:S):S:=
 match(E.T s).d with
 | .struct fs=>match fs[f]?,(E.T s).fts[f]? with
  |some (off,_),some ft=>zb ((E.T ft).ok && !(wM (E.T ft).d)) (nfc off fun off=>zb (E.T ft).d.agg (nfc (E.T ft).sz fun n=>cO E.ng x fun x=>K (.f1 (cX off n) x)) (cO E.ng x fun x=>K (.f1 (Dl off) x))) F
  |_,_=>F
 |_=>F
theorem Bp (s:TypeId) (x:Operand) (f:Nat) (K:QOp→S) (F:S):Vd E s x f K F=F∨∃q:QOp,q.okE E (.field s x f)∧Vd E s x f K F=K q:=by
 unfold Vd
 split
 ·rename_i fs hd
  split
  ·rename_i off n ft hf ht
   simp only [za,zi,iF,Bool.not_eq_true']
   by_cases hc:(E.T ft).ok=true∧(wM (E.T ft).d)=false
   ·rw [if_pos hc]
    have h1:(E.T ft).ok=true∧(E.T ft).d≠ .other:=⟨hc.1,um _ hc.2⟩
    by_cases ha:(E.T ft).d.agg=true
    ·rw [if_pos ha]
     exact .inr (jT (f:=fun h v=>(j8 (E.T s) E.T v f).map fun v=>(v,h)) (fun v h K=>Pe hd hf ht h1 ha v) (fun l h=>rfl) K)
    ·rw [if_neg ha]
     rw [Bool.not_eq_true]at ha
     exact .inr (jT (f:=fun h v=>(j8 (E.T s) E.T v f).map fun v=>(v,h)) (fun v h K=>cK hd hf ht h1 ha v) (fun l h=>rfl) K)
   ·rw [if_neg hc]; exact .inl rfl
  ·exact .inl rfl
 ·exact .inl rfl
noncomputable def jO (E:KE) (t:TypeId) (x i:Operand) (K:QOp→S) (F:S):S:=
 match(E.T t).d with
 | .slice _ sz _=>nfc sz fun sz=>cO E.ng x fun x=>cO E.ng i fun i=>K (.f2 (mf sz) x i)
 | .arr n sz=>nfc n fun n=>nfc sz fun sz=>cO E.ng x fun x=>cO E.ng i fun i=>K (.f2 (mY n sz) x i)
 |_=>F
theorem YR (t:TypeId) (x i:Operand) (K:QOp→S) (F:S):jO E t x i K F=F∨∃q:QOp,q.okE E (.indexAddr t x i)∧jO E t x i K F=K q:=by
 unfold jO
 split
 ·rename_i hd
  rw [zi]
  exact .inr (vL (f:=fun h x i=>Xt (E.T t).d h x i) (fun v u h K=>cB hd v u) (fun l h=>rfl) K)
 ·rename_i hd
  simp only [zi]
  exact .inr (vL (f:=fun h x i=>Xt (E.T t).d h x i) (fun v u h K=>eG hd v u) (fun l h=>rfl) K)
 ·exact .inl rfl
noncomputable def zaN (g:Int→Int→Int) (x y:KV) (h:KH) (K:QK):QR:=qii x y fun k a b=>K (.int k (k.wrap (g a b))) h
noncomputable def PZ (x y:KV) (h:KH) (K:QK):QR:=qii x y fun k a b=>zb (cW b 0) none (K (.int k (Int.tmod a b)) h)
theorem Dt {xt:TypeId} (ho:(E.T xt).d≠ .other) {h:KH} {K:QK} (x y:KV):QOk (PZ x y h K) (xz E h .rem xt x y) K:=by
 unfold PZ
 cases x<;>try exact .none _ _
 cases y<;>try exact .none _ _
 rename_i k a k' b
 show QOk (zb _ _ _) _ _
 rw [za]
 by_cases hk:k=k'
 ·subst hk
  rw [if_pos ((Za _ _).2 rfl)]
  show QOk (zb (cW b 0) none _) _ _
  rw [za]
  split
  ·exact .none _ _
  ·rename_i hb
   rw [W4]at hb
   have hb:b≠0:=by simpa using hb
   exact .one (Y7 ho (by simp) (by simp) (show X7 k .rem a b=_ by simp only [X7,V5,if_neg hb,Option.bind_some]; rfl))
 ·rw [if_neg (fun x=>hk ((Za _ _).1 x))]; exact .none _ _
noncomputable def eQ (E:KE) (op:BinOp) (t:TypeId) (x y:Operand) (K:QOp→S) (F:S):S:=
 zb (wM (E.T t).d) F (match(E.T t).d,op with
  | .int _, .rem=>zb (Nat.beq E.ng 0) (cO E.ng x fun x=>cO E.ng y fun y=>K (.f2 PZ x y)) F
  | .int _, .add=>zb (Nat.beq E.ng 0) (cO E.ng x fun x=>cO E.ng y fun y=>K (.f2 (zaN (· + ·)) x y))<|cO E.ng x fun x=>cO E.ng y fun y=>K (.f2 (qar mH) x y)
  | .int _, .sub=>cO E.ng x fun x=>cO E.ng y fun y=>K (.f2 (qar nl) x y)
  | .int _, .mul=>cO E.ng x fun x=>cO E.ng y fun y=>K (.f2 (qar nm) x y)
  | .int _, .eql=>cO E.ng x fun x=>cO E.ng y fun y=>K (.f2 (Jm cW) x y)
  | .int _, .neq=>cO E.ng x fun x=>cO E.ng y fun y=>K (.f2 (Jm fun a b=> !(cW a b)) x y)
  | .int _, .lss=>cO E.ng x fun x=>cO E.ng y fun y=>K (.f2 (Jm DX) x y)
  | .int _, .leq=>cO E.ng x fun x=>cO E.ng y fun y=>K (.f2 (Jm fun a b=> !(DX b a)) x y)
  | .int _, .gtr=>cO E.ng x fun x=>cO E.ng y fun y=>K (.f2 (Jm fun a b=>DX b a) x y)
  | .int _, .geq=>cO E.ng x fun x=>cO E.ng y fun y=>K (.f2 (Jm fun a b=> !(DX a b)) x y)
  | .str, .add=>cO E.ng x fun x=>cO E.ng y fun y=>K (.f2 nW x y)
  | .str, .eql=>cO E.ng x fun x=>cO E.ng y fun y=>K (.f2 sY x y)
  | .str, .neq=>cO E.ng x fun x=>cO E.ng y fun y=>K (.f2 sS x y)
  |_,_=>F)
theorem fS (op:BinOp) (t:TypeId) (x y:Operand) (yt:TypeId) (K:QOp→S) (F:S):eQ E op t x y K F=F∨∃q:QOp,q.okE E (.binOp op t x y yt)∧eQ E op t x y K F=K q:=by
 unfold eQ
 rw [za]
 by_cases ho:(wM (E.T t).d)=true
 ·rw [if_pos ho]; exact .inl rfl
 ·rw [if_neg ho]
  have ho:=um _ (Bool.not_eq_true _▸ho)
  split
  ·rw [za]
   split
   ·exact .inr (vL (f:=fun h x y=>xz E h .rem t x y) (fun v u h K=>Dt ho v u) (fun l h=>rfl) K)
   ·exact .inl rfl
  ·rw [za]
   split
   ·exact .inr (vL (f:=fun h x y=>xz E h .add t x y) (fun v u h K=>Qv ho (by simp) (by simp) (fun k a b=>⟨_,rfl,rfl⟩) v u) (fun l h=>rfl) K)
   exact .inr (vL (f:=fun h x y=>xz E h .add t x y) (fun v u h K=>JC ho (by simp) (by simp) (g:=(· + ·)) Ps (fun _ _ _=>rfl) v u) (fun l h=>rfl) K)
  ·exact .inr (vL (f:=fun h x y=>xz E h .sub t x y) (fun v u h K=>JC ho (by simp) (by simp) (g:=(· - ·)) Pk (fun _ _ _=>rfl) v u) (fun l h=>rfl) K)
  ·exact .inr (vL (f:=fun h x y=>xz E h .mul t x y) (fun v u h K=>JC ho (by simp) (by simp) (g:=(· * ·)) G8 (fun _ _ _=>rfl) v u) (fun l h=>rfl) K)
  ·exact .inr (vL (f:=fun h x y=>xz E h .eql t x y) (fun v u h K=>kK ho (by simp) (by simp) (fun _ a b=>by rw [W4]; rfl) v u) (fun l h=>rfl) K)
  ·exact .inr (vL (f:=fun h x y=>xz E h .neq t x y) (fun v u h K=>kK ho (by simp) (by simp) (fun _ a b=>by rw [W4]; rfl) v u) (fun l h=>rfl) K)
  ·exact .inr (vL (f:=fun h x y=>xz E h .lss t x y) (fun v u h K=>kK ho (by simp) (by simp) (fun _ a b=>by rw [Zo]; rfl) v u) (fun l h=>rfl) K)
  ·exact .inr (vL (f:=fun h x y=>xz E h .leq t x y) (fun v u h K=>kK ho (by simp) (by simp) (fun _ a b=>by
    rw [Zo]; show some (KV.bool (decide (a≤b)))=_; congr 2; rw [Bool.eq_iff_iff]; simp) v u) (fun l h=>rfl) K)
  ·exact .inr (vL (f:=fun h x y=>xz E h .gtr t x y) (fun v u h K=>kK ho (by simp) (by simp) (fun _ a b=>by rw [Zo]; rfl) v u) (fun l h=>rfl) K)
  ·exact .inr (vL (f:=fun h x y=>xz E h .geq t x y) (fun v u h K=>kK ho (by simp) (by simp) (fun _ a b=>by
    rw [Zo]; show some (KV.bool (decide (a≥b)))=_; congr 2; rw [Bool.eq_iff_iff]; simp) v u) (fun l h=>rfl) K)
  ·exact .inr (vL (f:=fun h x y=>xz E h .add t x y) (fun v u h K=>lf ho v u) (fun l h=>rfl) K)
  ·exact .inr (vL (f:=fun h x y=>xz E h .eql t x y) (fun v u h K=>hU ho v u) (fun l h=>rfl) K)
  ·exact .inr (vL (f:=fun h x y=>xz E h .neq t x y) (fun v u h K=>eR ho v u) (fun l h=>rfl) K)
  ·exact .inl rfl
noncomputable def hQ (E:KE) (t:TypeId) (x:Operand) (K:QOp→S) (F:S):S:=match(E.T t).d with
 | .str=>cO E.ng x fun x=>K (.f1 l8 x)
 | .slice .. => cO E.ng x fun x=>K (.f1 mo x)
 |_=>F
theorem lM (t:TypeId) (x:Operand) (K:QOp→S) (F:S):hQ E t x K F=F∨∃q:QOp,q.okE E (.call ⟨.builtin .len, #[x], #[t]⟩)∧hQ E t x K F=K q:=by
 unfold hQ
 split
 ·rename_i hd
  exact .inr (jT (f:=fun h v=>(Ju (E.T t).d v).map fun v=>(v,h)) (fun v h K=>eB hd v) (fun l h=>by simp only [zu,ur,List.map_cons,List.map_nil,hd]) K)
 ·rename_i hd
  exact .inr (jT (f:=fun h v=>(Ju (E.T t).d v).map fun v=>(v,h)) (fun v h K=>GO hd v) (fun l h=>by simp only [zu,ur,List.map_cons,List.map_nil,hd]) K)
 ·exact .inl rfl
noncomputable def pX (E:KE) (t tx:TypeId) (s x:Operand) (K:QOp→S) (F:S):S:=match(E.T t).d with
 | .slice e sz bytes=>zb ((E.T e).zok&&Nat.beq (E.T e).zero.cells.length sz&&Nat.blt 0 bytes) (nfc sz fun sz=>nfc bytes fun bytes=>match(E.T tx).d with
  | .slice _ sz1 _=>zb (Nat.beq sz1 sz) (cO E.ng s fun s=>cO E.ng x fun x=>K (.f2 (p9 sz bytes (KT sz)) s x)) F
  | .str=>zb (Nat.beq sz 1) (cO E.ng s fun s=>cO E.ng x fun x=>K (.f2 (p9 sz bytes Q2) s x)) F
  |_=>F) F
 |_=>F
theorem Qb (t tx:TypeId) (s x:Operand) (K:QOp→S) (F:S):pX E t tx s x K F=F∨∃q:QOp,q.okE E (.call ⟨.builtin .append, #[s,x], #[t,tx]⟩)∧pX E t tx s x K F=K q:=by
 unfold pX
 split
 ·rename_i e sz bytes hd
  simp only [za,zi,iF,Nat.beq_eq,zL,decide_eq_true_eq]
  by_cases hc:((E.T e).zok=true∧(E.T e).zero.cells.length=sz)∧0<bytes
  ·rw [if_pos hc]
   split
   ·rename_i e1 sz1 b1 hd1
    by_cases h1:sz1=sz
    ·rw [if_pos h1]
     subst h1
     exact .inr (vL (f:=fun h s x=>jM h E.T (E.T t).d (E.T tx).d s x) (fun v u h K=>ZN hd (VB hd1) hc.1.1 hc.1.2 hc.2 v u) (fun l h=>rfl) K)
    ·rw [if_neg h1]; exact .inl rfl
   ·rename_i hd1
    by_cases h1:sz=1
    ·rw [if_pos h1]
     subst h1
     exact .inr (vL (f:=fun h s x=>jM h E.T (E.T t).d (E.T tx).d s x) (fun v u h K=>ZN hd (V0 hd1) hc.1.1 hc.1.2 hc.2 v u) (fun l h=>rfl) K)
    ·rw [if_neg h1]; exact .inl rfl
   ·exact .inl rfl
  ·rw [if_neg hc]; exact .inl rfl
 ·exact .inl rfl
noncomputable def Yh (E:KE) (o:Op) (K:QOp→S) (F:S):S:=zb (wV E.T o) (K (.old fun l h=>zu E l h o)) F
theorem kI (o:Op) (K:QOp→S) (F:S):Yh E o K F=F∨∃q:QOp,q.okE E o∧Yh E o K F=K q:=by
 unfold Yh
 rw [za]
 split
 ·rename_i hp
  exact .inr ⟨.old fun l h=>zu E l h o,fun e l h K=>f7 fun v h' e=>ue hp e,rfl⟩
 ·exact .inl rfl
noncomputable def cOp (E:KE) (o:Op) (K:QOp→S) (F:S):S:=match o with
 | .move x=>cO E.ng x fun x=>K (.f1 QW x)
 | .assign x=>cO E.ng x fun x=>K (.f1 QW x)
 | .pick c a b=>cO E.ng c fun c=>cO E.ng a fun a=>cO E.ng b fun b=>K (.f3 Dd c a b)
 | .alloc e=>zb ((E.T e).zok&&KV.isCells (E.Z e).cells) (KV.fcs (E.Z e).cells fun cs=>K (.f0 (WF cs))) F
 | .box _ x=>cO E.ng x fun x=>K (.f1 nM x)
 | .build t ps=>WL E t ps.toList K F
 | .buildSlice t len ps=>pZ E t len ps.toList K F
 | .load t a=>Kl E t a K F
 | .store t a x=>zb (E.T t).ok (nfc (E.T t).sz fun n=>cO E.ng a fun a=>cO E.ng x fun x=>K (.f2 (Pq n) a x)) F
 | .fieldAddr s x f=>jX E s x f K F
 | .field s x f=>Vd E s x f K F
 | .indexAddr t x i=>jO E t x i K F
 | .index t x i=>match(E.T t).d,E.A t with
  | .str,_=>cO E.ng x fun x=>cO E.ng i fun i=>K (.f2 PI x i)
  | .arr n _,some e=>zb ((E.T e).ok && !(wM (E.T e).d)) (nfc n fun n=>nfc (E.T e).sz fun sz=>cO E.ng x fun x=>cO E.ng i fun i=>K (.f2 (fun x i h K=>zb (E.T e).d.agg (nc n sz x i h K) (mI n sz x i h K)) x i)) F
  |_,_=>Yh E (.index t x i) K F
 | .binOp op t x y yt=>eQ E op t x y K (Yh E (.binOp op t x y yt) K F)
 | .unOp op t x=>match op with| .not=>cO E.ng x fun x=>K (.f1 tG x)|op=>Yh E (.unOp op t x) K F
 | .convert s d x=>match(E.T d).d,(E.T s).d with
  | .int k,_=>zb (E.T s).ok (cO E.ng x fun x=>K (.f1 (re k) x)) F
  | .slice e 1 _, .str=>zb (E.T s).ok (match(E.T e).d with| .int .u8=>cO E.ng x fun x=>K (.f1 cN x)|_=>F) F
  | .str, .slice e _ _=>zb (E.T s).ok (match(E.T e).d with| .int .u8=>cO E.ng x fun x=>K (.f1 Pr x)|_=>F) F
  |_,_=>Yh E (.convert s d x) K F
 | .makeMap t r=>match r,(E.T t).d with
  |none,_=>K (.f0 Q7)
  |some x, .map _ _=>cO E.ng x fun x=>K (.f1 UJ x)
  |_,_=>F
 | .makeSlice t n c=>match(E.T t).d with
  | .slice e sz bytes=>zb ((E.T e).zok&&Nat.beq (E.Z e).cells.length sz) (nfc sz fun sz=>nfc bytes fun bytes=>KV.fcs (E.Z e).cells fun z=>cO E.ng n fun n=>cO E.ng c fun c=>K (.f2 (mv sz bytes z) n c)) F
  |_=>F
 | .mapUpdate t m k x=>cO E.ng m fun m=>cO E.ng k fun k=>cO E.ng x fun x=>K (.f3 (fun m k x h K=>gL (uV h E.T (E.T t).d m k x) h K) m k x)
 | .insert t m k x=>cO E.ng m fun m=>cO E.ng k fun k=>cO E.ng x fun x=>K (.f3 (fun m k x h K=>gL (uV h E.T (E.T t).d m k x) h K) m k x)
 | .mapEntry t m k=>cO E.ng m fun m=>cO E.ng k fun k=>K (.f2 (fun m k h K=>gL (bQ h E.T E.Z (E.T t).d m k) h K) m k)
 | .entryStore t m s x=>cO E.ng m fun m=>cO E.ng s fun s=>cO E.ng x fun x=>K (.f3 (fun m s x h K=>gL (j1 h m s x) h K) m s x)
 | .range t x=>cO E.ng x fun x=>K (.f1 (cC (E.T t).d) x)
 | .next it s=>cO E.ng it fun it=>K (.f1 (ew s) it)
 | .extract x i=>nfc i fun i=>cO E.ng x fun x=>K (.f1 (ou i) x)
 | .call ⟨.builtin .len,⟨[x]⟩,⟨[t]⟩⟩=>hQ E t x K (Yh E (.call ⟨.builtin .len, #[x], #[t]⟩) K F)
 | .call ⟨.builtin .append,⟨[s,x]⟩,⟨[t,tx]⟩⟩=>pX E t tx s x K F
 | .call ⟨.builtin .copy,⟨[s,x]⟩,⟨[t,tx]⟩⟩=>match(E.T t).d,(E.T tx).d with
  | .slice _ sz _, .slice _ sz1 _=>zb (Nat.beq sz1 sz) (nfc sz fun sz=>cO E.ng s fun s=>cO E.ng x fun x=>K (.f2 (Be sz (KT sz)) s x)) F
  | .slice _ 1 _, .str=>cO E.ng s fun s=>cO E.ng x fun x=>K (.f2 (Be 1 Q2) s x)
  |_,_=>F
 | .call ⟨.builtin .clear,⟨[x]⟩,⟨[t]⟩⟩=>match(E.T t).d with
  | .map _ _=>cO E.ng x fun x=>K (.f1 (fun m h K=>Option.rec (motive:=fun _=>QR) none (fun _=>gL (kY h m) h K) (kY h m)) x)
  |_=>F
 |o=>Yh E o K F
theorem dN (o:Op) (K:QOp→S) (F:S):cOp E o K F=F∨∃q:QOp,q.okE E o∧cOp E o K F=K q:=by
 unfold cOp
 split
 ·exact .inr (jT (f:=fun h v=>some (v,h)) (fun v h K=>Uq v) (fun l h=>rfl) K)
 ·exact .inr (jT (f:=fun h v=>some (v,h)) (fun v h K=>Uq v) (fun l h=>rfl) K)
 ·exact .inr (fy (f:=fun h c a b=>Qr h c a b) (fun v u w h K=>GN v u w) (fun l h=>rfl) K)
 ·rename_i e
  simp only [za,KV.fcs_eq,iF]
  split
  ·rename_i hc
   exact .inr ⟨.f0 (WF (E.Z e).cells),fun en l h K=>BO hc.1 rfl hc.2,rfl⟩
  ·exact .inl rfl
 ·exact .inr (jT (f:=fun h x=>if KV.isCells x.cells=true∧yw h=true then some (.ptr h.next 0,h.push (.cells false x.cells))else none) (fun v h K=>lE v) (fun l h=>rfl) K)
 ·exact Bn _ _ _ _
 ·exact J1 _ _ _ _ _
 ·exact D4 _ _ _ _
 ·rename_i t a x
  simp only [za,zi]
  split
  ·rename_i hc
   exact .inr (vL (f:=fun h p v=>(pe h p v (E.T t).sz).map fun h=>(.tuple [],h)) (fun v u h K=>BZ _ v u) (fun l h=>by simp only [zu,if_pos hc]) K)
  ·exact .inl rfl
 ·exact YI _ _ _ _ _
 ·exact Bp _ _ _ _ _
 ·exact YR _ _ _ _ _
 ·rename_i t x i
  split
  ·rename_i hd
   exact .inr (vL (f:=fun h x i=>bP E t h x i) (fun v u h K=>Bq hd v u) (fun l h=>rfl) K)
  ·rename_i n sz e hd ha
   simp only [za (b:=_&&_),zi,iF,Bool.not_eq_true']
   split
   ·rename_i hc
    exact .inr (vL (f:=fun h x i=>bP E t h x i) (fun v u h K=>lO hd ha ⟨hc.1,um _ hc.2⟩ v u) (fun l h=>rfl) K)
   ·exact .inl rfl
  ·exact kI _ _ _
 ·rename_i op t x y yt
  rcases fS (E:=E) op t x y yt K (Yh E (.binOp op t x y yt) K F)with h|h
  ·rw [h]; exact kI _ _ _
  ·exact .inr h
 ·split
  ·exact .inr (jT (f:=fun h v=>(kun .not v).map fun v=>(v,h)) (fun v h K=>fW v) (fun l h=>rfl) K)
  ·exact kI _ _ _
 ·rename_i s d x
  split
  ·rename_i k hd
   rw [za]
   split
   ·rename_i hs
    exact .inr (jT (f:=fun h v=>vV h E.T s d v) (fun v h K=>f8 hs hd v) (fun l h=>rfl) K)
   ·exact .inl rfl
  ·rename_i e b hd hss
   rw [za]
   split
   ·rename_i hs
    split
    ·rename_i he
     exact .inr (jT (f:=fun h v=>vV h E.T s d v) (fun v h K=>ce hs hss hd he v) (fun l h=>rfl) K)
    ·exact .inl rfl
   ·exact .inl rfl
  ·rename_i e sz b hd hss
   rw [za]
   split
   ·rename_i hs
    split
    ·rename_i he
     exact .inr (jT (f:=fun h v=>vV h E.T s d v) (fun v h K=>P4 hs hss hd he v) (fun l h=>rfl) K)
    ·exact .inl rfl
   ·exact .inl rfl
  ·exact kI _ _ _
 ·rename_i t r
  split
  ·refine .inr ⟨.f0 Q7,fun en l h K=> ?_,rfl⟩
   intro r q
   have q:yQ h (.map [] 0) (fun i h=>K (.map i) h)=some r:=q
   rw [yI]at q
   split at q
   ·rename_i hr; exact⟨_,_,by simp only [zu,hr,if_true],q⟩
   ·cases q
  ·rename_i x kt et hd
   refine .inr (jT (f:=fun h v=>if yw h=true then(match v with| .int _ _=>some (.map h.next,h.push (.map [] 0))|_=>none)else none) ?_ (fun l h=>by simp only [zu,hd]; split<;>first|(split<;>simp_all)|rfl) K)
   intro v h K r q
   cases v<;>first|(cases q; done)|skip
   simp only [UJ,KV.onInt,yI]at q
   split at q
   ·rename_i hr; exact⟨_,_,by simp only [hr,if_true],q⟩
   ·cases q
  ·exact .inl rfl
 ·rename_i t n c
  split
  ·rename_i e sz bytes hd
   simp only [za,zi,KV.fcs_eq,iF,Nat.beq_eq]
   split
   ·rename_i hc
    exact .inr (vL (f:=fun h l c=>Yf h E.T E.Z (E.T t).d l c) (fun v u h K=>DI hd hc.1 hc.2 rfl v u) (fun l h=>rfl) K)
   ·exact .inl rfl
  ·exact .inl rfl
 ·rename_i t m k x
  exact .inr (fy (f:=fun h m k x=>(wv h E.T (E.T t).d m k x).map fun h=>(.tuple [],h)) (fun v u w h K=>jo (km _ _ _ _ _)) (fun l h=>rfl) K)
 ·rename_i t m k x
  exact .inr (fy (f:=fun h m k x=>(wv h E.T (E.T t).d m k x).map fun h=>(.tuple [],h)) (fun v u w h K=>jo (km _ _ _ _ _)) (fun l h=>rfl) K)
 ·rename_i t m k
  exact .inr (vL (f:=fun h m k=>ub h E.T E.Z (E.T t).d m k) (fun v u h K=>jo (YN _ _ _ _ _)) (fun l h=>rfl) K)
 ·rename_i t m s x
  exact .inr (fy (f:=fun h m s x=>(wE h m s x).map fun h=>(.tuple [],h)) (fun v u w h K=>jo (pU _ _ _)) (fun l h=>rfl) K)
 ·rename_i t x
  exact .inr (jT (f:=fun h x=>pG h (E.T t).d x) (fun v h K=>cz _ v) (fun l h=>rfl) K)
 ·rename_i it s
  exact .inr (jT (f:=fun h x=>qH h x s) (fun v h K=>P1 s v) (fun l h=>rfl) K)
 ·rw [zi]
  exact .inr (jT (f:=fun h v=>(jF v _).map fun v=>(v,h)) (fun v h K=>lP _ v) (fun l h=>rfl) K)
 ·rename_i x t
  rcases lM (E:=E) t x K (Yh E (.call ⟨.builtin .len, #[x], #[t]⟩) K F)with h|h
  ·rw [h]; exact kI _ _ _
  ·exact .inr h
 ·exact Qb _ _ _ _ _ _
 ·rename_i s x t tx
  split
  ·rename_i e1 sz b1 e2 sz1 b2 hd hdx
   simp only [za,zi,Nat.beq_eq]
   split
   ·rename_i hs
    subst hs
    exact .inr (vL (f:=fun h x y=>Z7 h (E.T t).d (E.T tx).d x y) (fun v u h K=>UI hd (VB hdx) v u) (fun l h=>rfl) K)
   ·exact .inl rfl
  ·rename_i hd hdx
   exact .inr (vL (f:=fun h x y=>Z7 h (E.T t).d (E.T tx).d x y) (fun v u h K=>UI hd (V0 hdx) v u) (fun l h=>rfl) K)
  ·exact .inl rfl
 ·rename_i x t
  split
  ·rename_i kt et hd
   refine .inr (jT (f:=fun h m=>(dl h m).map fun h=>(.tuple [],h)) ?_ (fun l h=>by simp only [zu,ur,List.map_cons,List.map_nil,hd]) K)
   intro v h K r q
   cases hk:kY h v with
   |none=>rw [hk]at q; cases q
   | some p=>
    rw [hk]at q
    exact J2 v r (by rw [hk]; exact q)
  ·exact .inl rfl
 ·exact kI _ _ _
end
end Go.K
end
