/- Closed runs. No condition. -/
import Derived.Test.YtkabooclnoiclaaGreatDoorK09
set_option linter.all false
noncomputable section
namespace Go.K
open Go.Abs
section
variable {h:KH} {K:QK}
def gO (h:KH) (id off m:Nat) (K:List KV->QR):QR:=qg h id fun o=>o.onCells fun _ a=>VI a off fun l=>YT l m fun l=>XH l m (K l)
def Zx {id off m:Nat} {K:List KV->QR} {r:KV×KH} (e:gO h id off m K=some r):∃l,gL h id off m=some l∧K l=some r:=by
 unfold gO at e;rw [uO]at e;unfold gL
 cases a:h.get id with
 |none=>rw [a]at e; cases e
 | some o=>
  rw [a]at e;cases o<;>first|(cases e; done)|skip
  rename_i ro f;simp only [Option.elim_some,KO.onCells,Zg,Zq,Wc]at e;split at e
  ·rename_i b;split at e
   ·rename_i c;exact⟨_,by simp only; rw [iI ⟨b,c.2⟩],e⟩
   ·cases e
  ·cases e
def VP (s n i:Nat) (K:List KV->QR):QR:=Nat.rec (motive:=fun _=>Nat->(List KV->QR)->QR) (fun i K=>K []) (fun _ a i K=>nfc (de s i) fun b=>nfc (Nat.succ i) fun i=>a i fun l=>K (.int .u8 (.ofNat b)::l)) n i K
def XZ (s:Nat):∀(n i:Nat) (K:List KV->QR),VP s n i K=K (kG s n i)
 |0,i,K=>rfl
 | n+1,i,K=>by
  refine(zH (de s i) fun b=>nfc (Nat.succ i) fun i=>VP s n i fun l=>K (.int .u8 (.ofNat b)::l)).trans ?_;refine(zH (Nat.succ i) fun j=>VP s n j fun l=>K (.int .u8 (.ofNat (de s i))::l)).trans ?_;exact XZ s n (i+1) _
def cD (sz:Nat) (x:KV) (h:KH) (K:Nat->List KV->QR):QR:=x.onSl (fun id a len _ s=>zq (Nat.beq sz s) (nfc (Nat.mul len sz) fun m=>gO h id a m (K len)) none) (K 0 []) (K 0 []) none
def PF (x:KV) (h:KH) (K:Nat->List KV->QR):QR:=x.onStr (fun n s=>VP s n 0 (K n)) none
def tJ (f:KV->KH->(Nat->List KV->QR)->QR) (d:TD) (sz:Nat):Prop:=∀(x:KV) (h:KH) (K:Nat->List KV->QR) (r:KV×KH),f x h K=some r->∃n l,fZ h d sz x=some (n,l)∧K n l=some r
def K6 {d:TD} {e sz by_:Nat} (hd:d= .slice e sz by_):tJ (cD sz) d sz:=by
 subst hd;intro x h K r q;cases x<;>first|(cases q; done)|skip
 ·rename_i id b len c s;simp only [cD,KV.onSl,zo,zH,Nat.beq_eq]at q;split at q
  ·rename_i g;obtain⟨l,a,f⟩:=Zx q;refine⟨len,l, ?_,f⟩;have a:gL h id b (len*sz)=some l:=a;simp only [fZ];rw [iI ⟨g,trivial⟩,a]
  ·cases q
 ·exact⟨0,[],rfl,q⟩
 ·exact⟨0,[],rfl,q⟩
def BD {d:TD} (hd:d= .str):tJ PF d 1:=by
 subst hd;intro x h K r q;cases x<;>first|(cases q; done)|skip
 rename_i n s;simp only [PF,KV.onStr,XZ]at q;exact⟨n,_,rfl,q⟩
def mL (s:KV) (h:KH) (K:QK):QR:=s.onSl (fun _ _ _ _ _=>s.hd fun s=>K s h) (K .slz h) (K .nilsl h) none
def mn (h:KH) (id off len n c sz:Nat) (new:List KV) (K:QK):QR:=qg h id fun o=>o.onCells fun ro a=>zq ro none (tD new fun m=>Qi a (Nat.add off (Nat.mul len sz)) m new fun a=>pG h id (.cells false a) fun h=>nfc (Nat.add len n) fun k=>K (.sl id off k (some c) sz) h)
def GP (h:KH) (len n sz:Nat) (old new:List KV) (K:QK):QR:=XT old new fun all=>uu h (.cells false all) fun i h=>nfc (Nat.add len n) fun k=>K (.sl i 0 k none sz) h
def np (h:KH) (id len n sz:Nat) (old new:List KV) (K:QK):QR:=qg h id fun o=>o.onCells fun ro _=>zq ro none (Po h id fun h=>GP h len n sz old new K)
def Vg (sz bytes:Nat) (src:KV->KH->(Nat->List KV->QR)->QR) (s x:KV) (h:KH) (K:QK):QR:=
 zq (wY h) (src x h fun n new=>zq (Nat.beq n 0) (mL s h K) (s.onSl (fun id a len c b=>zq (Nat.beq b sz&&Nat.ble ((len+n)*bytes) 140737488355328)
  (gO h id a (Nat.mul len sz) fun old=>Option.rec (motive:=fun _=>QR) (np h id len n sz old new K) (fun c=>zq (Nat.ble (Nat.add len n) c) (mn h id a len n c sz new K) (GP h len n sz old new K)) c) none)
  none (zq (Nat.ble (n*bytes) 140737488355328) (uu h (.cells false new) fun i h=>K (.sl i 0 n none sz) h) none) none)) none
def Bm {len n sz:Nat} {old new:List KV} {r:KV×KH} (e:GP h len n sz old new K=some r):wY h=true∧K (.sl h.next 0 (len+n) none sz) (h.push (.cells false (old++new)))=some r:=by
 unfold GP at e;rw [pj,vX]at e;split at e
 ·rename_i a; rw [zH]at e; exact⟨a,e⟩
 ·cases e
def mz (h:KH) (sz bytes n:Nat) (new:List KV) (s:KV):Option (KV×KH):=
   if n=0 then(match s with| .sl .. | .nilsl| .slz=>some (s,h)|_=>none)else
   match s with
   | .nilsl=>if n*bytes<=140737488355328 then some (.sl h.next 0 n none sz,h.push (.cells false new))else none
   | .sl id a len c e=>
    if e=sz∧(len+n)*bytes<=140737488355328 then
     match gL h id a (len*sz)with
     |none=>none
     | some old=>
      match c with
      | some c=>
       if len+n<=c then(match h.get id with
        |some (.cells false b)=>if a+len*sz+new.length<=b.length then some (.sl id a (len+n) (some c) sz,h.set id (some (.cells false (b.take (a+len*sz)++new++b.drop (a+len*sz+new.length)))))else none
        |_=>none)
       else some (.sl h.next 0 (len+n) none sz,h.push (.cells false (old++new)))
      | none=>match h.get id with
       |some (.cells false b)=>some (.sl h.next 0 (len+n) none sz,(h.set id none).push (.cells false (old++new)))
       |_=>none
    else none
   |_=>none
def lX {sz bytes n:Nat} {new:List KV} {s:KV} {r:KV×KH}
  (e:zq (Nat.beq n 0) (mL s h K) (s.onSl (fun id off len c sz'=>zq (Nat.beq sz' sz&&Nat.ble ((len+n)*bytes) 140737488355328)
  (gO h id off (Nat.mul len sz) fun old=>Option.rec (motive:=fun _=>QR) (np h id len n sz old new K) (fun c=>zq (Nat.ble (Nat.add len n) c) (mn h id off len n c sz new K) (GP h len n sz old new K)) c) none)
  none (zq (Nat.ble (n*bytes) 140737488355328) (uu h (.cells false new) fun i h=>K (.sl i 0 n none sz) h) none) none)=some r):∃v h',mz h sz bytes n new s=some (v,h')∧K v h'=some r:=by
 rw [zo]at e
 by_cases b:n=0
 ·rw [iI (by rw [Nat.beq_eq]; exact b)]at e;unfold mz;rw [iI b];cases s<;>first|(cases e; done)|skip
  ·exact⟨_,_,rfl,by simpa [mL,KV.onSl,KV.hd] using e⟩
  ·exact⟨_,_,rfl,e⟩
  ·exact⟨_,_,rfl,e⟩
 ·rw [iH (by rw [Nat.beq_eq]; exact b)]at e;unfold mz;rw [iH b];cases s<;>first|(cases e; done)|skip
  ·rename_i id off len c sz';simp only [KV.onSl,zo,iF,Nat.beq_eq,Nat.ble_eq]at e
   by_cases g:sz'=sz∧(len+n)*bytes<=140737488355328
   ·rw [iI g]at e;simp only;rw [iI g];obtain⟨old,f,e⟩:=Zx e;have f:gL h id off (len*sz)=some old:=f;rw [f]
    cases c with
    | none=>
     simp only [np,uO]at e
     cases a:h.get id with
     |none=>rw [a]at e; cases e
     | some o=>
      rw [a]at e;cases o<;>first|(cases e; done)|skip
      rename_i ro l
      cases ro with
      |true=>cases e
      | false=>
       simp only [Option.elim_some,KO.onCells,zo,iT,if_false,eR]at e;obtain⟨_,e⟩:=Bm e;exact⟨_,_,rfl,e⟩
    | some c=>
     simp only [Nat.ble_eq]at e;have j:Nat.add len n=len+n:=rfl;rw [j]at e;simp only
     by_cases k:len+n<=c
     ·rw [iI k]at e ⊢;simp only [mn,uO]at e
      cases a:h.get id with
      |none=>rw [a]at e; cases e
      | some o=>
       rw [a]at e;cases o<;>first|(cases e; done)|skip
       rename_i ro l
       cases ro with
       |true=>cases e
       | false=>
        simp only [Option.elim_some,KO.onCells,zo,iT,if_false,Ki,Vd,bz,zH]at e;have q:Nat.add off (Nat.mul len sz)=off+len*sz:=rfl;rw [q]at e;split at e
        ·rename_i p;simp only;rw [iI p];exact⟨_,_,rfl,e⟩
        ·cases e
     ·rw [iH k]at e ⊢;obtain⟨_,e⟩:=Bm e;exact⟨_,_,rfl,e⟩
   ·rw [iH g]at e; cases e
  ·simp only [KV.onSl,zo,Nat.ble_eq,vX]at e;simp only;split at e
   ·rename_i m;split at e
    ·rw [iI m]; exact⟨_,_,rfl,e⟩
    ·cases e
   ·cases e
def VT {T:TypeId->TI} {d dx:TD} {el sz bytes:Nat} {src:KV->KH->(Nat->List KV->QR)->QR} (hd:d= .slice el sz bytes) (k:tJ src dx sz) (l:(T el).zok=true) (i:(T el).zero.cells.length=sz) (g:0<bytes) (s x:KV):
  QOk (Vg sz bytes src s x h K) (dL h T d dx s x) K:=by
 subst hd;intro r e;unfold Vg at e;rw [zo]at e;split at e
 ·rename_i j;obtain⟨n,new,a,e⟩:=k _ _ _ _ e;obtain⟨v,f,b,c⟩:=lX e;refine⟨v,f, ?_,c⟩;simp only [dL,l,i,g,j,and_self,if_true,a];exact b
 ·cases e
end
def QOk.mono {e:QR} {s a:Option (KV×KH)} {K:QK} (k:QOk e s K) (h:∀p,s=some p->a=some p):QOk e a K:=fun r q=>by
 obtain⟨v,f,b,c⟩:=k r q;exact⟨v,f,h _ b,c⟩
section
variable {h:KH} {K:QK} {E:KE}
def Yx (E:KE) (t:TypeId) (h:KH) (x i:KV):Option (KV×KH):=match i with| .int _ i=>(JP E t x i).map fun v=>(v,h)|_=>none
def eP {t:TypeId} (hd:(E.T t).d= .str) (x i:KV):QOk (nT x i h K) (Yx E t h x i) K:=by
 refine(oh hd x i).mono ?_;intro p e;cases i<;>first|(cases e; done)|skip
 rename_i k i;simp only [Q9]at e;simp only [Yx,JP]
 cases a:Yj (E.T t).d x i with
 |none=>rw [a]at e; cases e
 |some v=>rw [a]at e; exact e
def zal (n sz:Nat) (x i:KV) (h:KH) (K:QK):QR:=i.onInt (fun _ i=>Zw i fun i=>x.onAgg (fun a=>zq (Nat.blt i n) (f8 a (Nat.mul i sz) fun v=>v.hd fun v=>K v h) none) none) none
def zaD (n sz:Nat) (x i:KV) (h:KH) (K:QK):QR:=i.onInt (fun _ i=>Zw i fun i=>x.onAgg (fun a=>zq (Nat.blt i n) (VI a (Nat.mul i sz) fun l=>YT l sz fun l=>K (.agg l) h) none) none) none
def tz {t e:TypeId} {n sz:Nat} (hd:(E.T t).d= .arr n sz) (j:E.A t=some e) (f:(E.T e).ok=true∧(E.T e).d≠ .other) (x i:KV):
  QOk (zq (E.T e).d.agg (zaD n (E.T e).sz x i h K) (zal n (E.T e).sz x i h K)) (Yx E t h x i) K:=by
 have none1:∀x i,Yj (.arr n sz) x i=none:=fun x i=>by cases x<;>rfl
 rw [zo];split
 ·rename_i a;cases i<;>try exact .none _ _
  rename_i k i;show QOk (Zw i _) _ _;rw [b8]
  by_cases b:0<=i
  ·rw [iI b];cases x<;>try exact .none _ _
   rename_i g;simp only [KV.onAgg,zo,Zg,Zq,xn,iJ,Yx,JP,hd,none1,Xu,j]
   by_cases c:i.toNat<n
   ·have hcond:0<=i∧i<(n:Int)∧(E.T e).ok=true∧(E.T e).d≠ .other:=⟨b,by omega,f.1,f.2⟩
    rw [iI c];simp only [iI hcond,krd,a,if_true];have:Nat.mul i.toNat (E.T e).sz=i.toNat*(E.T e).sz:=rfl;rw [this];split
    ·exact .one rfl
    ·exact .none _ _
   ·rw [iH c]; exact .none _ _
  ·rw [iH b]; exact .none _ _
 ·rename_i a;rw [Bool.not_eq_true]at a;cases i<;>try exact .none _ _
  rename_i k i;show QOk (Zw i _) _ _;rw [b8]
  by_cases b:0<=i
  ·rw [iI b];cases x<;>try exact .none _ _
   rename_i g;simp only [KV.onAgg,zo,Vk,xn,iJ,Yx,JP,hd,none1,Xu,j]
   by_cases c:i.toNat<n
   ·have hcond:0<=i∧i<(n:Int)∧(E.T e).ok=true∧(E.T e).d≠ .other:=⟨b,by omega,f.1,f.2⟩
    rw [iI c];simp only [iI hcond,krd,a,if_false,iT];have:Nat.mul i.toNat (E.T e).sz=i.toNat*(E.T e).sz:=rfl;rw [this]
    cases g[i.toNat*(E.T e).sz]? with
    |none=>exact .none _ _
    |some v=>simp only [Option.elim_some,KV.hd_eq]; exact .one rfl
   ·rw [iH c]; exact .none _ _
  ·rw [iH b]; exact .none _ _
def oU (x:KV) (h:KH) (K:QK):QR:=x.onStr (fun n b=>VP b n 0 fun l=>uu h (.cells false l) fun i h=>K (.sl i 0 n none 1) h) none
def ou {T:TypeId->TI} {s d:TypeId} {e by_:Nat} (g:(T s).ok=true) (a:(T s).d= .str) (hd:(T d).d= .slice e 1 by_) (c:(T e).d= .int .u8) (x:KV):QOk (oU x h K) (kJ h T s d x) K:=by
 cases x<;>try exact .none _ _
 rename_i n b;simp only [oU,KV.onStr,XZ,vX];split
 ·rename_i f;refine .one ?_;simp only [kJ,g,if_true,hd];rw [iI ⟨c,a,f⟩]
 ·exact .none _ _
def DL (l:List KV) (K:Nat->QR):QR:=List.rec (motive:=fun _=>(Nat->QR)->QR) (fun K=>K 0) (fun v _ a K=>v.onInt (fun k n=>IntKind.rec (motive:=fun _=>QR->QR) (fun _=>none) (fun _=>none) (fun _=>none) (fun _=>none) (fun q=>q) (fun _=>none) (fun _=>none) (fun _=>none) k
 (Zw n fun n=>zq (Nat.blt n 256) (a fun s=>nfc (Nat.add n (Nat.mul 256 s)) K) none)) none) l K
def Jo:∀(l:List KV) (K:Nat->QR) (r:KV×KH),DL l K=some r->∃b,Yk l=some b∧K b=some r
 | [],K,r,q=>⟨0,rfl,q⟩
 | v ::l,K,r,q=>by
  cases v<;>first|(cases q; done)|skip
  rename_i k n;cases k<;>first|(cases q; done)|skip
  have q:(Zw n fun n=>zq (Nat.blt n 256) (DL l fun s=>nfc (Nat.add n (Nat.mul 256 s)) K) none)=some r:=q;rw [b8]at q;split at q
  ·rename_i f;rw [zo]at q;split at q
   ·rename_i e;obtain⟨b,c,a⟩:=Jo l _ r q;rw [zH]at a;refine⟨_, ?_,a⟩;simp only [Yk,c,e,cond_true]
   ·cases q
  ·cases q
def nE (x:KV) (h:KH) (K:QK):QR:=x.onSl (fun id a len c s=>zq (Nat.beq s 1) (gO h id a len fun l=>DL l fun b=>K (.str len b) h) none) (K (.str 0 0) h) (K (.str 0 0) h) none
def om {T:TypeId->TI} {s d:TypeId} {e sz by_:Nat} (g:(T s).ok=true) (a:(T s).d= .slice e sz by_) (hd:(T d).d= .str) (f:(T e).d= .int .u8) (x:KV):QOk (nE x h K) (kJ h T s d x) K:=by
 intro r q;cases x<;>first|(cases q; done)|skip
 ·rename_i id m len c n;simp only [nE,KV.onSl,zo,Nat.beq_eq]at q;split at q
  ·rename_i k;subst k;obtain⟨l,i,q⟩:=Zx q;obtain⟨b,j,q⟩:=Jo _ _ _ q;refine⟨_,_, ?_,q⟩;simp only [kJ,g,if_true,a,hd,f,i,j]
  ·cases q
 ·exact⟨_,_,by simp only [kJ,g,if_true,a,hd,f],q⟩
 ·exact⟨_,_,by simp only [kJ,g,if_true,a,hd,f],q⟩
def oV (h:KH) (id off n:Nat) (new:List KV) (K:QK):QR:=qg h id fun o=>o.onCells fun ro a=>zq ro none (tD new fun m=>Qi a off m new fun a=>pG h id (.cells false a) fun h=>K (.int .i64 (.ofNat n)) h)
def eA (sz:Nat) (src:KV->KH->(Nat->List KV->QR)->QR) (x y:KV) (h:KH) (K:QK):QR:=
 x.onSl (fun id a len c b=>zq (Nat.beq sz b) (src y h fun n new=>zq (Nat.ble n len) (oV h id a n new K) none) none) none none none
def Gq {d dx:TD} {el sz bytes:Nat} {src:KV->KH->(Nat->List KV->QR)->QR} (hd:d= .slice el sz bytes) (i:tJ src dx sz) (x y:KV):QOk (eA sz src x y h K) (Uf h d dx x y) K:=by
 subst hd;intro r q;cases x<;>first|(cases q; done)|skip
 rename_i id j len c k;simp only [eA,KV.onSl,zo,Nat.beq_eq]at q;split at q
 ·rename_i e;obtain⟨n,new,b,q⟩:=i _ _ _ _ q;simp only [Nat.ble_eq]at q;split at q
  ·rename_i f;simp only [oV,uO]at q
   cases a:h.get id with
   |none=>rw [a]at q; cases q
   | some o=>
    rw [a]at q;cases o<;>first|(cases q; done)|skip
    rename_i ro l
    cases ro with
    |true=>cases q
    | false=>
     simp only [Option.elim_some,KO.onCells,zo,iT,if_false,Ki,Vd,bz]at q;split at q
     ·rename_i g;refine⟨_,_, ?_,q⟩;simp only [Uf];rw [iI e,b];simp only;rw [iI f,a];simp only;rw [iI g];rfl
     ·cases q
  ·cases q
 ·cases q
def mfc (l:List (KV×KV×Nat)) (K:List (KV×KV×Nat)->QR):QR:=List.rec (motive:=fun _=>(List (KV×KV×Nat)->QR)->QR) (fun K=>K []) (fun x _ e K=>x.1.fc fun a=>x.2.1.fc fun b=>nfc x.2.2 fun c=>e fun r=>K ((a,b,c)::r)) l K
def o5:∀(l:List (KV×KV×Nat)) (K:List (KV×KV×Nat)->QR),mfc l K=K l
 | [],K=>rfl
 | (a,b,c)::r,K=>by
  have e:mfc ((a,b,c)::r) K=a.fc fun a=>b.fc fun b=>nfc c fun c=>mfc r fun r=>K ((a,b,c)::r):=rfl;rw [e]; simp only [KV.fc_eq,zH,o5 r]
def fU (l:List Nat) (K:List Nat->QR):QR:=List.rec (motive:=fun _=>(List Nat->QR)->QR) (fun K=>K []) (fun x _ b K=>nfc x fun a=>b fun r=>K (a::r)) l K
def PK:∀(l:List Nat) (K:List Nat->QR),fU l K=K l
 | [],K=>rfl
 | a::r,K=>by
  have e:fU (a::r) K=nfc a fun a=>fU r fun r=>K (a::r):=rfl;rw [e]; simp only [zH,PK r]
def KO.fc (o:KO) (K:KO->QR):QR:=KO.rec (motive:=fun _=>(KO->QR)->QR) (fun ro a K=>bfc ro fun ro=>KV.fcs a fun a=>K (.cells ro a)) (fun b c K=>mfc b fun b=>nfc c fun c=>K (.map b c)) (fun n s p K=>nfc n fun n=>nfc s fun s=>nfc p fun p=>K (.sit n s p))
 (fun m s l x K=>Gv m fun m=>nfc s fun s=>fU l fun l=>nfc x fun x=>K (.mit m s l x)) (fun l K=>K (.loop l)) (fun c K=>K (.defd c)) o K
def KO.fc_eq (o:KO) (K:KO->QR):o.fc K=K o:=by
 cases o with
 |cells ro a=>exact(Qz ro fun ro=>KV.fcs a fun a=>K (.cells ro a)).trans (KV.fcs_eq a fun a=>K (.cells ro a))
 |map b c=>exact(o5 b fun b=>nfc c fun c=>K (.map b c)).trans (zH c fun c=>K (.map b c))
 |sit n s p=>exact(zH n fun n=>nfc s fun s=>nfc p fun p=>K (.sit n s p)).trans ((zH s fun s=>nfc p fun p=>K (.sit n s p)).trans (zH p fun p=>K (.sit n s p)))
 |mit m s l x=>exact(P8 m fun m=>nfc s fun s=>fU l fun l=>nfc x fun x=>K (.mit m s l x)).trans ((zH s fun s=>fU l fun l=>nfc x fun x=>K (.mit m s l x)).trans ((PK l fun l=>nfc x fun x=>K (.mit m s l x)).trans (zH x fun x=>K (.mit m s l x))))
 |loop l=>rfl
 |defd c=>rfl
def Xl (s:Option (KV×Nat×KO)) (h:KH) (K:QK):QR:=Option.rec (motive:=fun _=>QR) none (fun p=>p.1.fc fun v=>nfc p.2.1 fun id=>p.2.2.fc fun o=>pG h id o fun h=>K v h) s
def da {s:Option (KV×Nat×KO)} {t:Option (KV×KH)} (e:t=s.map fun p=>(p.1,h.set p.2.1 (some p.2.2))):QOk (Xl s h K) t K:=by
 subst e
 cases s with
 |none=>exact .none _ _
 | some p=>
  obtain⟨v,id,o⟩:=p;simp only [Xl,KV.fc_eq,zH,KO.fc_eq,bz];exact .one rfl
def gm (h:KH) (T:TypeId->TI) (d:TD) (m k v:KV):Option (KV×Nat×KO):=
 match d,uG h m with
 | .map kt _,some (id,b,a)=>
  if qm (T kt).d k=true then
  match Zc (T kt).d k b 0 with
  |some (some (i,_))=>some (.tuple [],id, .map (b.modify i fun e=>(k,v,e.2.2)) a)
  |some none=>some (.tuple [],id, .map (b ++ [(k,v,a)]) (a+1))
  |none=>none
  else none
 |_,_=>none
def Zr (T:TypeId->TI) (d:TD) (m k v:KV):((jM h T d m k v).map fun h=>((.tuple []:KV),h))=(gm h T d m k v).map fun p=>(p.1,h.set p.2.1 (some p.2.2)):=by
 unfold jM gm
 cases e:uG h m with
 |none=>cases d<;>rfl
 | some p=>
  obtain⟨id,c,b⟩:=p;cases d<;>first|rfl|skip
  rename_i kt et;simp only
  by_cases a:qm (T kt).d k=true
  ·rw [iI a,iI a]
   cases Zc (T kt).d k c 0 with
   |none=>rfl
   | some q=>cases q with
    |none=>rfl
    |some ij=>rfl
  ·rw [iH a,iH a]; rfl
def YB (h:KH) (T:TypeId->TI) (Z:TypeId->KV) (d:TD) (m k:KV):Option (KV×Nat×KO):=
 match d,uG h m with
 | .map kt et,some (id,b,a)=>
  if qm (T kt).d k=true∧(T et).zok=true then
  match Zc (T kt).d k b 0 with
  |some (some (i,v))=>some (.tuple [v, .int .i64 (match b[i]? with|some e=>e.2.2|none=>0)],id, .map (b.modify i fun e=>(k,e.2.1,e.2.2)) a)
  |some none=>some (.tuple [Z et, .int .i64 a],id, .map (b ++ [(k,Z et,a)]) (a+1))
  |none=>none
  else none
 |_,_=>none
def U3 (T:TypeId->TI) (Z:TypeId->KV) (d:TD) (m k:KV):bi h T Z d m k=(YB h T Z d m k).map fun p=>(p.1,h.set p.2.1 (some p.2.2)):=by
 unfold bi YB
 cases e:uG h m with
 |none=>cases d<;>rfl
 | some p=>
  obtain⟨id,c,b⟩:=p;cases d<;>first|rfl|skip
  rename_i kt et;simp only
  by_cases a:qm (T kt).d k=true∧(T et).zok=true
  ·rw [iI a,iI a]
   cases Zc (T kt).d k c 0 with
   |none=>rfl
   | some q=>cases q with
    |none=>rfl
    |some ij=>rfl
  ·rw [iH a,iH a]; rfl
def pi (h:KH) (m s v:KV):Option (KV×Nat×KO):=
 match uG h m,s with
 | some (id,c,a), .int _ b=>if 0<=b then(match j9 b.toNat c 0 with
  |some i=>some (.tuple [],id, .map (c.modify i fun e=>(e.1,v,e.2.2)) a)
  |none=>none)else none
 |_,_=>none
def W4 (m s v:KV):((jX h m s v).map fun h=>((.tuple []:KV),h))=(pi h m s v).map fun p=>(p.1,h.set p.2.1 (some p.2.2)):=by
 unfold jX pi
 cases f:uG h m with
 |none=>rfl
 | some p=>
  obtain⟨id,e,c⟩:=p;cases s<;>first|rfl|skip
  rename_i k b;simp only
  by_cases a:0<=b
  ·rw [iI a,iI a];cases j9 b.toNat e 0<;>rfl
  ·rw [iH a,iH a]; rfl
def ZT (h:KH) (m:KV):Option (KV×Nat×KO):=match uG h m with
 |some (id,_,a)=>some (.tuple [],id, .map [] a)
 |none=>none
def DN (m:KV):QOk (Xl (ZT h m) h K) ((XM h m).map fun h=>(.tuple [],h)) K:=by
 refine(da (t:=(ZT h m).map fun p=>(p.1,h.set p.2.1 (some p.2.2))) rfl).mono ?_;intro p e
 cases m with
 |map i=>rw [<-e]; unfold XM ZT; simp only; cases uG h (.map i)<;>rfl
 |nilmap=>cases e
 |_=>cases e
def VB (h:KH) (it:KV) (isString:Bool):Option (KV×Nat×KO):=
 match it with
 | .ptr id 0=>match h.get id,isString with
  | some (.sit n s a),true=>
   if a<n then
    (if de s a<128 then some (.tuple [.bool true, .int .i64 a, .int .i32 (de s a)],id, .sit n s (a+1))else none)
   else none
  | some (.mit (some m) since seen last),false=>match h.get m with
   | some (.map f c)=>
    if seen.isEmpty=false∧f.isEmpty=false∧f.all (fun e=>Nat.ble last e.2.2)=true then none else
    match JJ seen f with
    | [(k,v,b)]=>if b<since then some (.tuple [.bool true,k,v],id, .mit (some m) since (seen ++ [b]) c)else none
    |_=>none
   |_=>none
  |_,_=>none
 |_=>none
def rz (s:Bool) (it:KV) (h:KH) (K:QK):QR:=Option.rec (motive:=fun _=>QR) (Option.rec (motive:=fun _=>QR) none (fun p=>p.1.fc fun v=>zq (uK v Wz) (K v h) none) (pX h it s)) (fun _=>Xl (VB h it s) h K) (VB h it s)
def ff {it:KV} {s:Bool} {p:KV×Nat×KO} (e:VB h it s=some p):pX h it s=some (p.1,h.set p.2.1 (some p.2.2)):=by
 unfold VB at e;unfold pX;split at e
 ·rename_i id;simp only;split at e
  ·rename_i n t q a;rw [a];simp only;split at e
   ·rename_i o;rw [iI o];split at e
    ·rename_i f;rw [iI f];cases e; rfl
    ·cases e
   ·cases e
  ·rename_i m since seen last a;rw [a];simp only;split at e
   ·rename_i r c l;rw [l];simp only;split at e
    ·cases e
    ·rename_i i;rw [iH i];split at e
     ·rename_i k v b j;rw [j];simp only;split at e
      ·rename_i g;rw [iI g];cases e; rfl
      ·cases e
     ·cases e
   ·cases e
  ·cases e
 ·cases e
def GY {it:KV} {s:Bool} {h':KH} (e:pX h it s=some (Wz,h')):h'=h:=by
 unfold pX at e;have ne:∀ {a:KV} {l:List KV},KV.tuple (.bool true::a::l)≠Wz:=fun h=>by simp [Wz]at h
 split at e
 ·split at e
  ·split at e
   ·split at e
    ·simp only [iL,iW]at e; exact absurd e.1 ne
    ·cases e
   ·simp only [iL,iW]at e; exact e.2.symm
  ·simp only [iL,iW]at e; exact e.2.symm
  ·split at e
   ·split at e
    ·cases e
    ·split at e
     ·simp only [iL,iW]at e; exact e.2.symm
     ·split at e
      ·simp only [iL,iW]at e; exact absurd e.1 ne
      ·cases e
     ·cases e
   ·cases e
  ·cases e
 ·cases e
def od (s:Bool) (it:KV):QOk (rz s it h K) (pX h it s) K:=by
 unfold rz
 cases b:VB h it s with
 |some p=>exact da (by rw [ff b]; rfl)
 | none=>
  intro r q
  cases a:pX h it s with
  |none=>rw [a]at q; cases q
  | some p=>
   obtain⟨v,e⟩:=p;rw [a]at q;simp only [KV.fc_eq,zo]at q;split at q
   ·rename_i c;have:=br _ _ c;subst this;have:=GY a;subst this;exact⟨_,_,rfl,q⟩
   ·cases q
def PL (h:KH) (K:QK):QR:=uu h (.map [] 0) fun i h=>K (.map i) h
def Gr (x:KV) (h:KH) (K:QK):QR:=x.onInt (fun _ _=>uu h (.map [] 0) fun i h=>K (.map i) h) none
def rh (h:KH) (d:TD) (x:KV):Option KO:=match d,x with
 | .str, .str n s=>some (.sit n s 0)
 | .map _ _, .nilmap=>some (.mit none 0 [] 0)
 | .map _ _,m=>match uG h m with
  |some (id,_,a)=>some (.mit (some id) a [] a)
  |none=>none
 |_,_=>none
def oL (d:TD) (x:KV) (h:KH) (K:QK):QR:=Option.rec (motive:=fun _=>QR) none (fun o=>o.fc fun o=>uu h o fun i h=>K (.ptr i 0) h) (rh h d x)
def oH (d:TD) (x:KV):QOk (oL d x h K) (WO h d x) K:=by
 have fin:∀(o:KO) (s:Option (KV×KH)),(wY h=true->s=some (.ptr h.next 0,h.push o))->QOk (o.fc fun o=>uu h o fun i h=>K (.ptr i 0) h) s K:=by
  intro o s c;rw [KO.fc_eq,vX];split
  ·rename_i a; exact .one (c a)
  ·exact .none _ _
 unfold oL;cases d<;>first|exact .none _ _|skip
 ·cases x<;>first|exact .none _ _|skip
  exact fin _ _ fun a=>by simp only [WO,a,if_true]
 ·cases x<;>first|exact .none _ _|skip
  ·rename_i i;simp only [rh]
   cases b:uG h (.map i)with
   |none=>exact .none _ _
   |some p=>exact fin _ _ fun a=>by simp only [WO,a,if_true,b]
  ·exact fin _ _ fun a=>by simp only [WO,a,if_true]
def Vw (z:List KV) (n:Nat) (K:List KV->QR):QR:=Nat.rec (motive:=fun _=>List KV->(List KV->QR)->QR) (fun _ K=>K []) (fun _ a z K=>a z fun r=>XT z r K) n z K
def Jq (z:List KV):∀(n:Nat) (K:List KV->QR),Vw z n K=K (jh n z)
 |0,K=>rfl
 | n+1,K=>by
  have e:Vw z (n+1) K=Vw z n fun r=>XT z r K:=rfl;rw [e,Jq z n,pj];simp only [jh,List.replicate_succ,List.flatten_cons]
def zaa (sz bytes:Nat) (z:List KV) (l c:KV) (h:KH) (K:QK):QR:=l.onInt (fun _ l=>Zw l fun l=>c.onInt (fun _ c=>Zw c fun c=>zq (Nat.ble l c&&Nat.ble (Nat.mul bytes c) 140737488355328&&Nat.ble c 140737488355328) (Vw z c fun a=>uu h (.cells false a) fun i h=>K (.sl i 0 l (some c) sz) h) none) none) none
def mI {T:TypeId->TI} {Z:TypeId->KV} {d:TD} {e sz bytes:Nat} {z:List KV} (hd:d= .slice e sz bytes) (p:(T e).zok=true) (m:(Z e).cells.length=sz) (a:(Z e).cells=z) (l c:KV):QOk (zaa sz bytes z l c h K) (Ur h T Z d l c) K:=by
 subst hd a;intro r q;cases l<;>first|(cases q; done)|skip
 rename_i t l;have q:(Zw l fun l=>c.onInt (fun _ c=>Zw c fun c=>zq (Nat.ble l c&&Nat.ble (Nat.mul bytes c) 140737488355328&&Nat.ble c 140737488355328) (Vw (Z e).cells c fun f=>uu h (.cells false f) fun i h=>K (.sl i 0 l (some c) sz) h) none) none)=some r:=q;rw [b8]at q;split at q
 ·rename_i j;cases c<;>first|(cases q; done)|skip
  rename_i v c _;simp only [KV.onInt,b8,zo,Jq,vX,iF,Nat.ble_eq]at q;split at q
  ·rename_i s;split at q
   ·rename_i b;split at q
    ·rename_i o;refine⟨_,_, ?_,q⟩;simp only [Ur];have n:Nat.mul bytes c.toNat=bytes*c.toNat:=rfl;rw [n]at b
     have k:(bytes:Int)*c<=140737488355328:=by
      have g:(c.toNat:Int)=c:=by omega
      rw [<-g,<-Int.natCast_mul];have:=b.1.2;omega
     rw [iI ⟨j,by omega,k,by omega,p,m,o⟩]
    ·cases q
   ·cases q
  ·cases q
 ·cases q
end
def j4 (d:TD):Bool:=match d with| .other=>true|_=>false
def bv (d:TD):j4 d=false->d≠ .other:=by intro h e; subst e; cases h
section
variable {S:Type} {E:KE}
def PZ (E:KE) (t:TypeId) (a:Operand) (K:QOp->S) (F:S):S:=
 zq ((E.T t).ok && !(j4 (E.T t).d)) (zq (E.T t).d.agg (nfc (E.T t).sz fun n=>cO E.ng a fun a=>K (.f1 (V0 n) a)) (cO E.ng a fun a=>K (.f1 V4 a))) F
def nc (t:TypeId) (a:Operand) (K:QOp->S) (F:S):PZ E t a K F=F∨∃q:QOp,q.okE E (.load t a)∧PZ E t a K F=K q:=by
 unfold PZ;simp only [zo,zH,iF,Bool.not_eq_true']
 by_cases c:(E.T t).ok=true∧(j4 (E.T t).d)=false
 ·rw [iI c];have e:(E.T t).ok=true∧(E.T t).d≠ .other:=⟨c.1,bv _ c.2⟩
  by_cases b:(E.T t).d.agg=true
  ·rw [iI b];exact .inr (d8 (f:=fun h v=>(pE h v (E.T t).sz true).map fun v=>(v,h)) (fun v h K=>JH v _) (fun l h=>by simp only [yl,iI e,b]) K)
  ·rw [iH b];rw [Bool.not_eq_true]at b;exact .inr (d8 (f:=fun h v=>(pE h v (E.T t).sz false).map fun v=>(v,h)) (fun v h K=>JM v _) (fun l h=>by simp only [yl,iI e,b]) K)
 ·rw [iH c]; exact .inl rfl
def pf (E:KE) (s:TypeId) (x:Operand) (f:Nat) (K:QOp->S) (F:S):S:=
 match(E.T s).d with
 | .struct a=>match a[f]? with
  |some (k,n)=>zq (Nat.beq n 0) F (nfc k fun k=>cO E.ng x fun x=>K (.f1 (rk k) x))
  |none=>F
 |_=>F
def UW (s:TypeId) (x:Operand) (f:Nat) (K:QOp->S) (F:S):pf E s x f K F=F∨∃q:QOp,q.okE E (.fieldAddr s x f)∧pf E s x f K F=K q:=by
 unfold pf;split
 ·rename_i c hd;split
  ·rename_i k n b;rw [zo,zH];split
   ·exact .inl rfl
   ·rename_i a;rw [Nat.beq_eq]at a;exact .inr (d8 (f:=fun h v=>(qz (E.T s).d v f).map fun v=>(v,h)) (fun v h K=>lQ hd b a v) (fun l h=>rfl) K)
  ·exact .inl rfl
 ·exact .inl rfl
def Kt (E:KE) (s:TypeId) (x:Operand) (f:Nat) (K:QOp->S) (F:S):S:=
 match(E.T s).d with
 | .struct b=>match b[f]?,(E.T s).fts[f]? with
  |some (a,_),some ft=>zq ((E.T ft).ok && !(j4 (E.T ft).d)) (nfc a fun a=>zq (E.T ft).d.agg (nfc (E.T ft).sz fun n=>cO E.ng x fun x=>K (.f1 (re a n) x)) (cO E.ng x fun x=>K (.f1 (mj a) x))) F
  |_,_=>F
 |_=>F
def eO (s:TypeId) (x:Operand) (f:Nat) (K:QOp->S) (F:S):Kt E s x f K F=F∨∃q:QOp,q.okE E (.field s x f)∧Kt E s x f K F=K q:=by
 unfold Kt;split
 ·rename_i j hd;split
  ·rename_i i n ft e g;simp only [zo,zH,iF,Bool.not_eq_true']
   by_cases b:(E.T ft).ok=true∧(j4 (E.T ft).d)=false
   ·rw [iI b];have c:(E.T ft).ok=true∧(E.T ft).d≠ .other:=⟨b.1,bv _ b.2⟩
    by_cases a:(E.T ft).d.agg=true
    ·rw [iI a];exact .inr (d8 (f:=fun h v=>(pq (E.T s) E.T v f).map fun v=>(v,h)) (fun v h K=>nk hd e g c a v) (fun l h=>rfl) K)
    ·rw [iH a];rw [Bool.not_eq_true]at a;exact .inr (d8 (f:=fun h v=>(pq (E.T s) E.T v f).map fun v=>(v,h)) (fun v h K=>oQ hd e g c a v) (fun l h=>rfl) K)
   ·rw [iH b]; exact .inl rfl
  ·exact .inl rfl
 ·exact .inl rfl
def dR (E:KE) (t:TypeId) (x i:Operand) (K:QOp->S) (F:S):S:=
 match(E.T t).d with
 | .slice _ a _=>nfc a fun a=>cO E.ng x fun x=>cO E.ng i fun i=>K (.f2 (tS a) x i)
 | .arr n a=>nfc n fun n=>nfc a fun a=>cO E.ng x fun x=>cO E.ng i fun i=>K (.f2 (zay n a) x i)
 |_=>F
def U7 (t:TypeId) (x i:Operand) (K:QOp->S) (F:S):dR E t x i K F=F∨∃q:QOp,q.okE E (.indexAddr t x i)∧dR E t x i K F=K q:=by
 unfold dR;split
 ·rename_i hd;rw [zH];exact .inr (kp (f:=fun h x i=>JF (E.T t).d h x i) (fun v u h K=>oK hd v u) (fun l h=>rfl) K)
 ·rename_i hd;simp only [zH];exact .inr (kp (f:=fun h x i=>JF (E.T t).d h x i) (fun v u h K=>rI hd v u) (fun l h=>rfl) K)
 ·exact .inl rfl
def zes (g:Int->Int->Int) (x y:KV) (h:KH) (K:QK):QR:=qii x y fun k a b=>K (.int k (k.wrap (g a b))) h
def oa (x y:KV) (h:KH) (K:QK):QR:=qii x y fun k a b=>zq (o8 b 0) none (K (.int k (Int.tmod a b)) h)
def mt {xt:TypeId} (f:(E.T xt).d≠ .other) {h:KH} {K:QK} (x y:KV):QOk (oa x y h K) (uz E h .rem xt x y) K:=by
 unfold oa;cases x<;>try exact .none _ _
 cases y<;>try exact .none _ _
 rename_i k a g b;show QOk (zq _ _ _) _ _;rw [zo]
 by_cases e:k=g
 ·subst e;rw [iI ((Vh _ _).2 rfl)];show QOk (zq (o8 b 0) none _) _ _;rw [zo];split
  ·exact .none _ _
  ·rename_i c;rw [Kl]at c;have c:b≠0:=by simpa using c
   exact .one (Jk f (by simp) (by simp) (show Qf k .rem a b=_ by simp only [Qf,QP,iH c,iG]; rfl))
 ·rw [iH (fun x=>e ((Vh _ _).1 x))]; exact .none _ _
def rP (E:KE) (op:BinOp) (t:TypeId) (x y:Operand) (K:QOp->S) (F:S):S:=
 zq (j4 (E.T t).d) F (match(E.T t).d,op with
  | .int _, .rem=>zq (Nat.beq E.ng 0) (cO E.ng x fun x=>cO E.ng y fun y=>K (.f2 oa x y)) F
  | .int _, .add=>zq (Nat.beq E.ng 0) (cO E.ng x fun x=>cO E.ng y fun y=>K (.f2 (zes (· + ·)) x y))<|cO E.ng x fun x=>cO E.ng y fun y=>K (.f2 (qar zaj) x y)
  | .int _, .sub=>cO E.ng x fun x=>cO E.ng y fun y=>K (.f2 (qar zaI) x y)
  | .int _, .mul=>cO E.ng x fun x=>cO E.ng y fun y=>K (.f2 (qar zaK) x y)
  | .int _, .eql=>cO E.ng x fun x=>cO E.ng y fun y=>K (.f2 (G6 o8) x y)
  | .int _, .neq=>cO E.ng x fun x=>cO E.ng y fun y=>K (.f2 (G6 fun a b=> !(o8 a b)) x y)
  | .int _, .lss=>cO E.ng x fun x=>cO E.ng y fun y=>K (.f2 (G6 mX) x y)
  | .int _, .leq=>cO E.ng x fun x=>cO E.ng y fun y=>K (.f2 (G6 fun a b=> !(mX b a)) x y)
  | .int _, .gtr=>cO E.ng x fun x=>cO E.ng y fun y=>K (.f2 (G6 fun a b=>mX b a) x y)
  | .int _, .geq=>cO E.ng x fun x=>cO E.ng y fun y=>K (.f2 (G6 fun a b=> !(mX a b)) x y)
  | .str, .add=>cO E.ng x fun x=>cO E.ng y fun y=>K (.f2 zba x y)
  | .str, .eql=>cO E.ng x fun x=>cO E.ng y fun y=>K (.f2 zc2 x y)
  | .str, .neq=>cO E.ng x fun x=>cO E.ng y fun y=>K (.f2 zcX x y)
  |_,_=>F)
def sB (op:BinOp) (t:TypeId) (x y:Operand) (yt:TypeId) (K:QOp->S) (F:S):rP E op t x y K F=F∨∃q:QOp,q.okE E (.binOp op t x y yt)∧rP E op t x y K F=K q:=by
 unfold rP;rw [zo]
 by_cases c:(j4 (E.T t).d)=true
 ·rw [iI c]; exact .inl rfl
 ·rw [iH c];have c:=bv _ (Bool.not_eq_true _▸c);split
  ·rw [zo];split
   ·exact .inr (kp (f:=fun h x y=>uz E h .rem t x y) (fun v u h K=>mt c v u) (fun l h=>rfl) K)
   ·exact .inl rfl
  ·rw [zo];split
   ·exact .inr (kp (f:=fun h x y=>uz E h .add t x y) (fun v u h K=>Pg c (by simp) (by simp) (fun k a b=>⟨_,rfl,rfl⟩) v u) (fun l h=>rfl) K)
   exact .inr (kp (f:=fun h x y=>uz E h .add t x y) (fun v u h K=>Di c (by simp) (by simp) (g:=(· + ·)) nF (fun _ _ _=>rfl) v u) (fun l h=>rfl) K)
  ·exact .inr (kp (f:=fun h x y=>uz E h .sub t x y) (fun v u h K=>Di c (by simp) (by simp) (g:=(· - ·)) nu (fun _ _ _=>rfl) v u) (fun l h=>rfl) K)
  ·exact .inr (kp (f:=fun h x y=>uz E h .mul t x y) (fun v u h K=>Di c (by simp) (by simp) (g:=(· * ·)) lV (fun _ _ _=>rfl) v u) (fun l h=>rfl) K)
  ·exact .inr (kp (f:=fun h x y=>uz E h .eql t x y) (fun v u h K=>ZH c (by simp) (by simp) (fun _ a b=>by rw [Kl]; rfl) v u) (fun l h=>rfl) K)
  ·exact .inr (kp (f:=fun h x y=>uz E h .neq t x y) (fun v u h K=>ZH c (by simp) (by simp) (fun _ a b=>by rw [Kl]; rfl) v u) (fun l h=>rfl) K)
  ·exact .inr (kp (f:=fun h x y=>uz E h .lss t x y) (fun v u h K=>ZH c (by simp) (by simp) (fun _ a b=>by rw [Vu]; rfl) v u) (fun l h=>rfl) K)
  ·exact .inr (kp (f:=fun h x y=>uz E h .leq t x y) (fun v u h K=>ZH c (by simp) (by simp) (fun _ a b=>by
    rw [Vu]; show some (KV.bool (decide (a<=b)))=_; congr 2; rw [Bool.eq_iff_iff]; simp) v u) (fun l h=>rfl) K)
  ·exact .inr (kp (f:=fun h x y=>uz E h .gtr t x y) (fun v u h K=>ZH c (by simp) (by simp) (fun _ a b=>by rw [Vu]; rfl) v u) (fun l h=>rfl) K)
  ·exact .inr (kp (f:=fun h x y=>uz E h .geq t x y) (fun v u h K=>ZH c (by simp) (by simp) (fun _ a b=>by
    rw [Vu]; show some (KV.bool (decide (a≥b)))=_; congr 2; rw [Bool.eq_iff_iff]; simp) v u) (fun l h=>rfl) K)
  ·exact .inr (kp (f:=fun h x y=>uz E h .add t x y) (fun v u h K=>sX c v u) (fun l h=>rfl) K)
  ·exact .inr (kp (f:=fun h x y=>uz E h .eql t x y) (fun v u h K=>sT c v u) (fun l h=>rfl) K)
  ·exact .inr (kp (f:=fun h x y=>uz E h .neq t x y) (fun v u h K=>rQ c v u) (fun l h=>rfl) K)
  ·exact .inl rfl
def sS (E:KE) (t:TypeId) (x:Operand) (K:QOp->S) (F:S):S:=match(E.T t).d with
 | .str=>cO E.ng x fun x=>K (.f1 tP x)
 | .slice .. => cO E.ng x fun x=>K (.f1 tY x)
 |_=>F
def tv (t:TypeId) (x:Operand) (K:QOp->S) (F:S):sS E t x K F=F∨∃q:QOp,q.okE E (.call ⟨.builtin .len, #[x], #[t]⟩)∧sS E t x K F=K q:=by
 unfold sS;split
 ·rename_i hd;exact .inr (d8 (f:=fun h v=>(Dd (E.T t).d v).map fun v=>(v,h)) (fun v h K=>rE hd v) (fun l h=>by simp only [yl,bB,List.map_cons,List.map_nil,hd]) K)
 ·rename_i hd;exact .inr (d8 (f:=fun h v=>(Dd (E.T t).d v).map fun v=>(v,h)) (fun v h K=>lG hd v) (fun l h=>by simp only [yl,bB,List.map_cons,List.map_nil,hd]) K)
 ·exact .inl rfl
def Vc (E:KE) (t tx:TypeId) (s x:Operand) (K:QOp->S) (F:S):S:=match(E.T t).d with
 | .slice e a bytes=>zq ((E.T e).zok&&Nat.beq (E.T e).zero.cells.length a&&Nat.blt 0 bytes) (nfc a fun a=>nfc bytes fun bytes=>match(E.T tx).d with
  | .slice _ b _=>zq (Nat.beq b a) (cO E.ng s fun s=>cO E.ng x fun x=>K (.f2 (Vg a bytes (cD a)) s x)) F
  | .str=>zq (Nat.beq a 1) (cO E.ng s fun s=>cO E.ng x fun x=>K (.f2 (Vg a bytes PF) s x)) F
  |_=>F) F
 |_=>F
def DV (t tx:TypeId) (s x:Operand) (K:QOp->S) (F:S):Vc E t tx s x K F=F∨∃q:QOp,q.okE E (.call ⟨.builtin .append, #[s,x], #[t,tx]⟩)∧Vc E t tx s x K F=K q:=by
 unfold Vc;split
 ·rename_i e g bytes hd;simp only [zo,zH,iF,Nat.beq_eq,xn,iJ]
  by_cases a:((E.T e).zok=true∧(E.T e).zero.cells.length=g)∧0<bytes
  ·rw [iI a];split
   ·rename_i k i j c
    by_cases b:i=g
    ·rw [iI b];subst b;exact .inr (kp (f:=fun h s x=>dL h E.T (E.T t).d (E.T tx).d s x) (fun v u h K=>VT hd (K6 c) a.1.1 a.1.2 a.2 v u) (fun l h=>rfl) K)
    ·rw [iH b]; exact .inl rfl
   ·rename_i c
    by_cases b:g=1
    ·rw [iI b];subst b;exact .inr (kp (f:=fun h s x=>dL h E.T (E.T t).d (E.T tx).d s x) (fun v u h K=>VT hd (BD c) a.1.1 a.1.2 a.2 v u) (fun l h=>rfl) K)
    ·rw [iH b]; exact .inl rfl
   ·exact .inl rfl
  ·rw [iH a]; exact .inl rfl
 ·exact .inl rfl
def Ut (E:KE) (o:Op) (K:QOp->S) (F:S):S:=zq (Z3 E.T o) (K (.old fun l h=>yl E l h o)) F
def ZF (o:Op) (K:QOp->S) (F:S):Ut E o K F=F∨∃q:QOp,q.okE E o∧Ut E o K F=K q:=by
 unfold Ut;rw [zo];split
 ·rename_i a;exact .inr ⟨.old fun l h=>yl E l h o,fun e l h K=>sN fun v b e=>Yc a e,rfl⟩
 ·exact .inl rfl
def cOp (E:KE) (o:Op) (K:QOp->S) (F:S):S:=match o with
 | .move x=>cO E.ng x fun x=>K (.f1 Pz x)
 | .assign x=>cO E.ng x fun x=>K (.f1 Pz x)
 | .pick c a b=>cO E.ng c fun c=>cO E.ng a fun a=>cO E.ng b fun b=>K (.f3 l6 c a b)
 | .alloc e=>zq ((E.T e).zok&&KV.isCells (E.Z e).cells) (KV.fcs (E.Z e).cells fun l=>K (.f0 (QY l))) F
 | .box _ x=>cO E.ng x fun x=>K (.f1 zaZ x)
 | .build t ps=>Q4 E t ps.toList K F
 | .buildSlice t len ps=>Ve E t len ps.toList K F
 | .load t a=>PZ E t a K F
 | .store t a x=>zq (E.T t).ok (nfc (E.T t).sz fun n=>cO E.ng a fun a=>cO E.ng x fun x=>K (.f2 (nD n) a x)) F
 | .fieldAddr s x f=>pf E s x f K F
 | .field s x f=>Kt E s x f K F
 | .indexAddr t x i=>dR E t x i K F
 | .index t x i=>match(E.T t).d,E.A t with
  | .str,_=>cO E.ng x fun x=>cO E.ng i fun i=>K (.f2 nT x i)
  | .arr n _,some e=>zq ((E.T e).ok && !(j4 (E.T e).d)) (nfc n fun n=>nfc (E.T e).sz fun g=>cO E.ng x fun x=>cO E.ng i fun i=>K (.f2 (fun x i h K=>zq (E.T e).d.agg (zaD n g x i h K) (zal n g x i h K)) x i)) F
  |_,_=>Ut E (.index t x i) K F
 | .binOp op t x y yt=>rP E op t x y K (Ut E (.binOp op t x y yt) K F)
 | .unOp op t x=>match op with| .not=>cO E.ng x fun x=>K (.f1 zdp x)|op=>Ut E (.unOp op t x) K F
 | .convert s d x=>match(E.T d).d,(E.T s).d with
  | .int k,_=>zq (E.T s).ok (cO E.ng x fun x=>K (.f1 (zb9 k) x)) F
  | .slice e 1 _, .str=>zq (E.T s).ok (match(E.T e).d with| .int .u8=>cO E.ng x fun x=>K (.f1 oU x)|_=>F) F
  | .str, .slice e _ _=>zq (E.T s).ok (match(E.T e).d with| .int .u8=>cO E.ng x fun x=>K (.f1 nE x)|_=>F) F
  |_,_=>Ut E (.convert s d x) K F
 | .makeMap t r=>match r,(E.T t).d with
  |none,_=>K (.f0 PL)
  |some x, .map _ _=>cO E.ng x fun x=>K (.f1 Gr x)
  |_,_=>F
 | .makeSlice t n c=>match(E.T t).d with
  | .slice e g bytes=>zq ((E.T e).zok&&Nat.beq (E.Z e).cells.length g) (nfc g fun g=>nfc bytes fun bytes=>KV.fcs (E.Z e).cells fun z=>cO E.ng n fun n=>cO E.ng c fun c=>K (.f2 (zaa g bytes z) n c)) F
  |_=>F
 | .mapUpdate t m k x=>cO E.ng m fun m=>cO E.ng k fun k=>cO E.ng x fun x=>K (.f3 (fun m k x h K=>Xl (gm h E.T (E.T t).d m k x) h K) m k x)
 | .insert t m k x=>cO E.ng m fun m=>cO E.ng k fun k=>cO E.ng x fun x=>K (.f3 (fun m k x h K=>Xl (gm h E.T (E.T t).d m k x) h K) m k x)
 | .mapEntry t m k=>cO E.ng m fun m=>cO E.ng k fun k=>K (.f2 (fun m k h K=>Xl (YB h E.T E.Z (E.T t).d m k) h K) m k)
 | .entryStore t m s x=>cO E.ng m fun m=>cO E.ng s fun s=>cO E.ng x fun x=>K (.f3 (fun m s x h K=>Xl (pi h m s x) h K) m s x)
 | .range t x=>cO E.ng x fun x=>K (.f1 (oL (E.T t).d) x)
 | .next it s=>cO E.ng it fun it=>K (.f1 (rz s) it)
 | .extract x i=>nfc i fun i=>cO E.ng x fun x=>K (.f1 (zbx i) x)
 | .call ⟨.builtin .len,⟨[x]⟩,⟨[t]⟩⟩=>sS E t x K (Ut E (.call ⟨.builtin .len, #[x], #[t]⟩) K F)
 | .call ⟨.builtin .append,⟨[s,x]⟩,⟨[t,tx]⟩⟩=>Vc E t tx s x K F
 | .call ⟨.builtin .copy,⟨[s,x]⟩,⟨[t,tx]⟩⟩=>match(E.T t).d,(E.T tx).d with
  | .slice _ g _, .slice _ j _=>zq (Nat.beq j g) (nfc g fun g=>cO E.ng s fun s=>cO E.ng x fun x=>K (.f2 (eA g (cD g)) s x)) F
  | .slice _ 1 _, .str=>cO E.ng s fun s=>cO E.ng x fun x=>K (.f2 (eA 1 PF) s x)
  |_,_=>F
 | .call ⟨.builtin .clear,⟨[x]⟩,⟨[t]⟩⟩=>match(E.T t).d with
  | .map _ _=>cO E.ng x fun x=>K (.f1 (fun m h K=>Option.rec (motive:=fun _=>QR) none (fun _=>Xl (ZT h m) h K) (ZT h m)) x)
  |_=>F
 |o=>Ut E o K F
def QL (o:Op) (K:QOp->S) (F:S):cOp E o K F=F∨∃q:QOp,q.okE E o∧cOp E o K F=K q:=by
 unfold cOp;split
 ·exact .inr (d8 (f:=fun h v=>some (v,h)) (fun v h K=>B7 v) (fun l h=>rfl) K)
 ·exact .inr (d8 (f:=fun h v=>some (v,h)) (fun v h K=>B7 v) (fun l h=>rfl) K)
 ·exact .inr (sk (f:=fun h c a b=>Pe h c a b) (fun v u w h K=>lF v u w) (fun l h=>rfl) K)
 ·rename_i e;simp only [zo,KV.fcs_eq,iF];split
  ·rename_i g;exact .inr ⟨.f0 (QY (E.Z e).cells),fun en l h K=>fw g.1 rfl g.2,rfl⟩
  ·exact .inl rfl
 ·exact .inr (d8 (f:=fun h x=>if KV.isCells x.cells=true∧wY h=true then some (.ptr h.next 0,h.push (.cells false x.cells))else none) (fun v h K=>tj v) (fun l h=>rfl) K)
 ·exact eM _ _ _ _
 ·exact DM _ _ _ _ _
 ·exact nc _ _ _ _
 ·rename_i t a x;simp only [zo,zH];split
  ·rename_i g;exact .inr (kp (f:=fun h p v=>(Wh h p v (E.T t).sz).map fun h=>(.tuple [],h)) (fun v u h K=>fF _ v u) (fun l h=>by simp only [yl,iI g]) K)
  ·exact .inl rfl
 ·exact UW _ _ _ _ _
 ·exact eO _ _ _ _ _
 ·exact U7 _ _ _ _ _
 ·rename_i t x i;split
  ·rename_i hd;exact .inr (kp (f:=fun h x i=>Yx E t h x i) (fun v u h K=>eP hd v u) (fun l h=>rfl) K)
  ·rename_i n H e hd I;simp only [zo (b:=_&&_),zH,iF,Bool.not_eq_true'];split
   ·rename_i g;exact .inr (kp (f:=fun h x i=>Yx E t h x i) (fun v u h K=>tz hd I ⟨g.1,bv _ g.2⟩ v u) (fun l h=>rfl) K)
   ·exact .inl rfl
  ·exact ZF _ _ _
 ·rename_i op t x y yt;rcases sB (E:=E) op t x y yt K (Ut E (.binOp op t x y yt) K F)with h|h
  ·rw [h]; exact ZF _ _ _
  ·exact .inr h
 ·split
  ·exact .inr (d8 (f:=fun h v=>(kun .not v).map fun v=>(v,h)) (fun v h K=>sH v) (fun l h=>rfl) K)
  ·exact ZF _ _ _
 ·rename_i s d x;split
  ·rename_i k hd;rw [zo];split
   ·rename_i z;exact .inr (d8 (f:=fun h v=>kJ h E.T s d v) (fun v h K=>sO z hd v) (fun l h=>rfl) K)
   ·exact .inl rfl
  ·rename_i e b hd A;rw [zo];split
   ·rename_i z;split
    ·rename_i B;exact .inr (d8 (f:=fun h v=>kJ h E.T s d v) (fun v h K=>ou z A hd B v) (fun l h=>rfl) K)
    ·exact .inl rfl
   ·exact .inl rfl
  ·rename_i e H b hd A;rw [zo];split
   ·rename_i z;split
    ·rename_i B;exact .inr (d8 (f:=fun h v=>kJ h E.T s d v) (fun v h K=>om z A hd B v) (fun l h=>rfl) K)
    ·exact .inl rfl
   ·exact .inl rfl
  ·exact ZF _ _ _
 ·rename_i t r;split
  ·refine .inr ⟨.f0 PL,fun en l h K=> ?_,rfl⟩;intro r q;have q:uu h (.map [] 0) (fun i h=>K (.map i) h)=some r:=q;rw [vX]at q;split at q
   ·rename_i G; exact⟨_,_,by simp only [yl,G,if_true],q⟩
   ·cases q
  ·rename_i x kt et hd;refine .inr (d8 (f:=fun h v=>if wY h=true then(match v with| .int _ _=>some (.map h.next,h.push (.map [] 0))|_=>none)else none) ?_ (fun l h=>by simp only [yl,hd]; split<;>first|(split<;>simp_all)|rfl) K);intro v h K r q;cases v<;>first|(cases q; done)|skip
   simp only [Gr,KV.onInt,vX]at q;split at q
   ·rename_i G; exact⟨_,_,by simp only [G,if_true],q⟩
   ·cases q
  ·exact .inl rfl
 ·rename_i t n c;split
  ·rename_i e H bytes hd;simp only [zo,zH,KV.fcs_eq,iF,Nat.beq_eq];split
   ·rename_i g;exact .inr (kp (f:=fun h l c=>Ur h E.T E.Z (E.T t).d l c) (fun v u h K=>mI hd g.1 g.2 rfl v u) (fun l h=>rfl) K)
   ·exact .inl rfl
  ·exact .inl rfl
 ·rename_i t m k x;exact .inr (sk (f:=fun h m k x=>(jM h E.T (E.T t).d m k x).map fun h=>(.tuple [],h)) (fun v u w h K=>da (Zr _ _ _ _ _)) (fun l h=>rfl) K)
 ·rename_i t m k x;exact .inr (sk (f:=fun h m k x=>(jM h E.T (E.T t).d m k x).map fun h=>(.tuple [],h)) (fun v u w h K=>da (Zr _ _ _ _ _)) (fun l h=>rfl) K)
 ·rename_i t m k;exact .inr (kp (f:=fun h m k=>bi h E.T E.Z (E.T t).d m k) (fun v u h K=>da (U3 _ _ _ _ _)) (fun l h=>rfl) K)
 ·rename_i t m s x;exact .inr (sk (f:=fun h m s x=>(jX h m s x).map fun h=>(.tuple [],h)) (fun v u w h K=>da (W4 _ _ _)) (fun l h=>rfl) K)
 ·rename_i t x;exact .inr (d8 (f:=fun h x=>WO h (E.T t).d x) (fun v h K=>oH _ v) (fun l h=>rfl) K)
 ·rename_i it s;exact .inr (d8 (f:=fun h x=>pX h x s) (fun v h K=>od s v) (fun l h=>rfl) K)
 ·rw [zH];exact .inr (d8 (f:=fun h v=>(dB v _).map fun v=>(v,h)) (fun v h K=>tB _ v) (fun l h=>rfl) K)
 ·rename_i x t;rcases tv (E:=E) t x K (Ut E (.call ⟨.builtin .len, #[x], #[t]⟩) K F)with h|h
  ·rw [h]; exact ZF _ _ _
  ·exact .inr h
 ·exact DV _ _ _ _ _ _
 ·rename_i s x t tx;split
  ·rename_i O H M P L N hd j;simp only [zo,zH,Nat.beq_eq];split
   ·rename_i z;subst z;exact .inr (kp (f:=fun h x y=>Uf h (E.T t).d (E.T tx).d x y) (fun v u h K=>Gq hd (K6 j) v u) (fun l h=>rfl) K)
   ·exact .inl rfl
  ·rename_i hd j;exact .inr (kp (f:=fun h x y=>Uf h (E.T t).d (E.T tx).d x y) (fun v u h K=>Gq hd (BD j) v u) (fun l h=>rfl) K)
  ·exact .inl rfl
 ·rename_i x t;split
  ·rename_i kt et hd;refine .inr (d8 (f:=fun h m=>(XM h m).map fun h=>(.tuple [],h)) ?_ (fun l h=>by simp only [yl,bB,List.map_cons,List.map_nil,hd]) K);intro v h K r q
   cases C:ZT h v with
   |none=>rw [C]at q; cases q
   | some p=>
    rw [C]at q;exact DN v r (by rw [C]; exact q)
  ·exact .inl rfl
 ·exact ZF _ _ _
end
end Go.K
end
