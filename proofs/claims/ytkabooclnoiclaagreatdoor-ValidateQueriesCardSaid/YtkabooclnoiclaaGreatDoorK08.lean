/- Closed runs. No condition. -/
import Derived.Test.YtkabooclnoiclaaGreatDoorK07
set_option linter.all false
noncomputable section
namespace Go.K
open Go.Abs
abbrev QR:=Option (KV×KH)
abbrev QK:=KV->KH->QR
def KV.hd (v:KV) (K:KV->QR):QR:=KV.rec (motive_1:=fun _=>(KV->QR)->QR) (motive_2:=fun _=>(KV->QR)->QR) (fun K=>K .junk) (fun b K=>K (.bool b)) (fun k n K=>K (.int k n)) (fun n s K=>K (.str n s)) (fun i o K=>K (.ptr i o)) (fun K=>K .nilp) (fun i o l c s K=>K (.sl i o l c s)) (fun K=>K .slz) (fun K=>K .nilsl) (fun fn x y _ _ K=>K (.func fn x y)) (fun K=>K .nilfunc) (fun i K=>K (.yield i)) (fun a _ K=>K (.agg a)) (fun a _ K=>K (.tuple a)) (fun i K=>K (.map i)) (fun K=>K .nilmap) (fun e u _ K=>K (.iface e u)) (fun K=>K .niliface) (fun K=>K .junk) (fun _ _ _ _ K=>K .junk) v K
def KV.onBool (v:KV) (f:Bool->QR) (d:QR):QR:=KV.rec (motive_1:=fun _=>(Bool->QR)->(QR)->QR) (motive_2:=fun _=>(Bool->QR)->(QR)->QR) (fun f d=>d) (fun b f d=>f b) (fun _ _ f d=>d) (fun _ _ f d=>d) (fun _ _ f d=>d) (fun f d=>d) (fun _ _ _ _ _ f d=>d) (fun f d=>d) (fun f d=>d) (fun _ _ _ _ _ f d=>d) (fun f d=>d) (fun _ f d=>d) (fun _ _ f d=>d) (fun _ _ f d=>d) (fun _ f d=>d) (fun f d=>d) (fun _ _ _ f d=>d) (fun f d=>d) (fun f d=>d) (fun _ _ _ _ f d=>d) v f d
def KV.onInt (v:KV) (f:IntKind->Int->QR) (d:QR):QR:=KV.rec (motive_1:=fun _=>(IntKind->Int->QR)->(QR)->QR) (motive_2:=fun _=>(IntKind->Int->QR)->(QR)->QR) (fun f d=>d) (fun _ f d=>d) (fun k n f d=>f k n) (fun _ _ f d=>d) (fun _ _ f d=>d) (fun f d=>d) (fun _ _ _ _ _ f d=>d) (fun f d=>d) (fun f d=>d) (fun _ _ _ _ _ f d=>d) (fun f d=>d) (fun _ f d=>d) (fun _ _ f d=>d) (fun _ _ f d=>d) (fun _ f d=>d) (fun f d=>d) (fun _ _ _ f d=>d) (fun f d=>d) (fun f d=>d) (fun _ _ _ _ f d=>d) v f d
def KV.onStr (v:KV) (f:Nat->Nat->QR) (d:QR):QR:=KV.rec (motive_1:=fun _=>(Nat->Nat->QR)->(QR)->QR) (motive_2:=fun _=>(Nat->Nat->QR)->(QR)->QR) (fun f d=>d) (fun _ f d=>d) (fun _ _ f d=>d) (fun n s f d=>f n s) (fun _ _ f d=>d) (fun f d=>d) (fun _ _ _ _ _ f d=>d) (fun f d=>d) (fun f d=>d) (fun _ _ _ _ _ f d=>d) (fun f d=>d) (fun _ f d=>d) (fun _ _ f d=>d) (fun _ _ f d=>d) (fun _ f d=>d) (fun f d=>d) (fun _ _ _ f d=>d) (fun f d=>d) (fun f d=>d) (fun _ _ _ _ f d=>d) v f d
def KV.onPtr (v:KV) (f:Nat->Nat->QR) (d:QR):QR:=KV.rec (motive_1:=fun _=>(Nat->Nat->QR)->(QR)->QR) (motive_2:=fun _=>(Nat->Nat->QR)->(QR)->QR) (fun f d=>d) (fun _ f d=>d) (fun _ _ f d=>d) (fun _ _ f d=>d) (fun i o f d=>f i o) (fun f d=>d) (fun _ _ _ _ _ f d=>d) (fun f d=>d) (fun f d=>d) (fun _ _ _ _ _ f d=>d) (fun f d=>d) (fun _ f d=>d) (fun _ _ f d=>d) (fun _ _ f d=>d) (fun _ f d=>d) (fun f d=>d) (fun _ _ _ f d=>d) (fun f d=>d) (fun f d=>d) (fun _ _ _ _ f d=>d) v f d
def KV.onSl (v:KV) (f:Nat->Nat->Nat->Option Nat->Nat->QR) (z:QR) (m:QR) (d:QR):QR:=KV.rec (motive_1:=fun _=>(Nat->Nat->Nat->Option Nat->Nat->QR)->(QR)->(QR)->(QR)->QR) (motive_2:=fun _=>(Nat->Nat->Nat->Option Nat->Nat->QR)->(QR)->(QR)->(QR)->QR) (fun f z m d=>d) (fun _ f z m d=>d) (fun _ _ f z m d=>d) (fun _ _ f z m d=>d) (fun _ _ f z m d=>d) (fun f z m d=>d) (fun i o l c s f z m d=>f i o l c s) (fun f z m d=>z) (fun f z m d=>m) (fun _ _ _ _ _ f z m d=>d) (fun f z m d=>d) (fun _ f z m d=>d) (fun _ _ f z m d=>d) (fun _ _ f z m d=>d) (fun _ f z m d=>d) (fun f z m d=>d) (fun _ _ _ f z m d=>d) (fun f z m d=>d) (fun f z m d=>d) (fun _ _ _ _ f z m d=>d) v f z m d
def KV.onAgg (v:KV) (f:List KV->QR) (d:QR):QR:=KV.rec (motive_1:=fun _=>(List KV->QR)->(QR)->QR) (motive_2:=fun _=>(List KV->QR)->(QR)->QR) (fun f d=>d) (fun _ f d=>d) (fun _ _ f d=>d) (fun _ _ f d=>d) (fun _ _ f d=>d) (fun f d=>d) (fun _ _ _ _ _ f d=>d) (fun f d=>d) (fun f d=>d) (fun _ _ _ _ _ f d=>d) (fun f d=>d) (fun _ f d=>d) (fun a _ f d=>f a) (fun _ _ f d=>d) (fun _ f d=>d) (fun f d=>d) (fun _ _ _ f d=>d) (fun f d=>d) (fun f d=>d) (fun _ _ _ _ f d=>d) v f d
def KV.onTuple (v:KV) (f:List KV->QR) (d:QR):QR:=KV.rec (motive_1:=fun _=>(List KV->QR)->(QR)->QR) (motive_2:=fun _=>(List KV->QR)->(QR)->QR) (fun f d=>d) (fun _ f d=>d) (fun _ _ f d=>d) (fun _ _ f d=>d) (fun _ _ f d=>d) (fun f d=>d) (fun _ _ _ _ _ f d=>d) (fun f d=>d) (fun f d=>d) (fun _ _ _ _ _ f d=>d) (fun f d=>d) (fun _ f d=>d) (fun _ _ f d=>d) (fun a _ f d=>f a) (fun _ f d=>d) (fun f d=>d) (fun _ _ _ f d=>d) (fun f d=>d) (fun f d=>d) (fun _ _ _ _ f d=>d) v f d
def KV.onFunc (v:KV) (f:Fn->List KV->List KV->QR) (g:Nat->QR) (d:QR):QR:=KV.rec (motive_1:=fun _=>(Fn->List KV->List KV->QR)->(Nat->QR)->(QR)->QR) (motive_2:=fun _=>(Fn->List KV->List KV->QR)->(Nat->QR)->(QR)->QR) (fun f g d=>d) (fun _ f g d=>d) (fun _ _ f g d=>d) (fun _ _ f g d=>d) (fun _ _ f g d=>d) (fun f g d=>d) (fun _ _ _ _ _ f g d=>d) (fun f g d=>d) (fun f g d=>d) (fun fn x y _ _ f g d=>f fn x y) (fun f g d=>d) (fun i f g d=>g i) (fun _ _ f g d=>d) (fun _ _ f g d=>d) (fun _ f g d=>d) (fun f g d=>d) (fun _ _ _ f g d=>d) (fun f g d=>d) (fun f g d=>d) (fun _ _ _ _ f g d=>d) v f g d
def KV.onIface (v:KV) (f:TypeId->KV->QR) (m:QR) (d:QR):QR:=KV.rec (motive_1:=fun _=>(TypeId->KV->QR)->(QR)->(QR)->QR) (motive_2:=fun _=>(TypeId->KV->QR)->(QR)->(QR)->QR) (fun f m d=>d) (fun _ f m d=>d) (fun _ _ f m d=>d) (fun _ _ f m d=>d) (fun _ _ f m d=>d) (fun f m d=>d) (fun _ _ _ _ _ f m d=>d) (fun f m d=>d) (fun f m d=>d) (fun _ _ _ _ _ f m d=>d) (fun f m d=>d) (fun _ f m d=>d) (fun _ _ f m d=>d) (fun _ _ f m d=>d) (fun _ f m d=>d) (fun f m d=>d) (fun a u _ f m d=>f a u) (fun f m d=>m) (fun f m d=>d) (fun _ _ _ _ f m d=>d) v f m d
def KV.onCell (v:KV) (t:QR) (d:QR):QR:=KV.rec (motive_1:=fun _=>(QR)->(QR)->QR) (motive_2:=fun _=>(QR)->(QR)->QR) (fun t d=>d) (fun b t d=>t) (fun k n t d=>t) (fun n s t d=>t) (fun i o t d=>t) (fun t d=>t) (fun i o l c s t d=>t) (fun t d=>t) (fun t d=>t) (fun fn x y _ _ t d=>t) (fun t d=>t) (fun i t d=>t) (fun _ _ t d=>d) (fun _ _ t d=>d) (fun i t d=>t) (fun t d=>t) (fun a u _ t d=>t) (fun t d=>t) (fun t d=>d) (fun _ _ _ _ t d=>d) v t d
def KV.hd_eq (v:KV) (K:KV->QR):v.hd K=K v:=by cases v<;>rfl
def KV.onCell_eq (v:KV) (t d:QR):v.onCell t d=if v.isCell=true then t else d:=by cases v<;>rfl
section
variable {R:Type}
def nfc (n:Nat) (K:Nat->R):R:=Nat.rec (motive:=fun _=>(Nat->R)->R) (fun K=>K .zero) (fun n _ K=>K (.succ n)) n K
def zH (n:Nat) (K:Nat->R):nfc n K=K n:=by cases n<;>rfl
def ifc (n:Int) (K:Int->R):R:=Int.rec (motive:=fun _=>R) (fun n=>nfc n fun n=>K (.ofNat n)) (fun n=>nfc n fun n=>K (.negSucc n)) n
def D6 (n:Int) (K:Int->R):ifc n K=K n:=by cases n<;>simp only [ifc,zH]
def Gv (n:Option Nat) (K:Option Nat->R):R:=Option.rec (motive:=fun _=>R) (K none) (fun n=>nfc n fun n=>K (some n)) n
def P8 (n:Option Nat) (K:Option Nat->R):Gv n K=K n:=by cases n<;>simp only [Gv,zH]
def bfc (b:Bool) (K:Bool->R):R:=Bool.rec (motive:=fun _=>(Bool->R)->R) (fun K=>K false) (fun K=>K true) b K
def Qz (b:Bool) (K:Bool->R):bfc b K=K b:=by cases b<;>rfl
def zq (b:Bool) (t e:R):R:=Bool.rec (motive:=fun _=>R) e t b
def zo (b:Bool) (t e:R):zq b t e=if b=true then t else e:=by cases b<;>rfl
end
inductive Sel (β γ:Type) where
 |mk (g:β->γ)
inductive Upd (α β:Type) where
 |mk (u:(α->(α->QR)->QR)->β->(β->QR)->QR)
abbrev S1:=N16 KV
abbrev S2:=N16 S1
abbrev H0:=Option KO
abbrev H1:=N16 H0
abbrev H2:=N16 H1
abbrev H3:=N16 H2
def sa0 {α:Type} (f:α->(α->QR)->QR) (n:N16 α) (k:N16 α->QR):QR:=N16.rec (motive:=fun _=>(α->(α->QR)->QR)->(N16 α->QR)->QR) (fun i j l m o p q r s t a b c e g h f k=>f i fun v=>k ⟨v,j,l,m,o,p,q,r,s,t,a,b,c,e,g,h⟩) n f k
def sa1 {α:Type} (f:α->(α->QR)->QR) (n:N16 α) (k:N16 α->QR):QR:=N16.rec (motive:=fun _=>(α->(α->QR)->QR)->(N16 α->QR)->QR) (fun i j l m o p q r s t a b c e g h f k=>f j fun v=>k ⟨i,v,l,m,o,p,q,r,s,t,a,b,c,e,g,h⟩) n f k
def sa2 {α:Type} (f:α->(α->QR)->QR) (n:N16 α) (k:N16 α->QR):QR:=N16.rec (motive:=fun _=>(α->(α->QR)->QR)->(N16 α->QR)->QR) (fun i j l m o p q r s t a b c e g h f k=>f l fun v=>k ⟨i,j,v,m,o,p,q,r,s,t,a,b,c,e,g,h⟩) n f k
def sa3 {α:Type} (f:α->(α->QR)->QR) (n:N16 α) (k:N16 α->QR):QR:=N16.rec (motive:=fun _=>(α->(α->QR)->QR)->(N16 α->QR)->QR) (fun i j l m o p q r s t a b c e g h f k=>f m fun v=>k ⟨i,j,l,v,o,p,q,r,s,t,a,b,c,e,g,h⟩) n f k
def sa4 {α:Type} (f:α->(α->QR)->QR) (n:N16 α) (k:N16 α->QR):QR:=N16.rec (motive:=fun _=>(α->(α->QR)->QR)->(N16 α->QR)->QR) (fun i j l m o p q r s t a b c e g h f k=>f o fun v=>k ⟨i,j,l,m,v,p,q,r,s,t,a,b,c,e,g,h⟩) n f k
def sa5 {α:Type} (f:α->(α->QR)->QR) (n:N16 α) (k:N16 α->QR):QR:=N16.rec (motive:=fun _=>(α->(α->QR)->QR)->(N16 α->QR)->QR) (fun i j l m o p q r s t a b c e g h f k=>f p fun v=>k ⟨i,j,l,m,o,v,q,r,s,t,a,b,c,e,g,h⟩) n f k
def sa6 {α:Type} (f:α->(α->QR)->QR) (n:N16 α) (k:N16 α->QR):QR:=N16.rec (motive:=fun _=>(α->(α->QR)->QR)->(N16 α->QR)->QR) (fun i j l m o p q r s t a b c e g h f k=>f q fun v=>k ⟨i,j,l,m,o,p,v,r,s,t,a,b,c,e,g,h⟩) n f k
def sa7 {α:Type} (f:α->(α->QR)->QR) (n:N16 α) (k:N16 α->QR):QR:=N16.rec (motive:=fun _=>(α->(α->QR)->QR)->(N16 α->QR)->QR) (fun i j l m o p q r s t a b c e g h f k=>f r fun v=>k ⟨i,j,l,m,o,p,q,v,s,t,a,b,c,e,g,h⟩) n f k
def sa8 {α:Type} (f:α->(α->QR)->QR) (n:N16 α) (k:N16 α->QR):QR:=N16.rec (motive:=fun _=>(α->(α->QR)->QR)->(N16 α->QR)->QR) (fun i j l m o p q r s t a b c e g h f k=>f s fun v=>k ⟨i,j,l,m,o,p,q,r,v,t,a,b,c,e,g,h⟩) n f k
def sa9 {α:Type} (f:α->(α->QR)->QR) (n:N16 α) (k:N16 α->QR):QR:=N16.rec (motive:=fun _=>(α->(α->QR)->QR)->(N16 α->QR)->QR) (fun i j l m o p q r s t a b c e g h f k=>f t fun v=>k ⟨i,j,l,m,o,p,q,r,s,v,a,b,c,e,g,h⟩) n f k
def zec {α:Type} (f:α->(α->QR)->QR) (n:N16 α) (k:N16 α->QR):QR:=N16.rec (motive:=fun _=>(α->(α->QR)->QR)->(N16 α->QR)->QR) (fun i j l m o p q r s t a b c e g h f k=>f a fun v=>k ⟨i,j,l,m,o,p,q,r,s,t,v,b,c,e,g,h⟩) n f k
def zdY {α:Type} (f:α->(α->QR)->QR) (n:N16 α) (k:N16 α->QR):QR:=N16.rec (motive:=fun _=>(α->(α->QR)->QR)->(N16 α->QR)->QR) (fun i j l m o p q r s t a b c e g h f k=>f b fun v=>k ⟨i,j,l,m,o,p,q,r,s,t,a,v,c,e,g,h⟩) n f k
def zdJ {α:Type} (f:α->(α->QR)->QR) (n:N16 α) (k:N16 α->QR):QR:=N16.rec (motive:=fun _=>(α->(α->QR)->QR)->(N16 α->QR)->QR) (fun i j l m o p q r s t a b c e g h f k=>f c fun v=>k ⟨i,j,l,m,o,p,q,r,s,t,a,b,v,e,g,h⟩) n f k
def zeF {α:Type} (f:α->(α->QR)->QR) (n:N16 α) (k:N16 α->QR):QR:=N16.rec (motive:=fun _=>(α->(α->QR)->QR)->(N16 α->QR)->QR) (fun i j l m o p q r s t a b c e g h f k=>f e fun v=>k ⟨i,j,l,m,o,p,q,r,s,t,a,b,c,v,g,h⟩) n f k
def zdN {α:Type} (f:α->(α->QR)->QR) (n:N16 α) (k:N16 α->QR):QR:=N16.rec (motive:=fun _=>(α->(α->QR)->QR)->(N16 α->QR)->QR) (fun i j l m o p q r s t a b c e g h f k=>f g fun v=>k ⟨i,j,l,m,o,p,q,r,s,t,a,b,c,e,v,h⟩) n f k
def zeO {α:Type} (f:α->(α->QR)->QR) (n:N16 α) (k:N16 α->QR):QR:=N16.rec (motive:=fun _=>(α->(α->QR)->QR)->(N16 α->QR)->QR) (fun i j l m o p q r s t a b c e g h f k=>f h fun v=>k ⟨i,j,l,m,o,p,q,r,s,t,a,b,c,e,g,v⟩) n f k
def saU {α S:Type} (i:Nat) (K:((α->(α->QR)->QR)->N16 α->(N16 α->QR)->QR)->S):S:=(bif Nat.blt i 8 then(bif Nat.blt i 4 then(bif Nat.blt i 2 then(bif Nat.blt i 1 then K sa0 else K sa1)else(bif Nat.blt i 3 then K sa2 else K sa3))else(bif Nat.blt i 6 then(bif Nat.blt i 5 then K sa4 else K sa5)else(bif Nat.blt i 7 then K sa6 else K sa7)))else(bif Nat.blt i 12 then(bif Nat.blt i 10 then(bif Nat.blt i 9 then K sa8 else K sa9)else(bif Nat.blt i 11 then K zec else K zdY))else(bif Nat.blt i 14 then(bif Nat.blt i 13 then K zdJ else K zeF)else(bif Nat.blt i 15 then K zdN else K zeO))))
def Wp {α S:Type} (K:((α->(α->QR)->QR)->N16 α->(N16 α->QR)->QR)->S):∀i,i<16->saU i K=K fun f n k=>f (N16.get n i) fun v=>k (N16.set n i v):=by
 refine hY ?_ ?_ ?_ ?_ ?_ ?_ ?_ ?_ ?_ ?_ ?_ ?_ ?_ ?_ ?_ ?_<;>rfl
def slo (u:(KV->(KV->QR)->QR)->S2->(S2->QR)->QR) (f:KV->(KV->QR)->QR) (s:Sl) (K:Sl->QR):QR:=Sl.rec (motive:=fun _=>((KV->(KV->QR)->QR)->S2->(S2->QR)->QR)->(KV->(KV->QR)->QR)->(Sl->QR)->QR) (fun lo a u f K=>u f lo fun lo=>K ⟨lo,a⟩) s u f K
def dS (t:Nat):Sel Sl KV:=bif Nat.blt t 256 then UG (α:=S1) (t/16) fun p=>UG (α:=KV) (t%16) fun q=> .mk fun s=>q (p s.lo)else .mk fun s=>yG s.hi t
def dU (t:Nat):Upd KV Sl:=bif Nat.blt t 256 then saU (α:=S1) (t/16) fun p=>saU (α:=KV) (t%16) fun q=> .mk fun f s K=>slo (fun f=>p (q f)) f s K else .mk fun f s K=>f (yG s.hi t) fun v=>K ⟨s.lo,Zs s.hi t v⟩
def BK (t:Nat):dS t= .mk fun s=>wD s t:=by
 unfold dS wD;rw [xn,Bool.cond_decide]
 by_cases h:t<256
 ·simp only [iI h];rw [df _ _ (by omega),df _ _ (by omega)];rfl
 ·simp only [iH h]
def lL (t:Nat):dU t= .mk fun f s K=>f (wD s t) fun v=>K (KK s t v):=by
 unfold dU wD KK;rw [xn,Bool.cond_decide]
 by_cases h:t<256
 ·simp only [iI h];rw [Wp _ _ (by omega),Wp _ _ (by omega)];rfl
 ·simp only [iH h]
def dH (id:Nat):Sel (N64k KO) (Option KO):=bif Nat.blt id 65536 then UG (α:=H3) (id/256/16) fun a=>UG (α:=H2) (id/256%16) fun b=>UG (α:=H1) (id%256/16) fun c=>UG (α:=H0) (id%256%16) fun d=> .mk fun m=>d (c (b (a m)))else .mk fun m=>none
def uH (id:Nat):Upd (Option KO) (N64k KO):=bif Nat.blt id 65536 then saU (α:=H3) (id/256/16) fun a=>saU (α:=H2) (id/256%16) fun b=>saU (α:=H1) (id%256/16) fun c=>saU (α:=H0) (id%256%16) fun d=> .mk fun f m K=>a (b (c (d f))) m K else .mk fun f m K=>f none fun _=>K m
def zdc (id:Nat):dH id= .mk fun m=>N64k.get m id:=by
 unfold dH N64k.get;rw [xn,Bool.cond_decide]
 by_cases h:id<65536
 ·simp only [iI h];rw [df _ _ (by omega),df _ _ (by omega),df _ _ (by omega),df _ _ (by omega)];rfl
 ·simp only [iH h]
def lO (id:Nat):uH id= .mk fun f m K=>f (N64k.get m id) fun v=>K (N64k.set m id v):=by
 unfold uH N64k.get N64k.set;rw [xn,Bool.cond_decide]
 by_cases h:id<65536
 ·simp only [iI h];rw [Wp _ _ (by omega),Wp _ _ (by omega),Wp _ _ (by omega),Wp _ _ (by omega)];rfl
 ·simp only [iH h]
def ogo (o:Option KO) (K:KO->QR):QR:=Option.rec (motive:=fun _=>(KO->QR)->QR) (fun _=>none) (fun o K=>K o) o K
def qg (h:KH) (id:Nat) (K:KO->QR):QR:=Sel.rec (motive:=fun _=>KH->(KO->QR)->QR) (fun g h K=>ogo (g h.t) K) (dH id) h K
def uO (h:KH) (id:Nat) (K:KO->QR):qg h id K=(h.get id).elim none K:=by
 unfold qg;rw [zdc];show ogo (h.get id) K=_;cases h.get id<;>rfl
def Ji (u:Upd (Option KO) (N64k KO)) (o:Option KO) (t:N64k KO) (n:Nat) (K:KH->QR):QR:=Upd.rec (motive:=fun _=>Option KO->N64k KO->Nat->(KH->QR)->QR) (fun u o t n K=>u (fun _ k=>k o) t fun t=>K ⟨t,n⟩) u o t n K
def pG (h:KH) (id:Nat) (o:KO) (K:KH->QR):QR:=Ji (uH id) (some o) h.t h.next K
def bz (h:KH) (id:Nat) (o:KO) (K:KH->QR):pG h id o K=K (h.set id (some o)):=by
 unfold pG Ji; rw [lO]; rfl
def Po (h:KH) (id:Nat) (K:KH->QR):QR:=Ji (uH id) none h.t h.next K
def eR (h:KH) (id:Nat) (K:KH->QR):Po h id K=K (h.set id none):=by
 unfold Po Ji; rw [lO]; rfl
def nR (t:N64k KO) (o:KO) (K:Nat->KH->QR) (i:Nat):QR:=zq (Nat.blt (Nat.succ i) 65000) (nfc (Nat.succ i) fun n=>Ji (uH i) (some o) t n (K i)) none
def uu (h:KH) (o:KO) (K:Nat->KH->QR):QR:=nfc h.next (nR h.t o K)
def vX (h:KH) (o:KO) (K:Nat->KH->QR):uu h o K=if wY h=true then K h.next (h.push o)else none:=by
 unfold uu nR Ji;simp only [zH,zo];rw [lO];rfl
def f8 (l:List KV) (i:Nat) (K:KV->QR):QR:=List.rec (motive:=fun _=>Nat->(KV->QR)->QR) (fun _ _=>none) (fun v _ a i K=>Nat.rec (motive:=fun _=>QR) (K v) (fun j _=>a j K) i) l i K
def Vk (l:List KV) (i:Nat) (K:KV->QR):f8 l i K=(l[i]?).elim none K:=by
 induction l generalizing i with
 |nil=>rfl
 | cons v r a=>cases i with
  |zero=>rfl
  |succ i=>exact a i
def VI (l:List KV) (i:Nat) (K:List KV->QR):QR:=List.rec (motive:=fun _=>Nat->(List KV->QR)->QR) (fun _ K=>K []) (fun v r a i K=>Nat.rec (motive:=fun _=>QR) (K (v::r)) (fun j _=>a j K) i) l i K
def Zg (l:List KV) (i:Nat) (K:List KV->QR):VI l i K=K (l.drop i):=by
 induction l generalizing i with
 |nil=>simp only [List.drop_nil]; rfl
 | cons v r a=>cases i with
  |zero=>rfl
  |succ i=>exact a i
def YT (l:List KV) (n:Nat) (K:List KV->QR):QR:=List.rec (motive:=fun _=>Nat->(List KV->QR)->QR) (fun n K=>Nat.rec (motive:=fun _=>QR) (K []) (fun _ _=>none) n) (fun v _ a n K=>Nat.rec (motive:=fun _=>QR) (K []) (fun m _=>a m fun l=>K (v::l)) n) l n K
def Zq (l:List KV) (n:Nat) (K:List KV->QR):YT l n K=if(l.take n).length=n then K (l.take n)else none:=by
 induction l generalizing n K with
 | nil=>cases n with
  |zero=>rfl
  |succ n=>simp only [List.take_nil,List.length_nil]; rfl
 | cons v r a=>cases n with
  |zero=>rfl
  | succ n=>
   have:YT (v::r) (n+1) K=YT r n fun l=>K (v::l):=rfl;rw [this,a];simp only [List.take_succ_cons,List.length_cons,Nat.add_right_cancel_iff]
def XT (l r:List KV) (K:List KV->QR):QR:=List.rec (motive:=fun _=>List KV->(List KV->QR)->QR) (fun r K=>K r) (fun v _ a r K=>a r fun l=>K (v::l)) l r K
def pj (l r:List KV) (K:List KV->QR):XT l r K=K (l++r):=by
 induction l generalizing K with
 |nil=>rfl
 |cons v l a=>exact a _
def Qi (l:List KV) (off n:Nat) (new:List KV) (K:List KV->QR):QR:=
 List.rec (motive:=fun _=>Nat->Nat->List KV->(List KV->QR)->QR) (fun off n new K=>Nat.rec (motive:=fun _=>QR) (Nat.rec (motive:=fun _=>QR) (K new) (fun _ _=>none) n) (fun _ _=>none) off)
  (fun v r a off n new K=>Nat.rec (motive:=fun _=>QR) (YT (v::r) n fun _=>VI (v::r) n fun r=>XT new r K) (fun j _=>a j n new fun l=>K (v::l)) off) l off n new K
def Vd (l:List KV) (off n:Nat) (new:List KV) (K:List KV->QR):Qi l off n new K=if off+n<=l.length then K (l.take off++new++l.drop (off+n))else none:=by
 induction l generalizing off K with
 | nil=>
  cases off with
  | zero=>cases n with
   |zero=>simp only [Nat.add_zero,List.length_nil,iP,if_true,List.take_nil,List.drop_nil,List.nil_append,List.append_nil]; rfl
   |succ n=>rw [iH (by simp)]; rfl
  |succ off=>rw [iH (by simp only [List.length_nil]; omega)]; rfl
 | cons v r c=>cases off with
  | zero=>
   have:Qi (v::r) 0 n new K=YT (v::r) n fun _=>VI (v::r) n fun r=>XT new r K:=rfl;rw [this,Zq];simp only [Zg,pj,Nat.zero_add,List.take_zero,List.nil_append];have e:((v::r).take n).length=n↔n<=(v::r).length:=by rw [List.length_take]; omega
   by_cases h:n<=(v::r).length
   ·rw [iI h,iI (e.2 h)]
   ·rw [iH h,iH (fun a=>h (e.1 a))]
  | succ off=>
   have:Qi (v::r) (off+1) n new K=Qi r off n new fun l=>K (v::l):=rfl;rw [this,c];have e:off+n<=r.length↔off+1+n<=(v::r).length:=by simp only [List.length_cons]; omega
   have b:off+1+n=(off+n)+1:=by omega
   by_cases h:off+n<=r.length
   ·rw [iI h,iI (e.1 h),b]; rfl
   ·rw [iH h,iH (fun a=>h (e.2 a))]
def tD (l:List KV) (K:Nat->QR):QR:=List.rec (motive:=fun _=>Nat->(Nat->QR)->QR) (fun n K=>nfc n K) (fun _ _ a n K=>nfc (Nat.succ n) fun n=>a n K) l 0 K
def Ki (l:List KV) (K:Nat->QR):tD l K=K l.length:=by
 have:∀n,List.rec (motive:=fun _=>Nat->(Nat->QR)->QR) (fun n K=>nfc n K) (fun _ _ a n K=>nfc (Nat.succ n) fun n=>a n K) l n K=K (l.length+n):=by
  induction l with
  |nil=>intro n; simp [zH]
  |cons v r a=>intro n; refine(zH _ _).trans ((a (Nat.succ n)).trans ?_); congr 1; simp only [List.length_cons]; omega
 exact this 0
def XH (l:List KV) (n:Nat) (K:QR):QR:=List.rec (motive:=fun _=>Nat->QR->QR) (fun n K=>Nat.rec (motive:=fun _=>QR) K (fun _ _=>none) n) (fun v _ a n K=>Nat.rec (motive:=fun _=>QR) none (fun m _=>v.onCell (a m K) none) n) l n K
def Wc (l:List KV) (n:Nat) (K:QR):XH l n K=if l.length=n∧KV.isCells l=true then K else none:=by
 induction l generalizing n with
 | nil=>cases n with
  |zero=>rw [iI ⟨rfl,rfl⟩]; rfl
  |succ n=>rw [iH (by simp)]; rfl
 | cons v r a=>cases n with
  |zero=>rw [iH (by simp)]; rfl
  | succ n=>
   have:XH (v::r) (n+1) K=v.onCell (XH r n K) none:=rfl;rw [this,KV.onCell_eq,a]
   by_cases h:v.isCell=true<;>simp [KV.isCells,h]
def Xj (v:KV) (n:Nat) (K:List KV->QR):QR:=KV.rec (motive_1:=fun _=>Nat->(List KV->QR)->QR) (motive_2:=fun _=>Nat->(List KV->QR)->QR) (fun m K=>none) (fun b m K=>zq (Nat.beq m 1) (K [(.bool b)]) none) (fun k n m K=>zq (Nat.beq m 1) (K [(.int k n)]) none) (fun n s m K=>zq (Nat.beq m 1) (K [(.str n s)]) none) (fun i o m K=>zq (Nat.beq m 1) (K [(.ptr i o)]) none) (fun m K=>zq (Nat.beq m 1) (K [.nilp]) none) (fun i o l c s m K=>zq (Nat.beq m 1) (K [(.sl i o l c s)]) none) (fun m K=>zq (Nat.beq m 1) (K [.slz]) none) (fun m K=>zq (Nat.beq m 1) (K [.nilsl]) none) (fun fn x y _ _ m K=>zq (Nat.beq m 1) (K [(.func fn x y)]) none) (fun m K=>zq (Nat.beq m 1) (K [.nilfunc]) none) (fun i m K=>zq (Nat.beq m 1) (K [(.yield i)]) none) (fun a _ m K=>XH a m (K a)) (fun _ _ m K=>none) (fun i m K=>zq (Nat.beq m 1) (K [(.map i)]) none) (fun m K=>zq (Nat.beq m 1) (K [.nilmap]) none) (fun e u _ m K=>zq (Nat.beq m 1) (K [(.iface e u)]) none) (fun m K=>zq (Nat.beq m 1) (K [.niliface]) none) (fun n K=>none) (fun _ _ _ _ n K=>none) v n K
def WL (v:KV) (n:Nat) (K:List KV->QR):Xj v n K=if v.cells.length=n∧KV.isCells v.cells=true then K v.cells else none:=by
 have one:∀ {v:KV},v.cells= [v]->v.isCell=true->zq (Nat.beq n 1) (K [v]) none=if v.cells.length=n∧KV.isCells v.cells=true then K v.cells else none:=by
  intro v f h;rw [zo,f];simp only [Nat.beq_eq,List.length_cons,List.length_nil,KV.isCells,List.all_cons,List.all_nil,Bool.and_true,Nat.zero_add,eq_comm (a:=1),h,and_true]
 cases v with
 |agg j=>exact Wc _ _ _
 |junk=>rw [iH (by simp [KV.cells,KV.isCells,KV.isCell])]; rfl
 |tuple l=>rw [iH (by simp [KV.cells,KV.isCells,KV.isCell])]; rfl
 |bool b=>exact one (v:= .bool b) rfl rfl
 |int b c=>exact one (v:= .int b c) rfl rfl
 |str b c=>exact one (v:= .str b c) rfl rfl
 |ptr b c=>exact one (v:= .ptr b c) rfl rfl
 |nilp  => exact one (v:= .nilp) rfl rfl
 |sl b c e g i=>exact one (v:= .sl b c e g i) rfl rfl
 |slz  => exact one (v:= .slz) rfl rfl
 |nilsl  => exact one (v:= .nilsl) rfl rfl
 |func b c e=>exact one (v:= .func b c e) rfl rfl
 |nilfunc  => exact one (v:= .nilfunc) rfl rfl
 |yield b=>exact one (v:= .yield b) rfl rfl
 |map b=>exact one (v:= .map b) rfl rfl
 |nilmap  => exact one (v:= .nilmap) rfl rfl
 |iface b c=>exact one (v:= .iface b c) rfl rfl
 |niliface  => exact one (v:= .niliface) rfl rfl
def tb (m i:Nat):Bool:=Nat.beq (Nat.land (Nat.shiftRight m i) 1) 1
def gx (m i:Nat):tb m i=Nat.testBit m i:=by
 unfold tb;have a:Nat.land (Nat.shiftRight m i) 1=(m >>> i)%2:=Nat.and_one_is_mod (m >>> i);rw [a,Nat.testBit_eq_decide_div_mod_eq,Nat.shiftRight_eq_div_pow];rw [jJ]
def bt (i:Nat):Nat:=Nat.shiftLeft 1 i
def Y2 (i k:Nat):tb (bt i) k=decide (k=i):=by
 rw [gx];show Nat.testBit (1 <<< i) k=_;rw [Nat.one_shiftLeft,Nat.testBit_two_pow]
 by_cases h:i=k
 ·subst h; simp
 ·simp [h,Ne.symm h]
def kL (a b i:Nat):tb (Nat.lor a b) i=(tb a i||tb b i):=by rw [gx,gx,gx]; exact Nat.testBit_or a b i
def UB (a b i:Nat):tb (Nat.land a b) i=(tb a i&&tb b i):=by rw [gx,gx,gx]; exact Nat.testBit_and a b i
def dD (i:Nat):tb 0 i=false:=by rw [gx]; exact Nat.zero_testBit i
def sub? (a b:Nat):Bool:=Nat.beq (Nat.land a b) a
def GX {a b:Nat} (h:sub? a b=true) {i:Nat} (hi:tb a i=true):tb b i=true:=by
 have e:=iE h;have:tb (Nat.land a b) i=true:=by rw [e]; exact hi
 rw [UB,iF]at this;exact this.2
structure OI where
 d:Nat
 dst:Option Nat
 r:Nat
 still:Bool
 al:Bool
def Jt (l:List Edge):Nat:=List.rec (motive:=fun _=>Nat) 0 (fun e _ a=>bif Region.binds .any e then Nat.lor (bt e.on) a else a) l
def mN (l:List Edge) (k:Nat):tb (Jt l) k=true↔k∈(l.filter fun e=>Region.binds .any e).map (·.on):=by
 induction l with
 |nil=>simp [Jt,dD]
 | cons e l b=>
  have c:Jt (e::l)=bif Region.binds .any e then Nat.lor (bt e.on) (Jt l)else Jt l:=rfl
  rw [c]
  cases a:Region.binds .any e with
  | true=>
   simp only [cond_true,kL,Y2,List.filter_cons,a,if_true,List.map_cons,List.mem_cons,Bool.or_eq_true,iJ,b]
  |false=>simp only [cond_false,List.filter_cons,a,iT,if_false,b]
def dh (l:List Operand):Nat:=List.rec (motive:=fun _=>Nat) 0 (fun x _ a=>Operand.rec (motive:=fun _=>Nat) (fun t=>Nat.lor (bt t) a) (fun _=>a) (fun _=>a) (fun _=>a) x) l
def VE (l:List Operand) (k:Nat):tb (dh l) k=true↔k∈l.filterMap fun| .tmp t=>some t|_=>none:=by
 induction l with
 |nil=>simp [dh,dD]
 | cons x l b=>
  cases x with
  | tmp t=>
   have a:dh (.tmp t::l)=Nat.lor (bt t) (dh l):=rfl;rw [a,kL,Bool.or_eq_true,Y2,b];simp
  |const v=>have a:dh (.const v::l)=dh l:=rfl; rw [a,b]; simp
  |global v=>have a:dh (.global v::l)=dh l:=rfl; rw [a,b]; simp
  |func v=>have a:dh (.func v::l)=dh l:=rfl; rw [a,b]; simp
def bm (T:TypeId->TI) (ops:Array Oper) (o:Oper):OI where
 d:=Jt o.after.toList
 dst:=o.dst
 r :=match o.guard with
  |some (g,_)=>(match zQ ops g with|some d=>Nat.lor (bt d) (dh o.op.operands.toList)|none=>dh o.op.operands.toList)
  |none=>dh o.op.operands.toList
 still:=Z3 T o.op
 al:=VG o.op&&o.guard.isNone
def Py {T:TypeId->TI} {ops:Array Oper} {j:Nat} {o:Oper} (b:ops[j]? =some o) (t:Nat):tb (bm T ops o).r t=true↔t∈xG ops j:=by
 unfold bm xG qD;rw [b];simp only
 cases c:o.guard with
 |none=>simp only [VE,List.append_nil]; rfl
 | some g=>
  obtain⟨g,a⟩:=g;simp only
  cases hd:zQ ops g with
  |none=>simp only [VE,List.append_nil]; rfl
  | some d=>
   simp only [kL,Y2,Bool.or_eq_true,iJ,VE,List.mem_append,List.mem_singleton];exact Or.comm
def P1 {T:TypeId->TI} {ops:Array Oper} {j:Nat} {o:Oper} (a:ops[j]? =some o) (k:Nat):tb (bm T ops o).d k=true↔k∈dp ops j:=by
 unfold bm dp;rw [a];exact mN _ _
def full:Nat:=18446744073709551615
def jd (M i:Nat):Nat:=Nat.land (Nat.shiftRight M (Nat.mul 64 i)) full
def Vi (k:Nat):tb full k=decide (k<64):=by
 rw [gx,show full=2^64-1 by decide,Nat.testBit_two_pow_sub_one]
def zbV (M i k:Nat):tb (Nat.shiftRight M i) k=tb M (i+k):=by
 rw [gx,gx]; exact Nat.testBit_shiftRight M
def zaU (M i k:Nat):tb (Nat.shiftLeft M i) k=(decide (i<=k)&&tb M (k-i)):=by
 rw [gx,gx]; exact Nat.testBit_shiftLeft M
def Ze (M i k:Nat):tb (jd M i) k=(tb M (64*i+k)&&decide (k<64)):=by
 unfold jd;rw [UB,zbV,Vi]; rfl
def fR (l:List Nat):Nat:=List.rec (motive:=fun _=>Nat) 0 (fun x _ a=>Nat.lor (Nat.land x full) (Nat.shiftLeft a 64)) l
def eC:∀(l:List Nat) (i k:Nat),k<64->tb (fR l) (64*i+k)=tb (l.getD i 0) k
 | [],i,k,a=>by simp [fR,dD]
 | x::l,i,k,a=>by
  have e:fR (x::l)=Nat.lor (Nat.land x full) (Nat.shiftLeft (fR l) 64):=rfl;rw [e,kL,UB,Vi,zaU]
  cases i with
  |zero=>simp [a,show ¬64<=k by omega]
  | succ i=>
   have b:¬64*(i+1)+k<64:=by omega
   have c:64<=64*(i+1)+k:=by omega
   rw [show 64*(i+1)+k-64=64*i+k by omega,eC l i k a];simp [b,c]
section
variable (N DD:Nat)
def QZ (l:List Nat) (m:Nat):Bool:=List.rec (motive:=fun _=>Nat->Bool) (fun m=>Nat.beq m (Nat.sub (bt N) 1)) (fun i _ a m=>zq (Nat.blt i N) (zq (tb m i) false (zq (sub? (jd DD i) m) (a (Nat.lor (bt i) m)) false)) false) l m
end
def UQ {N DD:Nat}:∀ {l:List Nat} {m:Nat},QZ N DD l m=true->(∀i∈l,i<N)∧l.Nodup∧(∀i∈l,tb m i=false)∧(∀i,i<N->tb m i=true∨i∈l)∧∀p (h:p<l.length),∀k,k<64->tb DD (64*l[p]+k)=true->tb m k=true∨k∈l.take p
 | [],m,e=>by
  refine⟨by simp, .nil,by simp,fun i a=> .inl ?_,fun p h=>by simp at h⟩;have e:=iE e;rw [e,gx];show Nat.testBit (1 <<< N-1) i=true;rw [Nat.one_shiftLeft,Nat.testBit_two_pow_sub_one];simp [a]
 | x :: l,m,e=>by
  have e:zq (Nat.blt x N) (zq (tb m x) false (zq (sub? (jd DD x) m) (QZ N DD l (Nat.lor (bt x) m)) false)) false=true:=e;simp only [zo]at e;split at e
  ·rename_i b;split at e
   ·cases e
   ·rename_i c;split at e
    ·rename_i j;obtain⟨r,s,g,t,v⟩:=UQ e;have b:x<N:=by simpa [xn] using b
     have c:tb m x=false:=by simpa using c
     have q:x∉l:=fun n=>by
      have:=g x n;rw [kL,Y2]at this; simp at this
     refine⟨?_,List.nodup_cons.2 ⟨q,s⟩, ?_, ?_, ?_⟩
     ·intro i a;rcases List.mem_cons.1 a with rfl|a
      ·exact b
      ·exact r i a
     ·intro i a;rcases List.mem_cons.1 a with rfl|a
      ·exact c
      ·have:=g i a;rw [kL,Bool.or_eq_false_iff]at this; exact this.2
     ·intro i a;rcases t i a with h|h
      ·rw [kL,Y2,Bool.or_eq_true,iJ]at h;rcases h with rfl|h
       ·exact .inr (by simp)
       ·exact .inl h
      ·exact .inr (List.mem_cons_of_mem _ h)
     ·intro p o k f hd
      cases p with
      |zero=>exact .inl (GX j (by rw [Ze]; simp only [List.getElem_cons_zero]at hd; simp [hd,f]))
      | succ p=>
       simp only [List.getElem_cons_succ]at hd;rcases v p (by simpa using o) k f hd with h|h
       ·rw [kL,Y2,Bool.or_eq_true,iJ]at h;rcases h with rfl|h
        ·exact .inr (by simp)
        ·exact .inl h
       ·exact .inr (by simp [h])
    ·cases e
  ·cases e
def Wy (BB:Nat) (l:List Edge):Nat:=List.rec (motive:=fun _=>Nat) 0 (fun e _ a=>bif Region.binds .any e then Nat.lor (Nat.lor (bt e.on) (jd BB e.on)) a else a) l
def lJ (BB:Nat) (l:List Edge) (k:Nat):tb (Wy BB l) k=true->∃on∈(l.filter fun e=>Region.binds .any e).map (·.on),k=on∨(k<64∧tb BB (64*on+k)=true):=by
 induction l with
 |nil=>intro h; simp [Wy,dD]at h
 | cons e l f=>
  have g:Wy BB (e::l)=bif Region.binds .any e then Nat.lor (Nat.lor (bt e.on) (jd BB e.on)) (Wy BB l)else Wy BB l:=rfl
  rw [g];intro h
  cases a:Region.binds .any e with
  | true=>
   rw [a]at h;simp only [cond_true,kL,Y2,Ze,Bool.or_eq_true,iJ,iF]at h;rcases h with(h|h)|h
   ·exact⟨e.on,by simp [a], .inl h⟩
   ·exact⟨e.on,by simp [a], .inr ⟨h.2,h.1⟩⟩
   ·obtain⟨on,b,c⟩:=f h;exact⟨on,by simp only [List.filter_cons,a,if_true,List.map_cons,List.mem_cons]; exact .inr b,c⟩
  | false=>
   rw [a]at h;obtain⟨on,b,c⟩:=f h;exact⟨on,by simp only [List.filter_cons,a,iT,if_false]; exact b,c⟩
def Pc (BB:Nat) (l:List Oper) (j:Nat):Bool:=List.rec (motive:=fun _=>Nat->Bool) (fun _=>true) (fun o _ a j=>zq (sub? (jd BB j) (Wy BB o.after.toList)) (a (Nat.succ j)) false) l j
def JE {BB:Nat}:∀ {l:List Oper} {j:Nat},Pc BB l j=true->∀(i:Nat) o,l[i]? =some o->∀k,k<64->tb BB (64*(j+i)+k)=true->∃on∈(o.after.toList.filter fun e=>Region.binds .any e).map (·.on),k=on∨(k<64∧tb BB (64*on+k)=true)
 | [],j,e,i,o,a,k,b,h=>by simp at a
 | x ::l,j,e,i,o,a,k,b,h=>by
  have e:zq (sub? (jd BB j) (Wy BB x.after.toList)) (Pc BB l (Nat.succ j)) false=true:=e;rw [zo]at e;split at e
  ·rename_i c
   cases i with
   | zero=>
    simp only [List.getElem?_cons_zero,iL]at a;subst a;exact lJ BB _ k (GX c (by rw [Ze]; simp only [Nat.add_zero]at h; simp [h,b]))
   | succ i=>
    refine JE e i o (by simpa using a) k b ?_;rw [show Nat.succ j+i=j+(i+1)by omega]; exact h
  ·cases e
def cz (n:Nat) (l:List OI) (m:Nat):Bool:=List.rec (motive:=fun _=>Nat->Bool) (fun _=>true) (fun x _ a m=>Option.rec (motive:=fun _=>Bool) (a m) (fun d=>zq (Nat.blt d n) (zq (tb m d) false (a (Nat.lor (bt d) m))) false) x.dst) l m
def Vy {n:Nat}:∀ {l:List OI} {m:Nat},cz n l m=true->(∀(i:Nat) (x:OI) d,l[i]? =some x->x.dst=some d->d<n∧tb m d=false)∧∀(i j:Nat) (x y:OI) d,l[i]? =some x->l[j]? =some y->x.dst=some d->y.dst=some d->i=j
 | [],m,e=>⟨fun i x d h=>by simp at h,fun i j x y d h=>by simp at h⟩
 | z :: l,m,e=>by
  have e:Option.rec (motive:=fun _=>Bool) (cz n l m) (fun d=>zq (Nat.blt d n) (zq (tb m d) false (cz n l (Nat.lor (bt d) m))) false) z.dst=true:=e
  cases o:z.dst with
  | none=>
   rw [o]at e;obtain⟨r,s⟩:=Vy e;refine⟨fun i x d h hd=> ?_,fun i j x y d g k c f=> ?_⟩
   ·cases i with
    |zero=>simp at h; subst h; rw [o]at hd; cases hd
    |succ i=>exact r i x d (by simpa using h) hd
   ·cases i with
    |zero=>simp at g; subst g; rw [o]at c; cases c
    | succ i=>cases j with
     |zero=>simp at k; subst k; rw [o]at f; cases f
     |succ j=>rw [s i j x y d (by simpa using g) (by simpa using k) c f]
  | some dz=>
   rw [o]at e;simp only [zo]at e;split at e
   ·rename_i q;split at e
    ·cases e
    ·rename_i t;obtain⟨r,s⟩:=Vy e
     have p:∀(i:Nat) (x:OI) d,l[i]? =some x->x.dst=some d->d<n∧tb m d=false∧d≠dz:=fun i x d h hd=>by
      obtain⟨a,b⟩:=r i x d h hd;rw [kL,Y2,Bool.or_eq_false_iff]at b;exact⟨a,b.2,by simpa using b.1⟩
     refine⟨fun i x d h hd=> ?_,fun i j x y d g k c f=> ?_⟩
     ·cases i with
      |zero=>simp at h; subst h; rw [o]at hd; cases hd; exact⟨by simpa [xn] using q,by simpa using t⟩
      |succ i=>have:=p i x d (by simpa using h) hd; exact⟨this.1,this.2.1⟩
     ·cases i with
      | zero=>cases j with
       |zero=>rfl
       |succ j=>simp at g; subst g; rw [o]at c; cases c; exact absurd rfl (p j y _ (by simpa using k) f).2.2
      | succ i=>cases j with
       |zero=>simp at k; subst k; rw [o]at f; cases f; exact absurd rfl (p i x _ (by simpa using g) c).2.2
       |succ j=>rw [s i j x y d (by simpa using g) (by simpa using k) c f]
   ·cases e
def JO {α:Type} (f:Nat->α->Bool) (l:List α) (j:Nat):Bool:=List.rec (motive:=fun _=>Nat->Bool) (fun _=>true) (fun x _ a j=>zq (f j x) (a (Nat.succ j)) false) l j
def Zh {α:Type} {f:Nat->α->Bool}:∀ {l:List α} {j:Nat},JO f l j=true->∀(i:Nat) x,l[i]? =some x->f (j+i) x=true
 | [],j,e,i,x,h=>by simp at h
 | y ::l,j,e,i,x,h=>by
  have e:zq (f j y) (JO f l (Nat.succ j)) false=true:=e;rw [zo]at e;split at e
  ·rename_i a
   cases i with
   |zero=>simp at h; subst h; exact a
   | succ i=>
    have:=Zh e i x (by simpa using h);rw [show Nat.succ j+i=j+(i+1)by omega]at this; exact this
  ·cases e
def nK (EM BB i r k:Nat) (d:Nat):Bool:=zq (tb r d) (zq (tb BB (Nat.add (Nat.mul 64 i) k)) true (zq (tb EM k) (zq (Nat.beq k i) true (tb BB (Nat.add (Nat.mul 64 k) i))) false)) true
def cR (EM BB:Nat) (info:List OI):Bool:=JO (fun i x=>JO (fun k y=>Option.rec (motive:=fun _=>Bool) true (fun d=>nK EM BB i x.r k d) y.dst) info 0) info 0
def DY {EM BB:Nat} {info:List OI} (e:cR EM BB info=true) {i k d:Nat} {x y:OI} (c:info[i]? =some x) (f:info[k]? =some y) (hd:y.dst=some d) (b:tb x.r d=true):tb BB (64*i+k)=true∨(tb EM k=true∧(k=i∨tb BB (64*k+i)=true)):=by
 have:=Zh (Zh e i x c) k y f;simp only [Nat.zero_add,hd,nK,zo,b,if_true]at this;split at this
 ·rename_i h; exact .inl h
 ·split at this
  ·rename_i h;right;refine⟨h, ?_⟩;split at this
   ·rename_i a; exact .inl (iE a)
   ·exact .inr this
  ·cases this
def rH (LM BB:Nat) (l:List Nat):Nat:=List.rec (motive:=fun _=>Nat) full (fun x _ a=>zq (tb LM x) a (Nat.land (jd BB x) a)) l
def Q8 {LM BB:Nat}:∀ {l:List Nat} {y:Nat},tb (rH LM BB l) y=true->y<64∧∀j∈l,tb LM j=false->tb BB (64*j+y)=true
 | [],y,h=>by
  have h:tb full y=true:=h;rw [Vi]at h;exact⟨by simpa using h,by simp⟩
 | x::l,y,h=>by
  have h:tb (zq (tb LM x) (rH LM BB l) (Nat.land (jd BB x) (rH LM BB l))) y=true:=h;rw [zo]at h;split at h
  ·rename_i f;obtain⟨c,e⟩:=Q8 h;refine⟨c,fun j a b=> ?_⟩;rcases List.mem_cons.1 a with rfl|a
   ·rw [f]at b; cases b
   ·exact e j a b
  ·rw [UB,iF,Ze,iF]at h;obtain⟨c,e⟩:=Q8 h.2;refine⟨c,fun j a b=> ?_⟩;rcases List.mem_cons.1 a with rfl|a
   ·exact h.1.1
   ·exact e j a b
def Xo (EM LM BB:Nat) (l:List Nat):Bool:=List.rec (motive:=fun _=>Bool) true (fun x r a=>zq (zq (tb EM x) true (tb LM x)) (zq (tb (rH LM BB r) x) a false) a) l
def VA {EM LM BB:Nat}:∀ {l:List Nat},Xo EM LM BB l=true->∀p (h:p<l.length),(tb EM l[p]=true∨tb LM l[p]=true)->∀j∈l.drop (p+1),tb LM j=false->l[p]<64∧tb BB (64*j+l[p])=true
 | [],e,p,h=>by simp at h
 | x ::l,e,p,h=>by
  have e:zq (zq (tb EM x) true (tb LM x)) (zq (tb (rH LM BB l) x) (Xo EM LM BB l) false) (Xo EM LM BB l)=true:=e;intro a j b c
  cases p with
  | zero=>
   simp only [List.getElem_cons_zero]at a ⊢;simp only [Nat.zero_add,List.drop_succ_cons,List.drop_zero]at b;simp only [zo]at e
   rw [iI (by
    split
    ·rfl
    ·rename_i i; exact a.resolve_left i)]at e
   split at e
   ·rename_i g;obtain⟨k,m⟩:=Q8 g;exact⟨k,m j b c⟩
   ·cases e
  | succ p=>
   have f:Xo EM LM BB l=true:=by
    revert e
    simp only [zo]
    repeat' split
    all_goals (intro e; first|exact e|(exact absurd e (by simp)))
   simp only [List.getElem_cons_succ]at a ⊢;exact VA f p (by simpa using h) a j (by simpa using b) c
def YI (LM:Nat) (l:List OI) (j:Nat):Nat:=List.rec (motive:=fun _=>Nat->Nat) (fun _=>0) (fun x _ a j=>Option.rec (motive:=fun _=>Nat) (a (Nat.succ j)) (fun d=>zq (tb LM j) (Nat.lor (bt d) (a (Nat.succ j))) (a (Nat.succ j))) x.dst) l j
def Jh {LM:Nat}:∀ {l:List OI} {j i d:Nat} {x:OI},l[i]? =some x->x.dst=some d->tb LM (j+i)=true->tb (YI LM l j) d=true
 | [],j,i,d,x,h,_,_=>by simp at h
 | y ::l,j,i,d,x,h,hd,a=>by
  have e:YI LM (y::l) j=Option.rec (motive:=fun _=>Nat) (YI LM l (Nat.succ j)) (fun d=>zq (tb LM j) (Nat.lor (bt d) (YI LM l (Nat.succ j))) (YI LM l (Nat.succ j))) y.dst:=rfl;rw [e]
  cases i with
  | zero=>
   simp at h; subst h;rw [hd];simp only [Nat.add_zero]at a;simp only [zo,a,if_true,kL,Y2,decide_true,Bool.true_or]
  | succ i=>
   have b:=Jh (LM:=LM) (l:=l) (j:=Nat.succ j) (i:=i) (by simpa using h) hd (by rw [show Nat.succ j+i=j+(i+1)by omega]; exact a)
   cases y.dst with
   |none=>exact b
   | some c=>
    simp only [zo];split
    ·rw [kL,b,Bool.or_true]
    ·exact b
def zb4 (EM LM:Nat) (info:List OI):Bool:=JO (fun i x=>zq (tb LM i) (zq (tb EM i) false (zq x.al (Nat.beq (Nat.land x.r (YI LM info 0)) 0) false)) true) info 0
def ldm (l:List OI):List Nat:=List.rec (motive:=fun _=>List Nat) [] (fun x _ a=>x.d::a) l
def mE:∀l:List OI,ldm l=l.map (·.d)
 | []=>rfl
 | x::l=>by
  have:ldm (x::l)=x.d::ldm l:=rfl;rw [this,mE l]; rfl
def Pa (ops:Array Oper) (n:Nat) (info:List OI) (a:List Nat) (EM LM BB:Nat):Bool:=
 zq (Nat.ble ops.size 64) (zq (JO (fun _ x=>sub? x.d full) info 0) (zq (QZ ops.size (fR (ldm info)) a 0) (zq (Pc BB ops.toList 0) (zq (cz n info 0) (zq (cR EM BB info) (zq (Xo EM LM BB a) (zb4 EM LM info) false) false) false) false) false) false) false
def p9 (M N:Nat):List Nat:=(List.range N).filter fun k=>tb M k
def jD {M N k:Nat}:k∈p9 M N↔k<N∧tb M k=true:=by simp [p9]
def Kp (BB N:Nat):List (List Nat):=(List.range N).map fun j=>(List.range N).filter fun k=>tb BB (64*j+k)
def gV {BB N j k:Nat}:k∈(Kp BB N).getD j []↔j<N∧k<N∧tb BB (64*j+k)=true:=by
 unfold Kp
 by_cases a:j<N
 ·simp [a]
 ·simp [a,Nat.le_of_not_lt a]
def dZ {a b:Bool} (h:zq a b false=true):a=true∧b=true:=by cases a<;>cases b<;>simp_all [zq]
def fv {T:TypeId->TI} {ops:Array Oper} {n:Nat} {a:List Nat} {EM LM BB:Nat} (e:Pa ops n (ops.toList.map (bm T ops)) a EM LM BB=true):
  pt ops n a (p9 EM ops.size) (p9 LM ops.size) (Kp BB ops.size)∧ops.size<=64:=by
 unfold Pa at e;obtain⟨G,e⟩:=dZ e;obtain⟨X,e⟩:=dZ e;obtain⟨z,e⟩:=dZ e;obtain⟨C,e⟩:=dZ e;obtain⟨Y,e⟩:=dZ e;obtain⟨Z,e⟩:=dZ e;obtain⟨h5,h6⟩:=dZ e;have G:ops.size<=64:=iD G;have get:∀ {i:Nat} {o:Oper},ops[i]? =some o->(ops.toList.map (bm T ops))[i]? =some (bm T ops o):=fun {i o} h=>by rw [iV,Array.getElem?_toList,h]; rfl
 have getl:∀ {i:Nat},i<ops.size->ops[i]? =some ops[i]! :=fun {i} h=>by simp [h]
 rw [mE]at z;obtain⟨s,P,_,Q,S⟩:=UQ z;obtain⟨U,W⟩:=Vy Y
 have dsto:∀ {i d:Nat},zQ ops i=some d->∃o,ops[i]? =some o∧o.dst=some d:=fun {i d} h=>by
  unfold zQ at h;exact Option.bind_eq_some_iff.1 h
 have dpd:∀ {i k:Nat},i<ops.size->k<64->(tb (fR ((ops.toList.map (bm T ops)).map (·.d))) (64*i+k)=true↔k∈dp ops i):=fun {i k} b f=>by
  rw [eC _ _ _ f,<-P1 (T:=T) (getl b)]
  have:((ops.toList.map (bm T ops)).map (·.d)).getD i 0=(bm T ops ops[i]!).d:=by
   rw [List.getD_eq_getElem?_getD,iV,get (getl b)]; rfl
  rw [this]
 have l:∀i,i<ops.size->i∈a:=fun i b=>(Q i b).resolve_left (by rw [dD]; simp)
 have A:∀ {i k:Nat},i<ops.size->k∈dp ops i->k<64:=fun {i k} b f=>by
  have h:=(P1 (T:=T) (getl b) k).2 f;have:=GX (Zh X i _ (get (getl b))) h;rw [Vi]at this; simpa using this
 have topo:∀p (h:p<a.length),∀k∈dp ops a[p],k∈a.take p:=fun p h k f=>by
  have b:=s _ (List.getElem_mem h);have v:=A b f;exact(S p h k v ((dpd b v).2 f)).resolve_left (by rw [dD]; simp)
 have dplt:∀ {i k:Nat},i<ops.size->k∈dp ops i->k<ops.size:=fun {i k} b f=>by
  obtain⟨p,M,he⟩:=List.getElem_of_mem (l i b);exact s k (List.mem_of_mem_take (topo p M k (by rw [he]; exact f)))
 have len:a.length=ops.size:=by
  have p1:a.Perm (List.range ops.size):=(List.perm_ext_iff_of_nodup P List.nodup_range).2 fun x=>⟨fun h=>List.mem_range.2 (s x h),fun h=>l x (List.mem_range.1 h)⟩
  rw [p1.length_eq,List.length_range]
 refine⟨{nodup:=P,len:=len,all:=l,lt:=s,topo:=topo,clos:= ?_,dlt:= ?_,uniq:= ?_,reads:= ?_,waits:= ?_,late:= ?_},G⟩
 ·intro j r i b;obtain⟨_,I,K⟩:=gV.1 b;have hl:ops.toList[j]? =some ops[j]! :=by rw [Array.getElem?_toList]; exact getl r
  obtain⟨on,g,h⟩:=JE C j _ hl i (by omega) (by rw [Nat.zero_add]; exact K);have m:on∈dp ops j:=by unfold dp; rw [getl r]; exact g
  rcases h with rfl|h
  ·exact .inl m
  ·exact .inr ⟨on,m,gV.2 ⟨dplt r m,I,h.2⟩⟩
 ·intro i b d hd;obtain⟨o,g,c⟩:=dsto hd;exact(U i _ d (get g) c).1
 ·intro i j b r L d hd H;obtain⟨o,g,c⟩:=dsto hd;obtain⟨o',m,y⟩:=dsto H;exact L (W i j _ _ d (get g) (get m) c y)
 ·intro i b t O k f hd;obtain⟨o,g,c⟩:=dsto hd;rcases DY Z (get (getl b)) (get g) c ((Py (T:=T) (getl b) t).2 O)with h|⟨h,B⟩
  ·exact .inl (gV.2 ⟨b,f,h⟩)
  ·refine .inr ⟨jD.2 ⟨f,h⟩,B.imp id fun B=>gV.2 ⟨f,b,B⟩⟩
 ·intro p h E j r hjL;have w:j<ops.size:=s j (List.mem_of_mem_drop r);have M:=s _ (List.getElem_mem h)
  have hw:=VA h5 p h (E.imp (fun x=>(jD.1 x).2) fun x=>(jD.1 x).2) j r (by
   cases F:tb LM j with
   |false=>rfl
   |true=>exact absurd (jD.2 ⟨w,F⟩) hjL)
  exact gV.2 ⟨w,M,hw.2⟩
 ·intro i hiL b;have F:=(jD.1 hiL).2;have:=Zh h6 i _ (get (getl b));simp only [Nat.zero_add,zo,F,if_true]at this;split at this
  ·cases this
  ·rename_i E;split at this
   ·rename_i q;have hz:=iE this;refine⟨fun h=>E (jD.1 h).2,fun o g=> ?_,fun t O k f hd=> ?_⟩
    ·have:o=ops[i]! :=by rw [getl b]at g; exact(Option.some.inj g).symm
     subst this;have q:(VG ops[i]!.op&&ops[i]!.guard.isNone)=true:=q;rw [iF,Option.isNone_iff_eq_none]at q;exact q.2
    ·obtain⟨o,g,c⟩:=dsto hd;have z:=Jh (LM:=LM) (j:=0) (get g) c (by rw [Nat.zero_add]; exact(jD.1 f).2);have C:=(Py (T:=T) (getl b) t).2 O;have:tb (Nat.land (bm T ops ops[i]!).r (YI LM (ops.toList.map (bm T ops)) 0)) t=true:=by rw [UB,z,C]; rfl
     rw [hz,dD]at this; cases this
   ·cases this
def fp {EM LM N j:Nat} (a:j<N):(p9 EM N++p9 LM N).contains j=tb (Nat.lor EM LM) j:=by
 rw [kL,Bool.eq_iff_iff];simp only [List.contains_iff_mem,List.mem_append,jD,Bool.or_eq_true,a,true_and]
def qQ {M N j:Nat} (a:j<N):(p9 M N).contains j=tb M j:=by
 rw [Bool.eq_iff_iff];simp only [List.contains_iff_mem,jD,a,true_and]
def l8 {BB N i j:Nat} (hi:i<N) (a:j<N):((Kp BB N).getD i []).contains j=tb BB (64*i+j):=by
 rw [Bool.eq_iff_iff];simp only [List.contains_iff_mem,gV,hi,a,true_and]
def ZY (T:TypeId->TI) (ops:Array Oper) (l:List Oper):List OI:=List.rec (motive:=fun _=>List OI) [] (fun o _ a=>bm T ops o::a) l
def K4 (T:TypeId->TI) (ops:Array Oper):∀l,ZY T ops l=l.map (bm T ops)
 | []=>rfl
 | o::l=>by
  have:ZY T ops (o::l)=bm T ops o::ZY T ops l:=rfl;rw [this,K4 T ops l]; rfl
def pBB (l:List Oper) (j BB:Nat):Nat:=List.rec (motive:=fun _=>Nat->Nat->Nat) (fun _ BB=>BB) (fun o _ a j BB=>nfc (Nat.lor BB (Nat.shiftLeft (Wy BB o.after.toList) (Nat.mul 64 j))) fun BB=>a (Nat.succ j) BB) l j BB
def su (l:List OI) (k i r row acc:Nat):Nat:=List.rec (motive:=fun _=>Nat->Nat->Nat->Nat->Nat->Nat) (fun _ _ _ _ acc=>acc) (fun y _ a k i r row acc=>Option.rec (motive:=fun _=>Nat) (a (Nat.succ k) i r row acc) (fun d=>zq (tb r d) (zq (Nat.beq k i) (a (Nat.succ k) i r row (Nat.lor (bt k) acc)) (zq (tb row k) (a (Nat.succ k) i r row acc) (a (Nat.succ k) i r row (Nat.lor (bt k) acc)))) (a (Nat.succ k) i r row acc)) y.dst) l k i r row acc
def zbD (info:List OI) (l:List OI) (i BB acc:Nat):Nat:=List.rec (motive:=fun _=>Nat->Nat->Nat->Nat) (fun _ _ acc=>acc) (fun x _ a i BB acc=>zq (Nat.beq x.r 0) (a (Nat.succ i) BB acc) (nfc (su info 0 i x.r (jd BB i) acc) fun acc=>a (Nat.succ i) BB acc)) l i BB acc
def zcu (l:List OI) (i acc:Nat):Nat:=List.rec (motive:=fun _=>Nat->Nat->Nat) (fun _ acc=>acc) (fun x _ a i acc=>zq x.still (a (Nat.succ i) acc) (a (Nat.succ i) (Nat.lor (bt i) acc))) l i acc
def zdK (l:List OI) (j BB i acc:Nat):Nat:=List.rec (motive:=fun _=>Nat->Nat->Nat->Nat->Nat) (fun _ _ _ acc=>acc) (fun _ _ a j BB i acc=>zq (tb BB (Nat.add (Nat.mul 64 j) i)) (a (Nat.succ j) BB i (Nat.lor (bt j) acc)) (a (Nat.succ j) BB i acc)) l j BB i acc
def zdv (info:List OI) (l:List OI) (i BB TM acc:Nat):Nat:=List.rec (motive:=fun _=>Nat->Nat->Nat->Nat->Nat) (fun _ _ _ acc=>acc) (fun x _ a i BB TM acc=>zq (zq x.al (tb TM i) false) (zq (sub? TM (Nat.lor (bt i) (Nat.lor (jd BB i) (zdK info 0 BB i 0)))) (a (Nat.succ i) BB TM acc) (a (Nat.succ i) BB TM (Nat.lor (bt i) acc))) (a (Nat.succ i) BB TM acc)) l i BB TM acc
def tZ (l:List OI) (i C m:Nat) (K:Nat->Nat->List Nat) (F:List Nat):List Nat:=List.rec (motive:=fun _=>Nat->Nat->Nat->(Nat->Nat->List Nat)->List Nat->List Nat) (fun _ _ _ _ F=>F) (fun x _ a i C m K F=>zq (zq (tb C i) (zq (tb m i) false (sub? x.d m)) false) (K i (Nat.lor (bt i) m)) (a (Nat.succ i) C m K F)) l i C m K F
def za3 (l:List OI) (j EM BB i:Nat):Nat:=List.rec (motive:=fun _=>Nat->Nat->Nat->Nat->Nat) (fun _ _ _ _=>1000) (fun _ _ a j EM BB i=>zq (zq (tb EM j) (tb BB (Nat.add (Nat.mul 64 j) i)) false) j (a (Nat.succ j) EM BB i)) l j EM BB i
def zbe (info:List OI) (l:List OI) (i EM LM BB m best bf:Nat) (K:Nat->Nat->List Nat):List Nat:=List.rec (motive:=fun _=>Nat->Nat->Nat->Nat->Nat->Nat->Nat->(Nat->Nat->List Nat)->List Nat) (fun _ _ _ _ m best _ K=>zq (Nat.beq best 1000) [] (K best (Nat.lor (bt best) m)))
 (fun x _ a i EM LM BB m best bf K=>zq (zq (tb LM i) (zq (tb m i) false (sub? x.d m)) false) (nfc (za3 info 0 EM BB i) fun f=>zq (zq (Nat.beq best 1000) true (Nat.blt f bf)) (a (Nat.succ i) EM LM BB m i f K) (a (Nat.succ i) EM LM BB m best bf K)) (a (Nat.succ i) EM LM BB m best bf K)) l i EM LM BB m best bf K
def za6 (info:List OI) (n SM EM LM BB m:Nat):List Nat:=Nat.rec (motive:=fun _=>Nat->Nat->Nat->Nat->Nat->List Nat) (fun _ _ _ _ _=> []) (fun _ a SM EM LM BB m=>tZ info 0 SM m (fun i m=>nfc i fun i=>nfc m fun m=>i::a SM EM LM BB m) (tZ info 0 EM m (fun i m=>nfc i fun i=>nfc m fun m=>i::a SM EM LM BB m) (zbe info info 0 EM LM BB m 1000 1000 fun i m=>nfc i fun i=>nfc m fun m=>i::a SM EM LM BB m))) n SM EM LM BB m
def lfc {R:Type} (l:List Nat) (K:List Nat->R):R:=List.rec (motive:=fun _=>(List Nat->R)->R) (fun K=>K []) (fun x _ a K=>nfc x fun x=>a fun l=>K (x::l)) l K
def XP {R:Type}:∀(l:List Nat) (K:List Nat->R),lfc l K=K l
 | [],K=>rfl
 | x::l,K=>by
  have:lfc (x::l) K=nfc x fun x=>lfc l fun l=>K (x::l):=rfl;rw [this,zH,XP l]
section
variable {R:Type}
def cM (T:TypeId->TI) (ops:Array Oper) (n:Nat) (K:List Nat->Nat->Nat->Nat->R) (F:R):R:=
 nfc (pBB ops.toList 0 0) fun BB=>
 nfc (zbD (ZY T ops ops.toList) (ZY T ops ops.toList) 0 BB (zcu (ZY T ops ops.toList) 0 0)) fun TM=>
 nfc (zdv (ZY T ops ops.toList) (ZY T ops ops.toList) 0 BB TM 0) fun LM=>
 nfc (Nat.sub TM LM) fun EM=>
 lfc (za6 (ZY T ops ops.toList) ops.size (Nat.sub full (Nat.land TM full)) EM LM BB 0) fun a=>
 zq (Pa ops n (ZY T ops ops.toList) a EM LM BB) (K a EM LM BB) F
def nI (T:TypeId->TI) (ops:Array Oper) (n:Nat) (K:List Nat->Nat->Nat->Nat->R) (F:R):cM T ops n K F=F∨∃a EM LM BB,(pt ops n a (p9 EM ops.size) (p9 LM ops.size) (Kp BB ops.size)∧ops.size<=64)∧cM T ops n K F=K a EM LM BB:=by
 unfold cM;simp only [zH,XP,zo,K4];split
 ·rename_i h;exact .inr ⟨_,_,_,_,fv h,rfl⟩
 ·exact .inl rfl
end
end Go.K
end
