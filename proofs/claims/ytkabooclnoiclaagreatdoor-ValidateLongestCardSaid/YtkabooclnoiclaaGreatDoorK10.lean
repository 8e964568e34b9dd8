/- Closed runs: a part. No condition beyond each statement's own. -/
import Derived.Test.YtkabooclnoiclaaGreatDoorK09
set_option linter.all false
section
namespace Go.K
open Go.Abs
abbrev QR:=Option (KV×KH)
abbrev QK:=KV→KH→QR
noncomputable def KV.hd (v:KV) (K:KV→QR):QR:=KV.rec (motive_1:=fun _=>(KV→QR)→QR) (motive_2:=fun _=>(KV→QR)→QR) (fun K=>K .junk) (fun b K=>K (.bool b)) (fun k n K=>K (.int k n)) (fun n s K=>K (.str n s)) (fun i o K=>K (.ptr i o)) (fun K=>K .nilp) (fun i o l c s K=>K (.sl i o l c s)) (fun K=>K .slz) (fun K=>K .nilsl) (fun fn x y _ _ K=>K (.func fn x y)) (fun K=>K .nilfunc) (fun i K=>K (.yield i)) (fun a _ K=>K (.agg a)) (fun a _ K=>K (.tuple a)) (fun i K=>K (.map i)) (fun K=>K .nilmap) (fun ty u _ K=>K (.iface ty u)) (fun K=>K .niliface) (fun K=>K .junk) (fun _ _ _ _ K=>K .junk) v K
noncomputable def KV.onBool (v:KV) (f:Bool→QR) (d:QR):QR:=KV.rec (motive_1:=fun _=>(Bool→QR)→(QR)→QR) (motive_2:=fun _=>(Bool→QR)→(QR)→QR) (fun f d=>d) (fun b f d=>f b) (fun _ _ f d=>d) (fun _ _ f d=>d) (fun _ _ f d=>d) (fun f d=>d) (fun _ _ _ _ _ f d=>d) (fun f d=>d) (fun f d=>d) (fun _ _ _ _ _ f d=>d) (fun f d=>d) (fun _ f d=>d) (fun _ _ f d=>d) (fun _ _ f d=>d) (fun _ f d=>d) (fun f d=>d) (fun _ _ _ f d=>d) (fun f d=>d) (fun f d=>d) (fun _ _ _ _ f d=>d) v f d
noncomputable def KV.onInt (v:KV) (f:IntKind→Int→QR) (d:QR):QR:=KV.rec (motive_1:=fun _=>(IntKind→Int→QR)→(QR)→QR) (motive_2:=fun _=>(IntKind→Int→QR)→(QR)→QR) (fun f d=>d) (fun _ f d=>d) (fun k n f d=>f k n) (fun _ _ f d=>d) (fun _ _ f d=>d) (fun f d=>d) (fun _ _ _ _ _ f d=>d) (fun f d=>d) (fun f d=>d) (fun _ _ _ _ _ f d=>d) (fun f d=>d) (fun _ f d=>d) (fun _ _ f d=>d) (fun _ _ f d=>d) (fun _ f d=>d) (fun f d=>d) (fun _ _ _ f d=>d) (fun f d=>d) (fun f d=>d) (fun _ _ _ _ f d=>d) v f d
noncomputable def KV.onStr (v:KV) (f:Nat→Nat→QR) (d:QR):QR:=KV.rec (motive_1:=fun _=>(Nat→Nat→QR)→(QR)→QR) (motive_2:=fun _=>(Nat→Nat→QR)→(QR)→QR) (fun f d=>d) (fun _ f d=>d) (fun _ _ f d=>d) (fun n s f d=>f n s) (fun _ _ f d=>d) (fun f d=>d) (fun _ _ _ _ _ f d=>d) (fun f d=>d) (fun f d=>d) (fun _ _ _ _ _ f d=>d) (fun f d=>d) (fun _ f d=>d) (fun _ _ f d=>d) (fun _ _ f d=>d) (fun _ f d=>d) (fun f d=>d) (fun _ _ _ f d=>d) (fun f d=>d) (fun f d=>d) (fun _ _ _ _ f d=>d) v f d
noncomputable def KV.onPtr (v:KV) (f:Nat→Nat→QR) (d:QR):QR:=KV.rec (motive_1:=fun _=>(Nat→Nat→QR)→(QR)→QR) (motive_2:=fun _=>(Nat→Nat→QR)→(QR)→QR) (fun f d=>d) (fun _ f d=>d) (fun _ _ f d=>d) (fun _ _ f d=>d) (fun i o f d=>f i o) (fun f d=>d) (fun _ _ _ _ _ f d=>d) (fun f d=>d) (fun f d=>d) (fun _ _ _ _ _ f d=>d) (fun f d=>d) (fun _ f d=>d) (fun _ _ f d=>d) (fun _ _ f d=>d) (fun _ f d=>d) (fun f d=>d) (fun _ _ _ f d=>d) (fun f d=>d) (fun f d=>d) (fun _ _ _ _ f d=>d) v f d
noncomputable def KV.onSl (v:KV) (f:Nat→Nat→Nat→Option Nat→Nat→QR) (z:QR) (m:QR) (d:QR):QR:=KV.rec (motive_1:=fun _=>(Nat→Nat→Nat→Option Nat→Nat→QR)→(QR)→(QR)→(QR)→QR) (motive_2:=fun _=>(Nat→Nat→Nat→Option Nat→Nat→QR)→(QR)→(QR)→(QR)→QR) (fun f z m d=>d) (fun _ f z m d=>d) (fun _ _ f z m d=>d) (fun _ _ f z m d=>d) (fun _ _ f z m d=>d) (fun f z m d=>d) (fun i o l c s f z m d=>f i o l c s) (fun f z m d=>z) (fun f z m d=>m) (fun _ _ _ _ _ f z m d=>d) (fun f z m d=>d) (fun _ f z m d=>d) (fun _ _ f z m d=>d) (fun _ _ f z m d=>d) (fun _ f z m d=>d) (fun f z m d=>d) (fun _ _ _ f z m d=>d) (fun f z m d=>d) (fun f z m d=>d) (fun _ _ _ _ f z m d=>d) v f z m d
noncomputable def KV.onAgg (v:KV) (f:List KV→QR) (d:QR):QR:=KV.rec (motive_1:=fun _=>(List KV→QR)→(QR)→QR) (motive_2:=fun _=>(List KV→QR)→(QR)→QR) (fun f d=>d) (fun _ f d=>d) (fun _ _ f d=>d) (fun _ _ f d=>d) (fun _ _ f d=>d) (fun f d=>d) (fun _ _ _ _ _ f d=>d) (fun f d=>d) (fun f d=>d) (fun _ _ _ _ _ f d=>d) (fun f d=>d) (fun _ f d=>d) (fun a _ f d=>f a) (fun _ _ f d=>d) (fun _ f d=>d) (fun f d=>d) (fun _ _ _ f d=>d) (fun f d=>d) (fun f d=>d) (fun _ _ _ _ f d=>d) v f d
noncomputable def KV.onTuple (v:KV) (f:List KV→QR) (d:QR):QR:=KV.rec (motive_1:=fun _=>(List KV→QR)→(QR)→QR) (motive_2:=fun _=>(List KV→QR)→(QR)→QR) (fun f d=>d) (fun _ f d=>d) (fun _ _ f d=>d) (fun _ _ f d=>d) (fun _ _ f d=>d) (fun f d=>d) (fun _ _ _ _ _ f d=>d) (fun f d=>d) (fun f d=>d) (fun _ _ _ _ _ f d=>d) (fun f d=>d) (fun _ f d=>d) (fun _ _ f d=>d) (fun a _ f d=>f a) (fun _ f d=>d) (fun f d=>d) (fun _ _ _ f d=>d) (fun f d=>d) (fun f d=>d) (fun _ _ _ _ f d=>d) v f d
noncomputable def KV.onFunc (v:KV) (f:Fn→List KV→List KV→QR) (g:Nat→QR) (d:QR):QR:=KV.rec (motive_1:=fun _=>(Fn→List KV→List KV→QR)→(Nat→QR)→(QR)→QR) (motive_2:=fun _=>(Fn→List KV→List KV→QR)→(Nat→QR)→(QR)→QR) (fun f g d=>d) (fun _ f g d=>d) (fun _ _ f g d=>d) (fun _ _ f g d=>d) (fun _ _ f g d=>d) (fun f g d=>d) (fun _ _ _ _ _ f g d=>d) (fun f g d=>d) (fun f g d=>d) (fun fn x y _ _ f g d=>f fn x y) (fun f g d=>d) (fun i f g d=>g i) (fun _ _ f g d=>d) (fun _ _ f g d=>d) (fun _ f g d=>d) (fun f g d=>d) (fun _ _ _ f g d=>d) (fun f g d=>d) (fun f g d=>d) (fun _ _ _ _ f g d=>d) v f g d
noncomputable def KV.onIface (v:KV) (f:TypeId→KV→QR) (m:QR) (d:QR):QR:=KV.rec (motive_1:=fun _=>(TypeId→KV→QR)→(QR)→(QR)→QR) (motive_2:=fun _=>(TypeId→KV→QR)→(QR)→(QR)→QR) (fun f m d=>d) (fun _ f m d=>d) (fun _ _ f m d=>d) (fun _ _ f m d=>d) (fun _ _ f m d=>d) (fun f m d=>d) (fun _ _ _ _ _ f m d=>d) (fun f m d=>d) (fun f m d=>d) (fun _ _ _ _ _ f m d=>d) (fun f m d=>d) (fun _ f m d=>d) (fun _ _ f m d=>d) (fun _ _ f m d=>d) (fun _ f m d=>d) (fun f m d=>d) (fun ty u _ f m d=>f ty u) (fun f m d=>m) (fun f m d=>d) (fun _ _ _ _ f m d=>d) v f m d
noncomputable def KV.onCell (v:KV) (t:QR) (d:QR):QR:=KV.rec (motive_1:=fun _=>(QR)→(QR)→QR) (motive_2:=fun _=>(QR)→(QR)→QR) (fun t d=>d) (fun b t d=>t) (fun k n t d=>t) (fun n s t d=>t) (fun i o t d=>t) (fun t d=>t) (fun i o l c s t d=>t) (fun t d=>t) (fun t d=>t) (fun fn x y _ _ t d=>t) (fun t d=>t) (fun i t d=>t) (fun _ _ t d=>d) (fun _ _ t d=>d) (fun i t d=>t) (fun t d=>t) (fun ty u _ t d=>t) (fun t d=>t) (fun t d=>d) (fun _ _ _ _ t d=>d) v t d
theorem KV.hd_eq (v:KV) (K:KV→QR):v.hd K=K v:=by cases v<;>rfl
theorem KV.onCell_eq (v:KV) (t d:QR):v.onCell t d=if v.isCell=true then t else d:=by cases v<;>rfl
section
variable {R:Type}
noncomputable def nfc (n:Nat) (K:Nat→R):R:=Nat.rec (motive:=fun _=>(Nat→R)→R) (fun K=>K .zero) (fun n _ K=>K (.succ n)) n K
theorem zi (n:Nat) (K:Nat→R):nfc n K=K n:=by cases n<;>rfl
noncomputable def ifc (n:Int) (K:Int→R):R:=Int.rec (motive:=fun _=>R) (fun n=>nfc n fun n=>K (.ofNat n)) (fun n=>nfc n fun n=>K (.negSucc n)) n
theorem Qk (n:Int) (K:Int→R):ifc n K=K n:=by cases n<;>simp only [ifc,zi]
noncomputable def YW (n:Option Nat) (K:Option Nat→R):R:=Option.rec (motive:=fun _=>R) (K none) (fun n=>nfc n fun n=>K (some n)) n
theorem WH (n:Option Nat) (K:Option Nat→R):YW n K=K n:=by cases n<;>simp only [YW,zi]
noncomputable def bfc (b:Bool) (K:Bool→R):R:=Bool.rec (motive:=fun _=>(Bool→R)→R) (fun K=>K false) (fun K=>K true) b K
theorem Wq (b:Bool) (K:Bool→R):bfc b K=K b:=by cases b<;>rfl
noncomputable def zb (b:Bool) (t e:R):R:=Bool.rec (motive:=fun _=>R) e t b
theorem za (b:Bool) (t e:R):zb b t e=if b=true then t else e:=by cases b<;>rfl
end
inductive Sel (β γ:Type) where
 |mk (g:β→γ)
inductive Upd (α β:Type) where
 |mk (u:(α→(α→QR)→QR)→β→(β→QR)→QR)
abbrev S1:=N16 KV
abbrev S2:=N16 S1
abbrev H0:=Option KO
abbrev H1:=N16 H0
abbrev H2:=N16 H1
abbrev H3:=N16 H2
noncomputable def sa0 {α:Type} (f:α→(α→QR)→QR) (n:N16 α) (k:N16 α→QR):QR:=N16.rec (motive:=fun _=>(α→(α→QR)→QR)→(N16 α→QR)→QR) (fun a0 a1 a2 a3 a4 a5 a6 a7 a8 a9 a10 a11 a12 a13 a14 a15 f k=>f a0 fun v=>k ⟨v,a1,a2,a3,a4,a5,a6,a7,a8,a9,a10,a11,a12,a13,a14,a15⟩) n f k
noncomputable def sa1 {α:Type} (f:α→(α→QR)→QR) (n:N16 α) (k:N16 α→QR):QR:=N16.rec (motive:=fun _=>(α→(α→QR)→QR)→(N16 α→QR)→QR) (fun a0 a1 a2 a3 a4 a5 a6 a7 a8 a9 a10 a11 a12 a13 a14 a15 f k=>f a1 fun v=>k ⟨a0,v,a2,a3,a4,a5,a6,a7,a8,a9,a10,a11,a12,a13,a14,a15⟩) n f k
noncomputable def sa2 {α:Type} (f:α→(α→QR)→QR) (n:N16 α) (k:N16 α→QR):QR:=N16.rec (motive:=fun _=>(α→(α→QR)→QR)→(N16 α→QR)→QR) (fun a0 a1 a2 a3 a4 a5 a6 a7 a8 a9 a10 a11 a12 a13 a14 a15 f k=>f a2 fun v=>k ⟨a0,a1,v,a3,a4,a5,a6,a7,a8,a9,a10,a11,a12,a13,a14,a15⟩) n f k
noncomputable def sa3 {α:Type} (f:α→(α→QR)→QR) (n:N16 α) (k:N16 α→QR):QR:=N16.rec (motive:=fun _=>(α→(α→QR)→QR)→(N16 α→QR)→QR) (fun a0 a1 a2 a3 a4 a5 a6 a7 a8 a9 a10 a11 a12 a13 a14 a15 f k=>f a3 fun v=>k ⟨a0,a1,a2,v,a4,a5,a6,a7,a8,a9,a10,a11,a12,a13,a14,a15⟩) n f k
noncomputable def sa4 {α:Type} (f:α→(α→QR)→QR) (n:N16 α) (k:N16 α→QR):QR:=N16.rec (motive:=fun _=>(α→(α→QR)→QR)→(N16 α→QR)→QR) (fun a0 a1 a2 a3 a4 a5 a6 a7 a8 a9 a10 a11 a12 a13 a14 a15 f k=>f a4 fun v=>k ⟨a0,a1,a2,a3,v,a5,a6,a7,a8,a9,a10,a11,a12,a13,a14,a15⟩) n f k
noncomputable def sa5 {α:Type} (f:α→(α→QR)→QR) (n:N16 α) (k:N16 α→QR):QR:=N16.rec (motive:=fun _=>(α→(α→QR)→QR)→(N16 α→QR)→QR) (fun a0 a1 a2 a3 a4 a5 a6 a7 a8 a9 a10 a11 a12 a13 a14 a15 f k=>f a5 fun v=>k ⟨a0,a1,a2,a3,a4,v,a6,a7,a8,a9,a10,a11,a12,a13,a14,a15⟩) n f k
noncomputable def sa6 {α:Type} (f:α→(α→QR)→QR) (n:N16 α) (k:N16 α→QR):QR:=N16.rec (motive:=fun _=>(α→(α→QR)→QR)→(N16 α→QR)→QR) (fun a0 a1 a2 a3 a4 a5 a6 a7 a8 a9 a10 a11 a12 a13 a14 a15 f k=>f a6 fun v=>k ⟨a0,a1,a2,a3,a4,a5,v,a7,a8,a9,a10,a11,a12,a13,a14,a15⟩) n f k
noncomputable def sa7 {α:Type} (f:α→(α→QR)→QR) (n:N16 α) (k:N16 α→QR):QR:=N16.rec (motive:=fun _=>(α→(α→QR)→QR)→(N16 α→QR)→QR) (fun a0 a1 a2 a3 a4 a5 a6 a7 a8 a9 a10 a11 a12 a13 a14 a15 f k=>f a7 fun v=>k ⟨a0,a1,a2,a3,a4,a5,a6,v,a8,a9,a10,a11,a12,a13,a14,a15⟩) n f k
noncomputable def sa8 {α:Type} (f:α→(α→QR)→QR) (n:N16 α) (k:N16 α→QR):QR:=N16.rec (motive:=fun _=>(α→(α→QR)→QR)→(N16 α→QR)→QR) (fun a0 a1 a2 a3 a4 a5 a6 a7 a8 a9 a10 a11 a12 a13 a14 a15 f k=>f a8 fun v=>k ⟨a0,a1,a2,a3,a4,a5,a6,a7,v,a9,a10,a11,a12,a13,a14,a15⟩) n f k
noncomputable def sa9 {α:Type} (f:α→(α→QR)→QR) (n:N16 α) (k:N16 α→QR):QR:=N16.rec (motive:=fun _=>(α→(α→QR)→QR)→(N16 α→QR)→QR) (fun a0 a1 a2 a3 a4 a5 a6 a7 a8 a9 a10 a11 a12 a13 a14 a15 f k=>f a9 fun v=>k ⟨a0,a1,a2,a3,a4,a5,a6,a7,a8,v,a10,a11,a12,a13,a14,a15⟩) n f k
noncomputable def zaA {α:Type} (f:α→(α→QR)→QR) (n:N16 α) (k:N16 α→QR):QR:=N16.rec (motive:=fun _=>(α→(α→QR)→QR)→(N16 α→QR)→QR) (fun a0 a1 a2 a3 a4 a5 a6 a7 a8 a9 a10 a11 a12 a13 a14 a15 f k=>f a10 fun v=>k ⟨a0,a1,a2,a3,a4,a5,a6,a7,a8,a9,v,a11,a12,a13,a14,a15⟩) n f k
noncomputable def zas {α:Type} (f:α→(α→QR)→QR) (n:N16 α) (k:N16 α→QR):QR:=N16.rec (motive:=fun _=>(α→(α→QR)→QR)→(N16 α→QR)→QR) (fun a0 a1 a2 a3 a4 a5 a6 a7 a8 a9 a10 a11 a12 a13 a14 a15 f k=>f a11 fun v=>k ⟨a0,a1,a2,a3,a4,a5,a6,a7,a8,a9,a10,v,a12,a13,a14,a15⟩) n f k
noncomputable def zaa {α:Type} (f:α→(α→QR)→QR) (n:N16 α) (k:N16 α→QR):QR:=N16.rec (motive:=fun _=>(α→(α→QR)→QR)→(N16 α→QR)→QR) (fun a0 a1 a2 a3 a4 a5 a6 a7 a8 a9 a10 a11 a12 a13 a14 a15 f k=>f a12 fun v=>k ⟨a0,a1,a2,a3,a4,a5,a6,a7,a8,a9,a10,a11,v,a13,a14,a15⟩) n f k
noncomputable def zaZ {α:Type} (f:α→(α→QR)→QR) (n:N16 α) (k:N16 α→QR):QR:=N16.rec (motive:=fun _=>(α→(α→QR)→QR)→(N16 α→QR)→QR) (fun a0 a1 a2 a3 a4 a5 a6 a7 a8 a9 a10 a11 a12 a13 a14 a15 f k=>f a13 fun v=>k ⟨a0,a1,a2,a3,a4,a5,a6,a7,a8,a9,a10,a11,a12,v,a14,a15⟩) n f k
noncomputable def zad {α:Type} (f:α→(α→QR)→QR) (n:N16 α) (k:N16 α→QR):QR:=N16.rec (motive:=fun _=>(α→(α→QR)→QR)→(N16 α→QR)→QR) (fun a0 a1 a2 a3 a4 a5 a6 a7 a8 a9 a10 a11 a12 a13 a14 a15 f k=>f a14 fun v=>k ⟨a0,a1,a2,a3,a4,a5,a6,a7,a8,a9,a10,a11,a12,a13,v,a15⟩) n f k
noncomputable def za2 {α:Type} (f:α→(α→QR)→QR) (n:N16 α) (k:N16 α→QR):QR:=N16.rec (motive:=fun _=>(α→(α→QR)→QR)→(N16 α→QR)→QR) (fun a0 a1 a2 a3 a4 a5 a6 a7 a8 a9 a10 a11 a12 a13 a14 a15 f k=>f a15 fun v=>k ⟨a0,a1,a2,a3,a4,a5,a6,a7,a8,a9,a10,a11,a12,a13,a14,v⟩) n f k
noncomputable def saU {α S:Type} (i:Nat) (K:((α→(α→QR)→QR)→N16 α→(N16 α→QR)→QR)→S):S:=(bif Nat.blt i 8 then(bif Nat.blt i 4 then(bif Nat.blt i 2 then(bif Nat.blt i 1 then K sa0 else K sa1)else(bif Nat.blt i 3 then K sa2 else K sa3))else(bif Nat.blt i 6 then(bif Nat.blt i 5 then K sa4 else K sa5)else(bif Nat.blt i 7 then K sa6 else K sa7)))else(bif Nat.blt i 12 then(bif Nat.blt i 10 then(bif Nat.blt i 9 then K sa8 else K sa9)else(bif Nat.blt i 11 then K zaA else K zas))else(bif Nat.blt i 14 then(bif Nat.blt i 13 then K zaa else K zaZ)else(bif Nat.blt i 15 then K zad else K za2))))
theorem pl {α S:Type} (K:((α→(α→QR)→QR)→N16 α→(N16 α→QR)→QR)→S):∀i,i<16→saU i K=K fun f n k=>f (N16.get n i) fun v=>k (N16.set n i v):=by
 refine Gu ?_ ?_ ?_ ?_ ?_ ?_ ?_ ?_ ?_ ?_ ?_ ?_ ?_ ?_ ?_ ?_<;>rfl
noncomputable def slo (u:(KV→(KV→QR)→QR)→S2→(S2→QR)→QR) (f:KV→(KV→QR)→QR) (s:Sl) (K:Sl→QR):QR:=Sl.rec (motive:=fun _=>((KV→(KV→QR)→QR)→S2→(S2→QR)→QR)→(KV→(KV→QR)→QR)→(Sl→QR)→QR) (fun lo hi u f K=>u f lo fun lo=>K ⟨lo,hi⟩) s u f K
noncomputable def dS (t:Nat):Sel Sl KV:=bif Nat.blt t 256 then Yu (α:=S1) (t/16) fun p=>Yu (α:=KV) (t%16) fun q=> .mk fun s=>q (p s.lo)else .mk fun s=>zq s.hi t
noncomputable def dU (t:Nat):Upd KV Sl:=bif Nat.blt t 256 then saU (α:=S1) (t/16) fun p=>saU (α:=KV) (t%16) fun q=> .mk fun f s K=>slo (fun f=>p (q f)) f s K else .mk fun f s K=>f (zq s.hi t) fun v=>K ⟨s.lo,bW s.hi t v⟩
theorem V7 (t:Nat):dS t= .mk fun s=>zN s t:=by
 unfold dS zN
 rw [zL,Bool.cond_decide]
 by_cases h:t<256
 ·simp only [if_pos h]
  rw [js _ _ (by omega),js _ _ (by omega)]
  rfl
 ·simp only [if_neg h]
theorem GT (t:Nat):dU t= .mk fun f s K=>f (zN s t) fun v=>K (xp s t v):=by
 unfold dU zN xp
 rw [zL,Bool.cond_decide]
 by_cases h:t<256
 ·simp only [if_pos h]
  rw [pl _ _ (by omega),pl _ _ (by omega)]
  rfl
 ·simp only [if_neg h]
noncomputable def dH (id:Nat):Sel (N64k KO) (Option KO):=bif Nat.blt id 65536 then Yu (α:=H3) (id/256/16) fun a=>Yu (α:=H2) (id/256%16) fun b=>Yu (α:=H1) (id%256/16) fun c=>Yu (α:=H0) (id%256%16) fun d=> .mk fun m=>d (c (b (a m)))else .mk fun m=>none
noncomputable def uH (id:Nat):Upd (Option KO) (N64k KO):=bif Nat.blt id 65536 then saU (α:=H3) (id/256/16) fun a=>saU (α:=H2) (id/256%16) fun b=>saU (α:=H1) (id%256/16) fun c=>saU (α:=H0) (id%256%16) fun d=> .mk fun f m K=>a (b (c (d f))) m K else .mk fun f m K=>f none fun _=>K m
theorem tk (id:Nat):dH id= .mk fun m=>N64k.get m id:=by
 unfold dH N64k.get
 rw [zL,Bool.cond_decide]
 by_cases h:id<65536
 ·simp only [if_pos h]
  rw [js _ _ (by omega),js _ _ (by omega),js _ _ (by omega),js _ _ (by omega)]
  rfl
 ·simp only [if_neg h]
theorem GW (id:Nat):uH id= .mk fun f m K=>f (N64k.get m id) fun v=>K (N64k.set m id v):=by
 unfold uH N64k.get N64k.set
 rw [zL,Bool.cond_decide]
 by_cases h:id<65536
 ·simp only [if_pos h]
  rw [pl _ _ (by omega),pl _ _ (by omega),pl _ _ (by omega),pl _ _ (by omega)]
  rfl
 ·simp only [if_neg h]
noncomputable def ogo (o:Option KO) (K:KO→QR):QR:=Option.rec (motive:=fun _=>(KO→QR)→QR) (fun _=>none) (fun o K=>K o) o K
noncomputable def xX (h:KH) (id:Nat) (K:KO→QR):QR:=Sel.rec (motive:=fun _=>KH→(KO→QR)→QR) (fun g h K=>ogo (g h.t) K) (dH id) h K
theorem xo (h:KH) (id:Nat) (K:KO→QR):xX h id K=(h.get id).elim none K:=by
 unfold xX
 rw [tk]
 show ogo (h.get id) K=_
 cases h.get id<;>rfl
noncomputable def Y4 (u:Upd (Option KO) (N64k KO)) (o:Option KO) (t:N64k KO) (n:Nat) (K:KH→QR):QR:=Upd.rec (motive:=fun _=>Option KO→N64k KO→Nat→(KH→QR)→QR) (fun u o t n K=>u (fun _ k=>k o) t fun t=>K ⟨t,n⟩) u o t n K
noncomputable def qh (h:KH) (id:Nat) (o:KO) (K:KH→QR):QR:=Y4 (uH id) (some o) h.t h.next K
theorem uo (h:KH) (id:Nat) (o:KO) (K:KH→QR):qh h id o K=K (h.set id (some o)):=by
 unfold qh Y4; rw [GW]; rfl
noncomputable def QD (h:KH) (id:Nat) (K:KH→QR):QR:=Y4 (uH id) none h.t h.next K
theorem Bs (h:KH) (id:Nat) (K:KH→QR):QD h id K=K (h.set id none):=by
 unfold QD Y4; rw [GW]; rfl
noncomputable def PG (t:N64k KO) (o:KO) (K:Nat→KH→QR) (i:Nat):QR:=zb (Nat.blt (Nat.succ i) 65000) (nfc (Nat.succ i) fun n=>Y4 (uH i) (some o) t n (K i)) none
noncomputable def yQ (h:KH) (o:KO) (K:Nat→KH→QR):QR:=nfc h.next (PG h.t o K)
theorem yI (h:KH) (o:KO) (K:Nat→KH→QR):yQ h o K=if yw h=true then K h.next (h.push o)else none:=by
 unfold yQ PG Y4
 simp only [zi,za]
 rw [GW]
 rfl
noncomputable def Gp (l:List KV) (i:Nat) (K:KV→QR):QR:=List.rec (motive:=fun _=>Nat→(KV→QR)→QR) (fun _ _=>none) (fun v _ ih i K=>Nat.rec (motive:=fun _=>QR) (K v) (fun j _=>ih j K) i) l i K
theorem Ze (l:List KV) (i:Nat) (K:KV→QR):Gp l i K=(l[i]?).elim none K:=by
 induction l generalizing i with
 |nil=>rfl
 | cons v r ih=>cases i with
  |zero=>rfl
  |succ i=>exact ih i
noncomputable def ZE (l:List KV) (i:Nat) (K:List KV→QR):QR:=List.rec (motive:=fun _=>Nat→(List KV→QR)→QR) (fun _ K=>K []) (fun v r ih i K=>Nat.rec (motive:=fun _=>QR) (K (v::r)) (fun j _=>ih j K) i) l i K
theorem qV (l:List KV) (i:Nat) (K:List KV→QR):ZE l i K=K (l.drop i):=by
 induction l generalizing i with
 |nil=>simp only [List.drop_nil]; rfl
 | cons v r ih=>cases i with
  |zero=>rfl
  |succ i=>exact ih i
noncomputable def gf (l:List KV) (n:Nat) (K:List KV→QR):QR:=List.rec (motive:=fun _=>Nat→(List KV→QR)→QR) (fun n K=>Nat.rec (motive:=fun _=>QR) (K []) (fun _ _=>none) n) (fun v _ ih n K=>Nat.rec (motive:=fun _=>QR) (K []) (fun m _=>ih m fun l=>K (v::l)) n) l n K
theorem kg (l:List KV) (n:Nat) (K:List KV→QR):gf l n K=if(l.take n).length=n then K (l.take n)else none:=by
 induction l generalizing n K with
 | nil=>cases n with
  |zero=>rfl
  |succ n=>simp only [List.take_nil,List.length_nil]; rfl
 | cons v r ih=>cases n with
  |zero=>rfl
  | succ n=>
   have:gf (v::r) (n+1) K=gf r n fun l=>K (v::l):=rfl
   rw [this,ih]
   simp only [List.take_succ_cons,List.length_cons,Nat.add_right_cancel_iff]
noncomputable def dG (l r:List KV) (K:List KV→QR):QR:=List.rec (motive:=fun _=>List KV→(List KV→QR)→QR) (fun r K=>K r) (fun v _ ih r K=>ih r fun l=>K (v::l)) l r K
theorem j3 (l r:List KV) (K:List KV→QR):dG l r K=K (l++r):=by
 induction l generalizing K with
 |nil=>rfl
 |cons v l ih=>exact ih _
noncomputable def X9 (l:List KV) (off n:Nat) (new:List KV) (K:List KV→QR):QR:=
 List.rec (motive:=fun _=>Nat→Nat→List KV→(List KV→QR)→QR) (fun off n new K=>Nat.rec (motive:=fun _=>QR) (Nat.rec (motive:=fun _=>QR) (K new) (fun _ _=>none) n) (fun _ _=>none) off)
  (fun v r ih off n new K=>Nat.rec (motive:=fun _=>QR) (gf (v::r) n fun _=>ZE (v::r) n fun r=>dG new r K) (fun j _=>ih j n new fun l=>K (v::l)) off) l off n new K
theorem pY (l:List KV) (off n:Nat) (new:List KV) (K:List KV→QR):X9 l off n new K=if off+n≤l.length then K (l.take off++new++l.drop (off+n))else none:=by
 induction l generalizing off K with
 | nil=>
  cases off with
  | zero=>cases n with
   |zero=>simp only [Nat.add_zero,List.length_nil,Nat.le_refl,if_true,List.take_nil,List.drop_nil,List.nil_append,List.append_nil]; rfl
   |succ n=>rw [if_neg (by simp)]; rfl
  |succ off=>rw [if_neg (by simp only [List.length_nil]; omega)]; rfl
 | cons v r ih=>cases off with
  | zero=>
   have:X9 (v::r) 0 n new K=gf (v::r) n fun _=>ZE (v::r) n fun r=>dG new r K:=rfl
   rw [this,kg]
   simp only [qV,j3,Nat.zero_add,List.take_zero,List.nil_append]
   have e:((v::r).take n).length=n↔n≤(v::r).length:=by rw [List.length_take]; omega
   by_cases h:n≤(v::r).length
   ·rw [if_pos h,if_pos (e.2 h)]
   ·rw [if_neg h,if_neg (fun h'=>h (e.1 h'))]
  | succ off=>
   have:X9 (v::r) (off+1) n new K=X9 r off n new fun l=>K (v::l):=rfl
   rw [this,ih]
   have e:off+n≤r.length↔off+1+n≤(v::r).length:=by simp only [List.length_cons]; omega
   have e2:off+1+n=(off+n)+1:=by omega
   by_cases h:off+n≤r.length
   ·rw [if_pos h,if_pos (e.1 h),e2]; rfl
   ·rw [if_neg h,if_neg (fun h'=>h (e.2 h'))]
noncomputable def lQ (l:List KV) (K:Nat→QR):QR:=List.rec (motive:=fun _=>Nat→(Nat→QR)→QR) (fun n K=>nfc n K) (fun _ _ ih n K=>nfc (Nat.succ n) fun n=>ih n K) l 0 K
theorem WX (l:List KV) (K:Nat→QR):lQ l K=K l.length:=by
 have:∀n,List.rec (motive:=fun _=>Nat→(Nat→QR)→QR) (fun n K=>nfc n K) (fun _ _ ih n K=>nfc (Nat.succ n) fun n=>ih n K) l n K=K (l.length+n):=by
  induction l with
  |nil=>intro n; simp [zi]
  |cons v r ih=>intro n; refine(zi _ _).trans ((ih (Nat.succ n)).trans ?_); congr 1; simp only [List.length_cons]; omega
 exact this 0
noncomputable def de (l:List KV) (n:Nat) (K:QR):QR:=List.rec (motive:=fun _=>Nat→QR→QR) (fun n K=>Nat.rec (motive:=fun _=>QR) K (fun _ _=>none) n) (fun v _ ih n K=>Nat.rec (motive:=fun _=>QR) none (fun m _=>v.onCell (ih m K) none) n) l n K
theorem d8 (l:List KV) (n:Nat) (K:QR):de l n K=if l.length=n∧KV.isCells l=true then K else none:=by
 induction l generalizing n with
 | nil=>cases n with
  |zero=>rw [if_pos ⟨rfl,rfl⟩]; rfl
  |succ n=>rw [if_neg (by simp)]; rfl
 | cons v r ih=>cases n with
  |zero=>rw [if_neg (by simp)]; rfl
  | succ n=>
   have:de (v::r) (n+1) K=v.onCell (de r n K) none:=rfl
   rw [this,KV.onCell_eq,ih]
   by_cases h:v.isCell=true<;>simp [KV.isCells,h]
noncomputable def gJ (v:KV) (n:Nat) (K:List KV→QR):QR:=KV.rec (motive_1:=fun _=>Nat→(List KV→QR)→QR) (motive_2:=fun _=>Nat→(List KV→QR)→QR) (fun m K=>none) (fun b m K=>zb (Nat.beq m 1) (K [(.bool b)]) none) (fun k n m K=>zb (Nat.beq m 1) (K [(.int k n)]) none) (fun n s m K=>zb (Nat.beq m 1) (K [(.str n s)]) none) (fun i o m K=>zb (Nat.beq m 1) (K [(.ptr i o)]) none) (fun m K=>zb (Nat.beq m 1) (K [.nilp]) none) (fun i o l c s m K=>zb (Nat.beq m 1) (K [(.sl i o l c s)]) none) (fun m K=>zb (Nat.beq m 1) (K [.slz]) none) (fun m K=>zb (Nat.beq m 1) (K [.nilsl]) none) (fun fn x y _ _ m K=>zb (Nat.beq m 1) (K [(.func fn x y)]) none) (fun m K=>zb (Nat.beq m 1) (K [.nilfunc]) none) (fun i m K=>zb (Nat.beq m 1) (K [(.yield i)]) none) (fun a _ m K=>de a m (K a)) (fun _ _ m K=>none) (fun i m K=>zb (Nat.beq m 1) (K [(.map i)]) none) (fun m K=>zb (Nat.beq m 1) (K [.nilmap]) none) (fun ty u _ m K=>zb (Nat.beq m 1) (K [(.iface ty u)]) none) (fun m K=>zb (Nat.beq m 1) (K [.niliface]) none) (fun n K=>none) (fun _ _ _ _ n K=>none) v n K
theorem pC (v:KV) (n:Nat) (K:List KV→QR):gJ v n K=if v.cells.length=n∧KV.isCells v.cells=true then K v.cells else none:=by
 have one:∀ {v:KV},v.cells= [v]→v.isCell=true→zb (Nat.beq n 1) (K [v]) none=if v.cells.length=n∧KV.isCells v.cells=true then K v.cells else none:=by
  intro v hv h
  rw [za,hv]
  simp only [Nat.beq_eq,List.length_cons,List.length_nil,KV.isCells,List.all_cons,List.all_nil,Bool.and_true,Nat.zero_add,eq_comm (a:=1),h,and_true]
 cases v with
 |agg cs=>exact d8 _ _ _
 |junk=>rw [if_neg (by simp [KV.cells,KV.isCells,KV.isCell])]; rfl
 |tuple l=>rw [if_neg (by simp [KV.cells,KV.isCells,KV.isCell])]; rfl
 |bool x0=>exact one (v:= .bool x0) rfl rfl
 |int x0 x1=>exact one (v:= .int x0 x1) rfl rfl
 |str x0 x1=>exact one (v:= .str x0 x1) rfl rfl
 |ptr x0 x1=>exact one (v:= .ptr x0 x1) rfl rfl
 |nilp  => exact one (v:= .nilp) rfl rfl
 |sl x0 x1 x2 x3 x4=>exact one (v:= .sl x0 x1 x2 x3 x4) rfl rfl
 |slz  => exact one (v:= .slz) rfl rfl
 |nilsl  => exact one (v:= .nilsl) rfl rfl
 |func x0 x1 x2=>exact one (v:= .func x0 x1 x2) rfl rfl
 |nilfunc  => exact one (v:= .nilfunc) rfl rfl
 |yield x0=>exact one (v:= .yield x0) rfl rfl
 |map x0=>exact one (v:= .map x0) rfl rfl
 |nilmap  => exact one (v:= .nilmap) rfl rfl
 |iface x0 x1=>exact one (v:= .iface x0 x1) rfl rfl
 |niliface  => exact one (v:= .niliface) rfl rfl
def tb (m i:Nat):Bool:=Nat.beq (Nat.land (Nat.shiftRight m i) 1) 1
theorem uw (m i:Nat):tb m i=Nat.testBit m i:=by
 unfold tb
 have e1:Nat.land (Nat.shiftRight m i) 1=(m >>> i)%2:=Nat.and_one_is_mod (m >>> i)
 rw [e1,Nat.testBit_eq_decide_div_mod_eq,Nat.shiftRight_eq_div_pow]
 rw [wt]
def bt (i:Nat):Nat:=Nat.shiftLeft 1 i
theorem bj (i k:Nat):tb (bt i) k=decide (k=i):=by
 rw [uw]
 show Nat.testBit (1 <<< i) k=_
 rw [Nat.one_shiftLeft,Nat.testBit_two_pow]
 by_cases h:i=k
 ·subst h; simp
 ·simp [h,Ne.symm h]
theorem w5 (a b i:Nat):tb (Nat.lor a b) i=(tb a i||tb b i):=by rw [uw,uw,uw]; exact Nat.testBit_or a b i
theorem Yr (a b i:Nat):tb (Nat.land a b) i=(tb a i&&tb b i):=by rw [uw,uw,uw]; exact Nat.testBit_and a b i
theorem uN (i:Nat):tb 0 i=false:=by rw [uw]; exact Nat.zero_testBit i
def sub? (a b:Nat):Bool:=Nat.beq (Nat.land a b) a
theorem Jh {a b:Nat} (h:sub? a b=true) {i:Nat} (hi:tb a i=true):tb b i=true:=by
 have e:=iE h
 have:tb (Nat.land a b) i=true:=by rw [e]; exact hi
 rw [Yr,iF]at this
 exact this.2
structure OI where
 d:Nat
 dst:Option Nat
 r:Nat
 still:Bool
 al:Bool
noncomputable def Xh (l:List Edge):Nat:=List.rec (motive:=fun _=>Nat) 0 (fun e _ ih=>bif Region.binds .any e then Nat.lor (bt e.on) ih else ih) l
theorem DO (l:List Edge) (k:Nat):tb (Xh l) k=true↔k∈(l.filter fun e=>Region.binds .any e).map (·.on):=by
 induction l with
 |nil=>simp [Xh,uN]
 | cons e l ih=>
  have e1:Xh (e::l)=bif Region.binds .any e then Nat.lor (bt e.on) (Xh l)else Xh l:=rfl
  rw [e1]
  cases hb:Region.binds .any e with
  | true=>
   simp only [cond_true,w5,bj,List.filter_cons,hb,if_true,List.map_cons,List.mem_cons,Bool.or_eq_true,decide_eq_true_eq,ih]
  |false=>simp only [cond_false,List.filter_cons,hb,Bool.false_eq_true,if_false,ih]
noncomputable def ju (l:List Operand):Nat:=List.rec (motive:=fun _=>Nat) 0 (fun x _ ih=>Operand.rec (motive:=fun _=>Nat) (fun t=>Nat.lor (bt t) ih) (fun _=>ih) (fun _=>ih) (fun _=>ih) x) l
theorem ZA (l:List Operand) (k:Nat):tb (ju l) k=true↔k∈l.filterMap fun| .tmp t=>some t|_=>none:=by
 induction l with
 |nil=>simp [ju,uN]
 | cons x l ih=>
  cases x with
  | tmp t=>
   have e1:ju (.tmp t::l)=Nat.lor (bt t) (ju l):=rfl
   rw [e1,w5,Bool.or_eq_true,bj,ih]
   simp
  |const v=>have e1:ju (.const v::l)=ju l:=rfl; rw [e1,ih]; simp
  |global v=>have e1:ju (.global v::l)=ju l:=rfl; rw [e1,ih]; simp
  |func v=>have e1:ju (.func v::l)=ju l:=rfl; rw [e1,ih]; simp
noncomputable def ud (T:TypeId→TI) (ops:Array Oper) (o:Oper):OI where
 d:=Xh o.after.toList
 dst:=o.dst
 r :=match o.guard with
  |some (g,_)=>(match zd ops g with|some d=>Nat.lor (bt d) (ju o.op.operands.toList)|none=>ju o.op.operands.toList)
  |none=>ju o.op.operands.toList
 still:=wV T o.op
 al:=qC o.op&&o.guard.isNone
theorem QU {T:TypeId→TI} {ops:Array Oper} {j:Nat} {o:Oper} (ho:ops[j]? =some o) (t:Nat):tb (ud T ops o).r t=true↔t∈zo ops j:=by
 unfold ud zo wr
 rw [ho]
 simp only
 cases hg:o.guard with
 |none=>simp only [ZA,List.append_nil]; rfl
 | some g=>
  obtain⟨g,want⟩:=g
  simp only
  cases hd:zd ops g with
  |none=>simp only [ZA,List.append_nil]; rfl
  | some d=>
   simp only [w5,bj,Bool.or_eq_true,decide_eq_true_eq,ZA,List.mem_append,List.mem_singleton]
   exact Or.comm
theorem Ko {T:TypeId→TI} {ops:Array Oper} {j:Nat} {o:Oper} (ho:ops[j]? =some o) (k:Nat):tb (ud T ops o).d k=true↔k∈dp ops j:=by
 unfold ud dp
 rw [ho]
 exact DO _ _
def full:Nat:=18446744073709551615
def yD (M i:Nat):Nat:=Nat.land (Nat.shiftRight M (Nat.mul 64 i)) full
theorem Zc (k:Nat):tb full k=decide (k<64):=by
 rw [uw,show full=2^64-1 by decide,Nat.testBit_two_pow_sub_one]
theorem oV (M i k:Nat):tb (Nat.shiftRight M i) k=tb M (i+k):=by
 rw [uw,uw]; exact Nat.testBit_shiftRight M
theorem nG (M i k:Nat):tb (Nat.shiftLeft M i) k=(decide (i≤k)&&tb M (k-i)):=by
 rw [uw,uw]; exact Nat.testBit_shiftLeft M
theorem jv (M i k:Nat):tb (yD M i) k=(tb M (64*i+k)&&decide (k<64)):=by
 unfold yD
 rw [Yr,oV,Zc]; rfl
noncomputable def B8 (l:List Nat):Nat:=List.rec (motive:=fun _=>Nat) 0 (fun x _ ih=>Nat.lor (Nat.land x full) (Nat.shiftLeft ih 64)) l
theorem Bf:∀(l:List Nat) (i k:Nat),k<64→tb (B8 l) (64*i+k)=tb (l.getD i 0) k
 | [],i,k,hk=>by simp [B8,uN]
 | x::l,i,k,hk=>by
  have e:B8 (x::l)=Nat.lor (Nat.land x full) (Nat.shiftLeft (B8 l) 64):=rfl
  rw [e,w5,Yr,Zc,nG]
  cases i with
  |zero=>simp [hk,show ¬64≤k by omega]
  | succ i=>
   have h1:¬64*(i+1)+k<64:=by omega
   have h2:64≤64*(i+1)+k:=by omega
   rw [show 64*(i+1)+k-64=64*i+k by omega,Bf l i k hk]
   simp [h1,h2]
section
variable (N DD:Nat)
noncomputable def WG (l:List Nat) (m:Nat):Bool:=List.rec (motive:=fun _=>Nat→Bool) (fun m=>Nat.beq m (Nat.sub (bt N) 1)) (fun i _ ih m=>zb (Nat.blt i N) (zb (tb m i) false (zb (sub? (yD DD i) m) (ih (Nat.lor (bt i) m)) false)) false) l m
end
theorem YD {N DD:Nat}:∀ {l:List Nat} {m:Nat},WG N DD l m=true→(∀i∈l,i<N)∧l.Nodup∧(∀i∈l,tb m i=false)∧(∀i,i<N→tb m i=true∨i∈l)∧∀p (h:p<l.length),∀k,k<64→tb DD (64*l[p]+k)=true→tb m k=true∨k∈l.take p
 | [],m,e=>by
  refine⟨by simp, .nil,by simp,fun i hi=> .inl ?_,fun p h=>by simp at h⟩
  have e:=iE e
  rw [e,uw]
  show Nat.testBit (1 <<< N-1) i=true
  rw [Nat.one_shiftLeft,Nat.testBit_two_pow_sub_one]
  simp [hi]
 | x :: l,m,e=>by
  have e:zb (Nat.blt x N) (zb (tb m x) false (zb (sub? (yD DD x) m) (WG N DD l (Nat.lor (bt x) m)) false)) false=true:=e
  simp only [za]at e
  split at e
  ·rename_i h1
   split at e
   ·cases e
   ·rename_i h2
    split at e
    ·rename_i h3
     obtain⟨q1,q2,q3,q4,q5⟩:=YD e
     have h1:x<N:=by simpa [zL] using h1
     have h2:tb m x=false:=by simpa using h2
     have hx:x∉l:=fun hm=>by
      have:=q3 x hm
      rw [w5,bj]at this; simp at this
     refine⟨?_,List.nodup_cons.2 ⟨hx,q2⟩, ?_, ?_, ?_⟩
     ·intro i hi
      rcases List.mem_cons.1 hi with rfl|hi
      ·exact h1
      ·exact q1 i hi
     ·intro i hi
      rcases List.mem_cons.1 hi with rfl|hi
      ·exact h2
      ·have:=q3 i hi
       rw [w5,Bool.or_eq_false_iff]at this; exact this.2
     ·intro i hi
      rcases q4 i hi with h|h
      ·rw [w5,bj,Bool.or_eq_true,decide_eq_true_eq]at h
       rcases h with rfl|h
       ·exact .inr (by simp)
       ·exact .inl h
      ·exact .inr (List.mem_cons_of_mem _ h)
     ·intro p hp k hk hd
      cases p with
      |zero=>exact .inl (Jh h3 (by rw [jv]; simp only [List.getElem_cons_zero]at hd; simp [hd,hk]))
      | succ p=>
       simp only [List.getElem_cons_succ]at hd
       rcases q5 p (by simpa using hp) k hk hd with h|h
       ·rw [w5,bj,Bool.or_eq_true,decide_eq_true_eq]at h
        rcases h with rfl|h
        ·exact .inr (by simp)
        ·exact .inl h
       ·exact .inr (by simp [h])
    ·cases e
  ·cases e
noncomputable def pq (BB:Nat) (l:List Edge):Nat:=List.rec (motive:=fun _=>Nat) 0 (fun e _ ih=>bif Region.binds .any e then Nat.lor (Nat.lor (bt e.on) (yD BB e.on)) ih else ih) l
theorem GS (BB:Nat) (l:List Edge) (k:Nat):tb (pq BB l) k=true→∃on∈(l.filter fun e=>Region.binds .any e).map (·.on),k=on∨(k<64∧tb BB (64*on+k)=true):=by
 induction l with
 |nil=>intro h; simp [pq,uN]at h
 | cons e l ih=>
  have e1:pq BB (e::l)=bif Region.binds .any e then Nat.lor (Nat.lor (bt e.on) (yD BB e.on)) (pq BB l)else pq BB l:=rfl
  rw [e1]
  intro h
  cases hb:Region.binds .any e with
  | true=>
   rw [hb]at h
   simp only [cond_true,w5,bj,jv,Bool.or_eq_true,decide_eq_true_eq,iF]at h
   rcases h with(h|h)|h
   ·exact⟨e.on,by simp [hb], .inl h⟩
   ·exact⟨e.on,by simp [hb], .inr ⟨h.2,h.1⟩⟩
   ·obtain⟨on,h1,h2⟩:=ih h
    exact⟨on,by simp only [List.filter_cons,hb,if_true,List.map_cons,List.mem_cons]; exact .inr h1,h2⟩
  | false=>
   rw [hb]at h
   obtain⟨on,h1,h2⟩:=ih h
   exact⟨on,by simp only [List.filter_cons,hb,Bool.false_eq_true,if_false]; exact h1,h2⟩
noncomputable def Qp (BB:Nat) (l:List Oper) (j:Nat):Bool:=List.rec (motive:=fun _=>Nat→Bool) (fun _=>true) (fun o _ ih j=>zb (sub? (yD BB j) (pq BB o.after.toList)) (ih (Nat.succ j)) false) l j
theorem Xs {BB:Nat}:∀ {l:List Oper} {j:Nat},Qp BB l j=true→∀(i:Nat) o,l[i]? =some o→∀k,k<64→tb BB (64*(j+i)+k)=true→∃on∈(o.after.toList.filter fun e=>Region.binds .any e).map (·.on),k=on∨(k<64∧tb BB (64*on+k)=true)
 | [],j,e,i,o,ho,k,hk,h=>by simp at ho
 | x ::l,j,e,i,o,ho,k,hk,h=>by
  have e:zb (sub? (yD BB j) (pq BB x.after.toList)) (Qp BB l (Nat.succ j)) false=true:=e
  rw [za]at e
  split at e
  ·rename_i h1
   cases i with
   | zero=>
    simp only [List.getElem?_cons_zero,Option.some.injEq]at ho
    subst ho
    exact GS BB _ k (Jh h1 (by rw [jv]; simp only [Nat.add_zero]at h; simp [h,hk]))
   | succ i=>
    refine Xs e i o (by simpa using ho) k hk ?_
    rw [show Nat.succ j+i=j+(i+1)by omega]; exact h
  ·cases e
noncomputable def KM (n:Nat) (l:List OI) (m:Nat):Bool:=List.rec (motive:=fun _=>Nat→Bool) (fun _=>true) (fun x _ ih m=>Option.rec (motive:=fun _=>Bool) (ih m) (fun d=>zb (Nat.blt d n) (zb (tb m d) false (ih (Nat.lor (bt d) m))) false) x.dst) l m
theorem Zt {n:Nat}:∀ {l:List OI} {m:Nat},KM n l m=true→(∀(i:Nat) (x:OI) d,l[i]? =some x→x.dst=some d→d<n∧tb m d=false)∧∀(i j:Nat) (x y:OI) d,l[i]? =some x→l[j]? =some y→x.dst=some d→y.dst=some d→i=j
 | [],m,e=>⟨fun i x d h=>by simp at h,fun i j x y d h=>by simp at h⟩
 | z :: l,m,e=>by
  have e:Option.rec (motive:=fun _=>Bool) (KM n l m) (fun d=>zb (Nat.blt d n) (zb (tb m d) false (KM n l (Nat.lor (bt d) m))) false) z.dst=true:=e
  cases hz:z.dst with
  | none=>
   rw [hz]at e
   obtain⟨q1,q2⟩:=Zt e
   refine⟨fun i x d h hd=> ?_,fun i j x y d h1 h2 d1 d2=> ?_⟩
   ·cases i with
    |zero=>simp at h; subst h; rw [hz]at hd; cases hd
    |succ i=>exact q1 i x d (by simpa using h) hd
   ·cases i with
    |zero=>simp at h1; subst h1; rw [hz]at d1; cases d1
    | succ i=>cases j with
     |zero=>simp at h2; subst h2; rw [hz]at d2; cases d2
     |succ j=>rw [q2 i j x y d (by simpa using h1) (by simpa using h2) d1 d2]
  | some dz=>
   rw [hz]at e
   simp only [za]at e
   split at e
   ·rename_i hlt
    split at e
    ·cases e
    ·rename_i hm
     obtain⟨q1,q2⟩:=Zt e
     have q1':∀(i:Nat) (x:OI) d,l[i]? =some x→x.dst=some d→d<n∧tb m d=false∧d≠dz:=fun i x d h hd=>by
      obtain⟨a,b⟩:=q1 i x d h hd
      rw [w5,bj,Bool.or_eq_false_iff]at b
      exact⟨a,b.2,by simpa using b.1⟩
     refine⟨fun i x d h hd=> ?_,fun i j x y d h1 h2 d1 d2=> ?_⟩
     ·cases i with
      |zero=>simp at h; subst h; rw [hz]at hd; cases hd; exact⟨by simpa [zL] using hlt,by simpa using hm⟩
      |succ i=>have:=q1' i x d (by simpa using h) hd; exact⟨this.1,this.2.1⟩
     ·cases i with
      | zero=>cases j with
       |zero=>rfl
       |succ j=>simp at h1; subst h1; rw [hz]at d1; cases d1; exact absurd rfl (q1' j y _ (by simpa using h2) d2).2.2
      | succ i=>cases j with
       |zero=>simp at h2; subst h2; rw [hz]at d2; cases d2; exact absurd rfl (q1' i x _ (by simpa using h1) d1).2.2
       |succ j=>rw [q2 i j x y d (by simpa using h1) (by simpa using h2) d1 d2]
   ·cases e
noncomputable def XF {α:Type} (f:Nat→α→Bool) (l:List α) (j:Nat):Bool:=List.rec (motive:=fun _=>Nat→Bool) (fun _=>true) (fun x _ ih j=>zb (f j x) (ih (Nat.succ j)) false) l j
theorem qW {α:Type} {f:Nat→α→Bool}:∀ {l:List α} {j:Nat},XF f l j=true→∀(i:Nat) x,l[i]? =some x→f (j+i) x=true
 | [],j,e,i,x,h=>by simp at h
 | y ::l,j,e,i,x,h=>by
  have e:zb (f j y) (XF f l (Nat.succ j)) false=true:=e
  rw [za]at e
  split at e
  ·rename_i h1
   cases i with
   |zero=>simp at h; subst h; exact h1
   | succ i=>
    have:=qW e i x (by simpa using h)
    rw [show Nat.succ j+i=j+(i+1)by omega]at this; exact this
  ·cases e
noncomputable def Pz (EM BB i r k:Nat) (d:Nat):Bool:=zb (tb r d) (zb (tb BB (Nat.add (Nat.mul 64 i) k)) true (zb (tb EM k) (zb (Nat.beq k i) true (tb BB (Nat.add (Nat.mul 64 k) i))) false)) true
noncomputable def K4 (EM BB:Nat) (info:List OI):Bool:=XF (fun i x=>XF (fun k y=>Option.rec (motive:=fun _=>Bool) true (fun d=>Pz EM BB i x.r k d) y.dst) info 0) info 0
theorem Qe {EM BB:Nat} {info:List OI} (e:K4 EM BB info=true) {i k d:Nat} {x y:OI} (hx:info[i]? =some x) (hy:info[k]? =some y) (hd:y.dst=some d) (hr:tb x.r d=true):tb BB (64*i+k)=true∨(tb EM k=true∧(k=i∨tb BB (64*k+i)=true)):=by
 have:=qW (qW e i x hx) k y hy
 simp only [Nat.zero_add,hd,Pz,za,hr,if_true]at this
 split at this
 ·rename_i h; exact .inl h
 ·split at this
  ·rename_i h
   right
   refine⟨h, ?_⟩
   split at this
   ·rename_i h2; exact .inl (iE h2)
   ·exact .inr this
  ·cases this
noncomputable def eF (LM BB:Nat) (l:List Nat):Nat:=List.rec (motive:=fun _=>Nat) full (fun x _ ih=>zb (tb LM x) ih (Nat.land (yD BB x) ih)) l
theorem WO {LM BB:Nat}:∀ {l:List Nat} {y:Nat},tb (eF LM BB l) y=true→y<64∧∀j∈l,tb LM j=false→tb BB (64*j+y)=true
 | [],y,h=>by
  have h:tb full y=true:=h
  rw [Zc]at h
  exact⟨by simpa using h,by simp⟩
 | x::l,y,h=>by
  have h:tb (zb (tb LM x) (eF LM BB l) (Nat.land (yD BB x) (eF LM BB l))) y=true:=h
  rw [za]at h
  split at h
  ·rename_i hx
   obtain⟨q1,q2⟩:=WO h
   refine⟨q1,fun j hj hL=> ?_⟩
   rcases List.mem_cons.1 hj with rfl|hj
   ·rw [hx]at hL; cases hL
   ·exact q2 j hj hL
  ·rw [Yr,iF,jv,iF]at h
   obtain⟨q1,q2⟩:=WO h.2
   refine⟨q1,fun j hj hL=> ?_⟩
   rcases List.mem_cons.1 hj with rfl|hj
   ·exact h.1.1
   ·exact q2 j hj hL
noncomputable def gO (EM LM BB:Nat) (l:List Nat):Bool:=List.rec (motive:=fun _=>Bool) true (fun x r ih=>zb (zb (tb EM x) true (tb LM x)) (zb (tb (eF LM BB r) x) ih false) ih) l
theorem Zw {EM LM BB:Nat}:∀ {l:List Nat},gO EM LM BB l=true→∀p (h:p<l.length),(tb EM l[p]=true∨tb LM l[p]=true)→∀j∈l.drop (p+1),tb LM j=false→l[p]<64∧tb BB (64*j+l[p])=true
 | [],e,p,h=>by simp at h
 | x ::l,e,p,h=>by
  have e:zb (zb (tb EM x) true (tb LM x)) (zb (tb (eF LM BB l) x) (gO EM LM BB l) false) (gO EM LM BB l)=true:=e
  intro hE j hj hL
  cases p with
  | zero=>
   simp only [List.getElem_cons_zero]at hE ⊢
   simp only [Nat.zero_add,List.drop_succ_cons,List.drop_zero]at hj
   simp only [za]at e
   rw [if_pos (by
    split
    ·rfl
    ·rename_i hn; exact hE.resolve_left hn)]at e
   split at e
   ·rename_i ha
    obtain⟨q1,q2⟩:=WO ha
    exact⟨q1,q2 j hj hL⟩
   ·cases e
  | succ p=>
   have e2:gO EM LM BB l=true:=by
    revert e
    simp only [za]
    repeat' split
    all_goals (intro e; first|exact e|(exact absurd e (by simp)))
   simp only [List.getElem_cons_succ]at hE ⊢
   exact Zw e2 p (by simpa using h) hE j (by simpa using hj) hL
noncomputable def bY (LM:Nat) (l:List OI) (j:Nat):Nat:=List.rec (motive:=fun _=>Nat→Nat) (fun _=>0) (fun x _ ih j=>Option.rec (motive:=fun _=>Nat) (ih (Nat.succ j)) (fun d=>zb (tb LM j) (Nat.lor (bt d) (ih (Nat.succ j))) (ih (Nat.succ j))) x.dst) l j
theorem Y3 {LM:Nat}:∀ {l:List OI} {j i d:Nat} {x:OI},l[i]? =some x→x.dst=some d→tb LM (j+i)=true→tb (bY LM l j) d=true
 | [],j,i,d,x,h,_,_=>by simp at h
 | y ::l,j,i,d,x,h,hd,hL=>by
  have e:bY LM (y::l) j=Option.rec (motive:=fun _=>Nat) (bY LM l (Nat.succ j)) (fun d=>zb (tb LM j) (Nat.lor (bt d) (bY LM l (Nat.succ j))) (bY LM l (Nat.succ j))) y.dst:=rfl
  rw [e]
  cases i with
  | zero=>
   simp at h; subst h
   rw [hd]
   simp only [Nat.add_zero]at hL
   simp only [za,hL,if_true,w5,bj,decide_true,Bool.true_or]
  | succ i=>
   have ih:=Y3 (LM:=LM) (l:=l) (j:=Nat.succ j) (i:=i) (by simpa using h) hd (by rw [show Nat.succ j+i=j+(i+1)by omega]; exact hL)
   cases y.dst with
   |none=>exact ih
   | some d'=>
    simp only [za]
    split
    ·rw [w5,ih,Bool.or_true]
    ·exact ih
noncomputable def o8 (EM LM:Nat) (info:List OI):Bool:=XF (fun i x=>zb (tb LM i) (zb (tb EM i) false (zb x.al (Nat.beq (Nat.land x.r (bY LM info 0)) 0) false)) true) info 0
noncomputable def ldm (l:List OI):List Nat:=List.rec (motive:=fun _=>List Nat) [] (fun x _ ih=>x.d::ih) l
theorem DC:∀l:List OI,ldm l=l.map (·.d)
 | []=>rfl
 | x::l=>by
  have:ldm (x::l)=x.d::ldm l:=rfl
  rw [this,DC l]; rfl
noncomputable def Qo (ops:Array Oper) (n:Nat) (info:List OI) (order:List Nat) (EM LM BB:Nat):Bool:=
 zb (Nat.ble ops.size 64) (zb (XF (fun _ x=>sub? x.d full) info 0) (zb (WG ops.size (B8 (ldm info)) order 0) (zb (Qp BB ops.toList 0) (zb (KM n info 0) (zb (K4 EM BB info) (zb (gO EM LM BB order) (o8 EM LM info) false) false) false) false) false) false) false
def xm (M N:Nat):List Nat:=(List.range N).filter fun k=>tb M k
theorem xY {M N k:Nat}:k∈xm M N↔k<N∧tb M k=true:=by simp [xm]
def ba (BB N:Nat):List (List Nat):=(List.range N).map fun j=>(List.range N).filter fun k=>tb BB (64*j+k)
theorem jg {BB N j k:Nat}:k∈(ba BB N).getD j []↔j<N∧k<N∧tb BB (64*j+k)=true:=by
 unfold ba
 by_cases hj:j<N
 ·simp [hj]
 ·simp [hj,Nat.le_of_not_lt hj]
theorem jS {a b:Bool} (h:zb a b false=true):a=true∧b=true:=by cases a<;>cases b<;>simp_all [zb]
theorem BL {T:TypeId→TI} {ops:Array Oper} {n:Nat} {order:List Nat} {EM LM BB:Nat} (e:Qo ops n (ops.toList.map (ud T ops)) order EM LM BB=true):
  GC ops n order (xm EM ops.size) (xm LM ops.size) (ba BB ops.size)∧ops.size≤64:=by
 unfold Qo at e
 obtain⟨hN,e⟩:=jS e
 obtain⟨h0,e⟩:=jS e
 obtain⟨h1,e⟩:=jS e
 obtain⟨h2,e⟩:=jS e
 obtain⟨h3,e⟩:=jS e
 obtain⟨h4,e⟩:=jS e
 obtain⟨h5,h6⟩:=jS e
 have hN:ops.size≤64:=iD hN
 have get:∀ {i:Nat} {o:Oper},ops[i]? =some o→(ops.toList.map (ud T ops))[i]? =some (ud T ops o):=fun {i o} h=>by rw [List.getElem?_map,Array.getElem?_toList,h]; rfl
 have getl:∀ {i:Nat},i<ops.size→ops[i]? =some ops[i]! :=fun {i} h=>by simp [h]
 rw [DC]at h1
 obtain⟨a1,a2,_,a4,a5⟩:=YD h1
 obtain⟨b1,b2⟩:=Zt h3
 have dsto:∀ {i d:Nat},zd ops i=some d→∃o,ops[i]? =some o∧o.dst=some d:=fun {i d} h=>by
  unfold zd at h
  exact Option.bind_eq_some_iff.1 h
 have dpd:∀ {i k:Nat},i<ops.size→k<64→(tb (B8 ((ops.toList.map (ud T ops)).map (·.d))) (64*i+k)=true↔k∈dp ops i):=fun {i k} hi hk=>by
  rw [Bf _ _ _ hk,←Ko (T:=T) (getl hi)]
  have:((ops.toList.map (ud T ops)).map (·.d)).getD i 0=(ud T ops ops[i]!).d:=by
   rw [List.getD_eq_getElem?_getD,List.getElem?_map,get (getl hi)]; rfl
  rw [this]
 have hall:∀i,i<ops.size→i∈order:=fun i hi=>(a4 i hi).resolve_left (by rw [uN]; simp)
 have d64:∀ {i k:Nat},i<ops.size→k∈dp ops i→k<64:=fun {i k} hi hk=>by
  have h:=(Ko (T:=T) (getl hi) k).2 hk
  have:=Jh (qW h0 i _ (get (getl hi))) h
  rw [Zc]at this; simpa using this
 have topo:∀p (h:p<order.length),∀k∈dp ops order[p],k∈order.take p:=fun p h k hk=>by
  have hi:=a1 _ (List.getElem_mem h)
  have h64:=d64 hi hk
  exact(a5 p h k h64 ((dpd hi h64).2 hk)).resolve_left (by rw [uN]; simp)
 have dplt:∀ {i k:Nat},i<ops.size→k∈dp ops i→k<ops.size:=fun {i k} hi hk=>by
  obtain⟨p,hp,he⟩:=List.getElem_of_mem (hall i hi)
  exact a1 k (List.mem_of_mem_take (topo p hp k (by rw [he]; exact hk)))
 have len:order.length=ops.size:=by
  have p1:order.Perm (List.range ops.size):=(List.perm_ext_iff_of_nodup a2 List.nodup_range).2 fun x=>⟨fun h=>List.mem_range.2 (a1 x h),fun h=>hall x (List.mem_range.1 h)⟩
  rw [p1.length_eq,List.length_range]
 refine⟨{nodup:=a2,len:=len,all:=hall,lt:=a1,topo:=topo,clos:= ?_,dlt:= ?_,uniq:= ?_,reads:= ?_,waits:= ?_,late:= ?_},hN⟩
 ·intro j hj i hi
  obtain⟨_,hi1,hi2⟩:=jg.1 hi
  have hl:ops.toList[j]? =some ops[j]! :=by rw [Array.getElem?_toList]; exact getl hj
  obtain⟨on,ho,h⟩:=Xs h2 j _ hl i (by omega) (by rw [Nat.zero_add]; exact hi2)
  have ho':on∈dp ops j:=by unfold dp; rw [getl hj]; exact ho
  rcases h with rfl|h
  ·exact .inl ho'
  ·exact .inr ⟨on,ho',jg.2 ⟨dplt hj ho',hi1,h.2⟩⟩
 ·intro i hi d hd
  obtain⟨o,ho,hod⟩:=dsto hd
  exact(b1 i _ d (get ho) hod).1
 ·intro i j hi hj hne d hd hd'
  obtain⟨o,ho,hod⟩:=dsto hd
  obtain⟨o',ho',hod'⟩:=dsto hd'
  exact hne (b2 i j _ _ d (get ho) (get ho') hod hod')
 ·intro i hi t ht k hk hd
  obtain⟨o,ho,hod⟩:=dsto hd
  rcases Qe h4 (get (getl hi)) (get ho) hod ((QU (T:=T) (getl hi) t).2 ht)with h|⟨h,h'⟩
  ·exact .inl (jg.2 ⟨hi,hk,h⟩)
  ·refine .inr ⟨xY.2 ⟨hk,h⟩,h'.imp id fun h'=>jg.2 ⟨hk,hi,h'⟩⟩
 ·intro p h hE j hj hjL
  have hjm:j<ops.size:=a1 j (List.mem_of_mem_drop hj)
  have hp:=a1 _ (List.getElem_mem h)
  have hw:=Zw h5 p h (hE.imp (fun x=>(xY.1 x).2) fun x=>(xY.1 x).2) j hj (by
   cases hL:tb LM j with
   |false=>rfl
   |true=>exact absurd (xY.2 ⟨hjm,hL⟩) hjL)
  exact jg.2 ⟨hjm,hp,hw.2⟩
 ·intro i hiL hi
  have hL:=(xY.1 hiL).2
  have:=qW h6 i _ (get (getl hi))
  simp only [Nat.zero_add,za,hL,if_true]at this
  split at this
  ·cases this
  ·rename_i hE
   split at this
   ·rename_i hal
    have hz:=iE this
    refine⟨fun h=>hE (xY.1 h).2,fun o ho=> ?_,fun t ht k hk hd=> ?_⟩
    ·have:o=ops[i]! :=by rw [getl hi]at ho; exact(Option.some.inj ho).symm
     subst this
     have hal:(qC ops[i]!.op&&ops[i]!.guard.isNone)=true:=hal
     rw [iF,Option.isNone_iff_eq_none]at hal
     exact hal.2
    ·obtain⟨o,ho,hod⟩:=dsto hd
     have h1:=Y3 (LM:=LM) (j:=0) (get ho) hod (by rw [Nat.zero_add]; exact(xY.1 hk).2)
     have h2:=(QU (T:=T) (getl hi) t).2 ht
     have:tb (Nat.land (ud T ops ops[i]!).r (bY LM (ops.toList.map (ud T ops)) 0)) t=true:=by rw [Yr,h1,h2]; rfl
     rw [hz,uN]at this; cases this
   ·cases this
theorem Xg {EM LM N j:Nat} (hj:j<N):(xm EM N++xm LM N).contains j=tb (Nat.lor EM LM) j:=by
 rw [w5,Bool.eq_iff_iff]
 simp only [List.contains_iff_mem,List.mem_append,xY,Bool.or_eq_true,hj,true_and]
theorem xr {M N j:Nat} (hj:j<N):(xm M N).contains j=tb M j:=by
 rw [Bool.eq_iff_iff]
 simp only [List.contains_iff_mem,xY,hj,true_and]
theorem Vt {BB N i j:Nat} (hi:i<N) (hj:j<N):((ba BB N).getD i []).contains j=tb BB (64*i+j):=by
 rw [Bool.eq_iff_iff]
 simp only [List.contains_iff_mem,jg,hi,hj,true_and]
noncomputable def vU (T:TypeId→TI) (ops:Array Oper) (l:List Oper):List OI:=List.rec (motive:=fun _=>List OI) [] (fun o _ ih=>ud T ops o::ih) l
theorem VA (T:TypeId→TI) (ops:Array Oper):∀l,vU T ops l=l.map (ud T ops)
 | []=>rfl
 | o::l=>by
  have:vU T ops (o::l)=ud T ops o::vU T ops l:=rfl
  rw [this,VA T ops l]; rfl
noncomputable def pBB (l:List Oper) (j BB:Nat):Nat:=List.rec (motive:=fun _=>Nat→Nat→Nat) (fun _ BB=>BB) (fun o _ ih j BB=>nfc (Nat.lor BB (Nat.shiftLeft (pq BB o.after.toList) (Nat.mul 64 j))) fun BB=>ih (Nat.succ j) BB) l j BB
noncomputable def fH (l:List OI) (k i r row acc:Nat):Nat:=List.rec (motive:=fun _=>Nat→Nat→Nat→Nat→Nat→Nat) (fun _ _ _ _ acc=>acc) (fun y _ ih k i r row acc=>Option.rec (motive:=fun _=>Nat) (ih (Nat.succ k) i r row acc) (fun d=>zb (tb r d) (zb (Nat.beq k i) (ih (Nat.succ k) i r row (Nat.lor (bt k) acc)) (zb (tb row k) (ih (Nat.succ k) i r row acc) (ih (Nat.succ k) i r row (Nat.lor (bt k) acc)))) (ih (Nat.succ k) i r row acc)) y.dst) l k i r row acc
noncomputable def PQ (info:List OI) (l:List OI) (i BB acc:Nat):Nat:=List.rec (motive:=fun _=>Nat→Nat→Nat→Nat) (fun _ _ acc=>acc) (fun x _ ih i BB acc=>zb (Nat.beq x.r 0) (ih (Nat.succ i) BB acc) (nfc (fH info 0 i x.r (yD BB i) acc) fun acc=>ih (Nat.succ i) BB acc)) l i BB acc
noncomputable def ma (l:List OI) (i acc:Nat):Nat:=List.rec (motive:=fun _=>Nat→Nat→Nat) (fun _ acc=>acc) (fun x _ ih i acc=>zb x.still (ih (Nat.succ i) acc) (ih (Nat.succ i) (Nat.lor (bt i) acc))) l i acc
noncomputable def zab (l:List OI) (j BB i acc:Nat):Nat:=List.rec (motive:=fun _=>Nat→Nat→Nat→Nat→Nat) (fun _ _ _ acc=>acc) (fun _ _ ih j BB i acc=>zb (tb BB (Nat.add (Nat.mul 64 j) i)) (ih (Nat.succ j) BB i (Nat.lor (bt j) acc)) (ih (Nat.succ j) BB i acc)) l j BB i acc
noncomputable def nu (info:List OI) (l:List OI) (i BB TM acc:Nat):Nat:=List.rec (motive:=fun _=>Nat→Nat→Nat→Nat→Nat) (fun _ _ _ acc=>acc) (fun x _ ih i BB TM acc=>zb (zb x.al (tb TM i) false) (zb (sub? TM (Nat.lor (bt i) (Nat.lor (yD BB i) (zab info 0 BB i 0)))) (ih (Nat.succ i) BB TM acc) (ih (Nat.succ i) BB TM (Nat.lor (bt i) acc))) (ih (Nat.succ i) BB TM acc)) l i BB TM acc
noncomputable def mq (l:List OI) (i C m:Nat) (K:Nat→Nat→List Nat) (F:List Nat):List Nat:=List.rec (motive:=fun _=>Nat→Nat→Nat→(Nat→Nat→List Nat)→List Nat→List Nat) (fun _ _ _ _ F=>F) (fun x _ ih i C m K F=>zb (zb (tb C i) (zb (tb m i) false (sub? x.d m)) false) (K i (Nat.lor (bt i) m)) (ih (Nat.succ i) C m K F)) l i C m K F
noncomputable def nQ (l:List OI) (j EM BB i:Nat):Nat:=List.rec (motive:=fun _=>Nat→Nat→Nat→Nat→Nat) (fun _ _ _ _=>1000) (fun _ _ ih j EM BB i=>zb (zb (tb EM j) (tb BB (Nat.add (Nat.mul 64 j) i)) false) j (ih (Nat.succ j) EM BB i)) l j EM BB i
noncomputable def nZ (info:List OI) (l:List OI) (i EM LM BB m best bf:Nat) (K:Nat→Nat→List Nat):List Nat:=List.rec (motive:=fun _=>Nat→Nat→Nat→Nat→Nat→Nat→Nat→(Nat→Nat→List Nat)→List Nat) (fun _ _ _ _ m best _ K=>zb (Nat.beq best 1000) [] (K best (Nat.lor (bt best) m)))
 (fun x _ ih i EM LM BB m best bf K=>zb (zb (tb LM i) (zb (tb m i) false (sub? x.d m)) false) (nfc (nQ info 0 EM BB i) fun f=>zb (zb (Nat.beq best 1000) true (Nat.blt f bf)) (ih (Nat.succ i) EM LM BB m i f K) (ih (Nat.succ i) EM LM BB m best bf K)) (ih (Nat.succ i) EM LM BB m best bf K)) l i EM LM BB m best bf K
noncomputable def Dq (info:List OI) (n SM EM LM BB m:Nat):List Nat:=Nat.rec (motive:=fun _=>Nat→Nat→Nat→Nat→Nat→List Nat) (fun _ _ _ _ _=> []) (fun _ ih SM EM LM BB m=>mq info 0 SM m (fun i m=>nfc i fun i=>nfc m fun m=>i::ih SM EM LM BB m) (mq info 0 EM m (fun i m=>nfc i fun i=>nfc m fun m=>i::ih SM EM LM BB m) (nZ info info 0 EM LM BB m 1000 1000 fun i m=>nfc i fun i=>nfc m fun m=>i::ih SM EM LM BB m))) n SM EM LM BB m
noncomputable def lfc {R:Type} (l:List Nat) (K:List Nat→R):R:=List.rec (motive:=fun _=>(List Nat→R)→R) (fun K=>K []) (fun x _ ih K=>nfc x fun x=>ih fun l=>K (x::l)) l K
theorem qL {R:Type}:∀(l:List Nat) (K:List Nat→R),lfc l K=K l
 | [],K=>rfl
 | x::l,K=>by
  have:lfc (x::l) K=nfc x fun x=>lfc l fun l=>K (x::l):=rfl
  rw [this,zi,qL l]
section
variable {R:Type}
noncomputable def K2 (T:TypeId→TI) (ops:Array Oper) (n:Nat) (K:List Nat→Nat→Nat→Nat→R) (F:R):R:=
 nfc (pBB ops.toList 0 0) fun BB=>
 nfc (PQ (vU T ops ops.toList) (vU T ops ops.toList) 0 BB (ma (vU T ops ops.toList) 0 0)) fun TM=>
 nfc (nu (vU T ops ops.toList) (vU T ops ops.toList) 0 BB TM 0) fun LM=>
 nfc (Nat.sub TM LM) fun EM=>
 lfc (Dq (vU T ops ops.toList) ops.size (Nat.sub full (Nat.land TM full)) EM LM BB 0) fun order=>
 zb (Qo ops n (vU T ops ops.toList) order EM LM BB) (K order EM LM BB) F
theorem Px (T:TypeId→TI) (ops:Array Oper) (n:Nat) (K:List Nat→Nat→Nat→Nat→R) (F:R):K2 T ops n K F=F∨∃order EM LM BB,(GC ops n order (xm EM ops.size) (xm LM ops.size) (ba BB ops.size)∧ops.size≤64)∧K2 T ops n K F=K order EM LM BB:=by
 unfold K2
 simp only [zi,qL,za,VA]
 split
 ·rename_i h
  exact .inr ⟨_,_,_,_,BL h,rfl⟩
 ·exact .inl rfl
end
end Go.K
end
