/- The layer of closed runs: a part. No condition beyond each statement's own. -/
import Derived.Test.YtkabooclnoiclaaGreatDoorK09
set_option linter.unusedVariables false
set_option linter.unusedSimpArgs false
set_option linter.unnecessarySimpa false
section
namespace Go.K
open Go.Abs
abbrev QR:=Option (KV×KH)
abbrev QK:=KV→KH→QR
noncomputable def KV.hd (v:KV) (K:KV→QR):QR:=KV.rec (motive_1:=fun _=>(KV→QR)→QR) (motive_2:=fun _=>(KV→QR)→QR) (fun K=>K .junk) (fun b K=>K (.bool b)) (fun k n K=>K (.int k n)) (fun n s K=>K (.str n s)) (fun i o K=>K (.ptr i o)) (fun K=>K .nilp) (fun i o l c s K=>K (.sl i o l c s)) (fun K=>K .slz) (fun K=>K .nilsl) (fun fn x y _ _ K=>K (.func fn x y)) (fun K=>K .nilfunc) (fun i K=>K (.yield i)) (fun a _ K=>K (.agg a)) (fun a _ K=>K (.tuple a)) (fun i K=>K (.map i)) (fun K=>K .nilmap) (fun ty u _ K=>K (.iface ty u)) (fun K=>K .niliface) (fun K=>K .junk) (fun _ _ _ _ K=>K .junk) v K
noncomputable def KV.onBool (v:KV) (f:Bool→QR) (d:QR):QR:=KV.rec (motive_1:=fun _=>(Bool→QR)→(QR)→QR) (motive_2:=fun _=>(Bool→QR)→(QR)→QR) (fun f d=>d) (fun b f d=>f b) (fun _ _ f d=>d) (fun _ _ f d=>d) (fun _ _ f d=>d) (fun f d=>d) (fun _ _ _ _ _ f d=>d) (fun f d=>d) (fun f d=>d) (fun _ _ _ _ _ f d=>d) (fun f d=>d) (fun _ f d=>d) (fun _ _ f d=>d) (fun _ _ f d=>d) (fun _ f d=>d) (fun f d=>d) (fun _ _ _ f d=>d) (fun f d=>d) (fun f d=>d) (fun _ _ _ _ f d=>d) v f d
noncomputable def KV.onInt (v:KV) (f:IntKind→Int→QR) (d:QR):QR:=KV.rec (motive_1:=fun _=>(IntKind→Int→QR)→(QR)→QR) (motive_2:=fun _=>(IntKind→Int→QR)→(QR)→QR) (fun f d=>d) (fun _ f d=>d) (fun k n f d=>f k n) (fun _ _ f d=>d) (fun _ _ f d=>d) (fun f d=>d) (fun _ _ _ _ _ f d=>d) (fun f d=>d) (fun f d=>d) (fun _ _ _ _ _ f d=>d) (fun f d=>d) (fun _ f d=>d) (fun _ _ f d=>d) (fun _ _ f d=>d) (fun _ f d=>d) (fun f d=>d) (fun _ _ _ f d=>d) (fun f d=>d) (fun f d=>d) (fun _ _ _ _ f d=>d) v f d
noncomputable def KV.onStr (v:KV) (f:Nat→Nat→QR) (d:QR):QR:=KV.rec (motive_1:=fun _=>(Nat→Nat→QR)→(QR)→QR) (motive_2:=fun _=>(Nat→Nat→QR)→(QR)→QR) (fun f d=>d) (fun _ f d=>d) (fun _ _ f d=>d) (fun n s f d=>f n s) (fun _ _ f d=>d) (fun f d=>d) (fun _ _ _ _ _ f d=>d) (fun f d=>d) (fun f d=>d) (fun _ _ _ _ _ f d=>d) (fun f d=>d) (fun _ f d=>d) (fun _ _ f d=>d) (fun _ _ f d=>d) (fun _ f d=>d) (fun f d=>d) (fun _ _ _ f d=>d) (fun f d=>d) (fun f d=>d) (fun _ _ _ _ f d=>d) v f d
noncomputable def KV.onPtr (v:KV) (f:Nat→Nat→QR) (d:QR):QR:=KV.rec (motive_1:=fun _=>(Nat→Nat→QR)→(QR)→QR) (motive_2:=fun _=>(Nat→Nat→QR)→(QR)→QR) (fun f d=>d) (fun _ f d=>d) (fun _ _ f d=>d) (fun _ _ f d=>d) (fun i o f d=>f i o) (fun f d=>d) (fun _ _ _ _ _ f d=>d) (fun f d=>d) (fun f d=>d) (fun _ _ _ _ _ f d=>d) (fun f d=>d) (fun _ f d=>d) (fun _ _ f d=>d) (fun _ _ f d=>d) (fun _ f d=>d) (fun f d=>d) (fun _ _ _ f d=>d) (fun f d=>d) (fun f d=>d) (fun _ _ _ _ f d=>d) v f d
noncomputable def KV.onSl (v:KV) (f:Nat→Nat→Nat→Option Nat→Nat→QR) (z:QR) (m:QR) (d:QR):QR:=KV.rec (motive_1:=fun _=>(Nat→Nat→Nat→Option Nat→Nat→QR)→(QR)→(QR)→(QR)→QR) (motive_2:=fun _=>(Nat→Nat→Nat→Option Nat→Nat→QR)→(QR)→(QR)→(QR)→QR) (fun f z m d=>d) (fun _ f z m d=>d) (fun _ _ f z m d=>d) (fun _ _ f z m d=>d) (fun _ _ f z m d=>d) (fun f z m d=>d) (fun i o l c s f z m d=>f i o l c s) (fun f z m d=>z) (fun f z m d=>m) (fun _ _ _ _ _ f z m d=>d) (fun f z m d=>d) (fun _ f z m d=>d) (fun _ _ f z m d=>d) (fun _ _ f z m d=>d) (fun _ f z m d=>d) (fun f z m d=>d) (fun _ _ _ f z m d=>d) (fun f z m d=>d) (fun f z m d=>d) (fun _ _ _ _ f z m d=>d) v f z m d
noncomputable def KV.onAgg (v:KV) (f:List KV→QR) (d:QR):QR:=KV.rec (motive_1:=fun _=>(List KV→QR)→(QR)→QR) (motive_2:=fun _=>(List KV→QR)→(QR)→QR) (fun f d=>d) (fun _ f d=>d) (fun _ _ f d=>d) (fun _ _ f d=>d) (fun _ _ f d=>d) (fun f d=>d) (fun _ _ _ _ _ f d=>d) (fun f d=>d) (fun f d=>d) (fun _ _ _ _ _ f d=>d) (fun f d=>d) (fun _ f d=>d) (fun a _ f d=>f a) (fun _ _ f d=>d) (fun _ f d=>d) (fun f d=>d) (fun _ _ _ f d=>d) (fun f d=>d) (fun f d=>d) (fun _ _ _ _ f d=>d) v f d
noncomputable def KV.onTuple (v:KV) (f:List KV→QR) (d:QR):QR:=KV.rec (motive_1:=fun _=>(List KV→QR)→(QR)→QR) (motive_2:=fun _=>(List KV→QR)→(QR)→QR) (fun f d=>d) (fun _ f d=>d) (fun _ _ f d=>d) (fun _ _ f d=>d) (fun _ _ f d=>d) (fun f d=>d) (fun _ _ _ _ _ f d=>d) (fun f d=>d) (fun f d=>d) (fun _ _ _ _ _ f d=>d) (fun f d=>d) (fun _ f d=>d) (fun _ _ f d=>d) (fun a _ f d=>f a) (fun _ f d=>d) (fun f d=>d) (fun _ _ _ f d=>d) (fun f d=>d) (fun f d=>d) (fun _ _ _ _ f d=>d) v f d
noncomputable def KV.onFunc (v:KV) (f:Fn→List KV→List KV→QR) (g:Nat→QR) (d:QR):QR:=KV.rec (motive_1:=fun _=>(Fn→List KV→List KV→QR)→(Nat→QR)→(QR)→QR) (motive_2:=fun _=>(Fn→List KV→List KV→QR)→(Nat→QR)→(QR)→QR) (fun f g d=>d) (fun _ f g d=>d) (fun _ _ f g d=>d) (fun _ _ f g d=>d) (fun _ _ f g d=>d) (fun f g d=>d) (fun _ _ _ _ _ f g d=>d) (fun f g d=>d) (fun f g d=>d) (fun fn x y _ _ f g d=>f fn x y) (fun f g d=>d) (fun i f g d=>g i) (fun _ _ f g d=>d) (fun _ _ f g d=>d) (fun _ f g d=>d) (fun f g d=>d) (fun _ _ _ f g d=>d) (fun f g d=>d) (fun f g d=>d) (fun _ _ _ _ f g d=>d) v f g d
noncomputable def KV.onIface (v:KV) (f:TypeId→KV→QR) (m:QR) (d:QR):QR:=KV.rec (motive_1:=fun _=>(TypeId→KV→QR)→(QR)→(QR)→QR) (motive_2:=fun _=>(TypeId→KV→QR)→(QR)→(QR)→QR) (fun f m d=>d) (fun _ f m d=>d) (fun _ _ f m d=>d) (fun _ _ f m d=>d) (fun _ _ f m d=>d) (fun f m d=>d) (fun _ _ _ _ _ f m d=>d) (fun f m d=>d) (fun f m d=>d) (fun _ _ _ _ _ f m d=>d) (fun f m d=>d) (fun _ f m d=>d) (fun _ _ f m d=>d) (fun _ _ f m d=>d) (fun _ f m d=>d) (fun f m d=>d) (fun ty u _ f m d=>f ty u) (fun f m d=>m) (fun f m d=>d) (fun _ _ _ _ f m d=>d) v f m d
noncomputable def KV.onCell (v:KV) (t:QR) (d:QR):QR:=KV.rec (motive_1:=fun _=>(QR)→(QR)→QR) (motive_2:=fun _=>(QR)→(QR)→QR) (fun t d=>d) (fun b t d=>t) (fun k n t d=>t) (fun n s t d=>t) (fun i o t d=>t) (fun t d=>t) (fun i o l c s t d=>t) (fun t d=>t) (fun t d=>t) (fun fn x y _ _ t d=>t) (fun t d=>t) (fun i t d=>t) (fun _ _ t d=>d) (fun _ _ t d=>d) (fun i t d=>t) (fun t d=>t) (fun ty u _ t d=>t) (fun t d=>t) (fun t d=>d) (fun _ _ _ _ t d=>d) v t d
theorem KV.hd_eq (v:KV) (K:KV→QR):v.hd K=K v:=by cases v<;>rfl
theorem KV.onCell_eq (v:KV) (t d:QR):v.onCell t d=if v.isCell=true then t else d:=by cases v<;>rfl
section
variable {R:Type}
noncomputable def nfc (n:Nat) (K:Nat→R):R:=Nat.rec (motive:=fun _=>(Nat→R)→R) (fun K=>K .zero) (fun n _ K=>K (.succ n)) n K
theorem zi (n:Nat) (K:Nat→R):nfc n K=K n:=by cases n<;>rfl
noncomputable def ifc (n:Int) (K:Int→R):R:=Int.rec (motive:=fun _=>R) (fun n=>nfc n fun n=>K (.ofNat n)) (fun n=>nfc n fun n=>K (.negSucc n)) n
theorem JD (n:Int) (K:Int→R):ifc n K=K n:=by cases n<;>simp only [ifc,zi]
noncomputable def Uc (n:Option Nat) (K:Option Nat→R):R:=Option.rec (motive:=fun _=>R) (K none) (fun n=>nfc n fun n=>K (some n)) n
theorem QJ (n:Option Nat) (K:Option Nat→R):Uc n K=K n:=by cases n<;>simp only [Uc,zi]
noncomputable def bfc (b:Bool) (K:Bool→R):R:=Bool.rec (motive:=fun _=>(Bool→R)→R) (fun K=>K false) (fun K=>K true) b K
theorem X4 (b:Bool) (K:Bool→R):bfc b K=K b:=by cases b<;>rfl
noncomputable def zb (b:Bool) (t e:R):R:=Bool.rec (motive:=fun _=>R) e t b
theorem za (b:Bool) (t e:R):zb b t e=if b=true then t else e:=by cases b<;>rfl
end
inductive Sel (β γ:Type) where
 |mk (g:β→γ)
inductive Upd (α β:Type) where
 |mk (u:(α→(α→QR)→QR)→β→(β→QR)→QR)
abbrev S1:=N16 KV
abbrev S2:=N16 S1
abbrev H0:=Option KO
abbrev H1:=N16 H0
abbrev H2:=N16 H1
abbrev H3:=N16 H2
abbrev H4:=N16 H3
noncomputable def sa0 (f:KV→(KV→QR)→QR) (n:S1) (k:S1→QR):QR:=N16.rec (motive:=fun _=>(KV→(KV→QR)→QR)→(S1→QR)→QR) (fun a0 a1 a2 a3 a4 a5 a6 a7 a8 a9 a10 a11 a12 a13 a14 a15 f k=>f a0 fun v=>k ⟨v,a1,a2,a3,a4,a5,a6,a7,a8,a9,a10,a11,a12,a13,a14,a15⟩) n f k
noncomputable def sa1 (f:KV→(KV→QR)→QR) (n:S1) (k:S1→QR):QR:=N16.rec (motive:=fun _=>(KV→(KV→QR)→QR)→(S1→QR)→QR) (fun a0 a1 a2 a3 a4 a5 a6 a7 a8 a9 a10 a11 a12 a13 a14 a15 f k=>f a1 fun v=>k ⟨a0,v,a2,a3,a4,a5,a6,a7,a8,a9,a10,a11,a12,a13,a14,a15⟩) n f k
noncomputable def sa2 (f:KV→(KV→QR)→QR) (n:S1) (k:S1→QR):QR:=N16.rec (motive:=fun _=>(KV→(KV→QR)→QR)→(S1→QR)→QR) (fun a0 a1 a2 a3 a4 a5 a6 a7 a8 a9 a10 a11 a12 a13 a14 a15 f k=>f a2 fun v=>k ⟨a0,a1,v,a3,a4,a5,a6,a7,a8,a9,a10,a11,a12,a13,a14,a15⟩) n f k
noncomputable def sa3 (f:KV→(KV→QR)→QR) (n:S1) (k:S1→QR):QR:=N16.rec (motive:=fun _=>(KV→(KV→QR)→QR)→(S1→QR)→QR) (fun a0 a1 a2 a3 a4 a5 a6 a7 a8 a9 a10 a11 a12 a13 a14 a15 f k=>f a3 fun v=>k ⟨a0,a1,a2,v,a4,a5,a6,a7,a8,a9,a10,a11,a12,a13,a14,a15⟩) n f k
noncomputable def sa4 (f:KV→(KV→QR)→QR) (n:S1) (k:S1→QR):QR:=N16.rec (motive:=fun _=>(KV→(KV→QR)→QR)→(S1→QR)→QR) (fun a0 a1 a2 a3 a4 a5 a6 a7 a8 a9 a10 a11 a12 a13 a14 a15 f k=>f a4 fun v=>k ⟨a0,a1,a2,a3,v,a5,a6,a7,a8,a9,a10,a11,a12,a13,a14,a15⟩) n f k
noncomputable def sa5 (f:KV→(KV→QR)→QR) (n:S1) (k:S1→QR):QR:=N16.rec (motive:=fun _=>(KV→(KV→QR)→QR)→(S1→QR)→QR) (fun a0 a1 a2 a3 a4 a5 a6 a7 a8 a9 a10 a11 a12 a13 a14 a15 f k=>f a5 fun v=>k ⟨a0,a1,a2,a3,a4,v,a6,a7,a8,a9,a10,a11,a12,a13,a14,a15⟩) n f k
noncomputable def sa6 (f:KV→(KV→QR)→QR) (n:S1) (k:S1→QR):QR:=N16.rec (motive:=fun _=>(KV→(KV→QR)→QR)→(S1→QR)→QR) (fun a0 a1 a2 a3 a4 a5 a6 a7 a8 a9 a10 a11 a12 a13 a14 a15 f k=>f a6 fun v=>k ⟨a0,a1,a2,a3,a4,a5,v,a7,a8,a9,a10,a11,a12,a13,a14,a15⟩) n f k
noncomputable def sa7 (f:KV→(KV→QR)→QR) (n:S1) (k:S1→QR):QR:=N16.rec (motive:=fun _=>(KV→(KV→QR)→QR)→(S1→QR)→QR) (fun a0 a1 a2 a3 a4 a5 a6 a7 a8 a9 a10 a11 a12 a13 a14 a15 f k=>f a7 fun v=>k ⟨a0,a1,a2,a3,a4,a5,a6,v,a8,a9,a10,a11,a12,a13,a14,a15⟩) n f k
noncomputable def sa8 (f:KV→(KV→QR)→QR) (n:S1) (k:S1→QR):QR:=N16.rec (motive:=fun _=>(KV→(KV→QR)→QR)→(S1→QR)→QR) (fun a0 a1 a2 a3 a4 a5 a6 a7 a8 a9 a10 a11 a12 a13 a14 a15 f k=>f a8 fun v=>k ⟨a0,a1,a2,a3,a4,a5,a6,a7,v,a9,a10,a11,a12,a13,a14,a15⟩) n f k
noncomputable def sa9 (f:KV→(KV→QR)→QR) (n:S1) (k:S1→QR):QR:=N16.rec (motive:=fun _=>(KV→(KV→QR)→QR)→(S1→QR)→QR) (fun a0 a1 a2 a3 a4 a5 a6 a7 a8 a9 a10 a11 a12 a13 a14 a15 f k=>f a9 fun v=>k ⟨a0,a1,a2,a3,a4,a5,a6,a7,a8,v,a10,a11,a12,a13,a14,a15⟩) n f k
noncomputable def tH (f:KV→(KV→QR)→QR) (n:S1) (k:S1→QR):QR:=N16.rec (motive:=fun _=>(KV→(KV→QR)→QR)→(S1→QR)→QR) (fun a0 a1 a2 a3 a4 a5 a6 a7 a8 a9 a10 a11 a12 a13 a14 a15 f k=>f a10 fun v=>k ⟨a0,a1,a2,a3,a4,a5,a6,a7,a8,a9,v,a11,a12,a13,a14,a15⟩) n f k
noncomputable def tq (f:KV→(KV→QR)→QR) (n:S1) (k:S1→QR):QR:=N16.rec (motive:=fun _=>(KV→(KV→QR)→QR)→(S1→QR)→QR) (fun a0 a1 a2 a3 a4 a5 a6 a7 a8 a9 a10 a11 a12 a13 a14 a15 f k=>f a11 fun v=>k ⟨a0,a1,a2,a3,a4,a5,a6,a7,a8,a9,a10,v,a12,a13,a14,a15⟩) n f k
noncomputable def s5 (f:KV→(KV→QR)→QR) (n:S1) (k:S1→QR):QR:=N16.rec (motive:=fun _=>(KV→(KV→QR)→QR)→(S1→QR)→QR) (fun a0 a1 a2 a3 a4 a5 a6 a7 a8 a9 a10 a11 a12 a13 a14 a15 f k=>f a12 fun v=>k ⟨a0,a1,a2,a3,a4,a5,a6,a7,a8,a9,a10,a11,v,a13,a14,a15⟩) n f k
noncomputable def zay (f:KV→(KV→QR)→QR) (n:S1) (k:S1→QR):QR:=N16.rec (motive:=fun _=>(KV→(KV→QR)→QR)→(S1→QR)→QR) (fun a0 a1 a2 a3 a4 a5 a6 a7 a8 a9 a10 a11 a12 a13 a14 a15 f k=>f a13 fun v=>k ⟨a0,a1,a2,a3,a4,a5,a6,a7,a8,a9,a10,a11,a12,v,a14,a15⟩) n f k
noncomputable def s8 (f:KV→(KV→QR)→QR) (n:S1) (k:S1→QR):QR:=N16.rec (motive:=fun _=>(KV→(KV→QR)→QR)→(S1→QR)→QR) (fun a0 a1 a2 a3 a4 a5 a6 a7 a8 a9 a10 a11 a12 a13 a14 a15 f k=>f a14 fun v=>k ⟨a0,a1,a2,a3,a4,a5,a6,a7,a8,a9,a10,a11,a12,a13,v,a15⟩) n f k
noncomputable def zaE (f:KV→(KV→QR)→QR) (n:S1) (k:S1→QR):QR:=N16.rec (motive:=fun _=>(KV→(KV→QR)→QR)→(S1→QR)→QR) (fun a0 a1 a2 a3 a4 a5 a6 a7 a8 a9 a10 a11 a12 a13 a14 a15 f k=>f a15 fun v=>k ⟨a0,a1,a2,a3,a4,a5,a6,a7,a8,a9,a10,a11,a12,a13,a14,v⟩) n f k
noncomputable def saU {S:Type} (i:Nat) (K:((KV→(KV→QR)→QR)→S1→(S1→QR)→QR)→S):S:=(bif Nat.blt i 8 then(bif Nat.blt i 4 then(bif Nat.blt i 2 then(bif Nat.blt i 1 then K sa0 else K sa1)else(bif Nat.blt i 3 then K sa2 else K sa3))else(bif Nat.blt i 6 then(bif Nat.blt i 5 then K sa4 else K sa5)else(bif Nat.blt i 7 then K sa6 else K sa7)))else(bif Nat.blt i 12 then(bif Nat.blt i 10 then(bif Nat.blt i 9 then K sa8 else K sa9)else(bif Nat.blt i 11 then K tH else K tq))else(bif Nat.blt i 14 then(bif Nat.blt i 13 then K s5 else K zay)else(bif Nat.blt i 15 then K s8 else K zaE))))
theorem nA {S:Type} (K:((KV→(KV→QR)→QR)→S1→(S1→QR)→QR)→S):∀i,i<16→saU i K=K fun f n k=>f (N16.get n i) fun v=>k (N16.set n i v):=by
 refine Ye ?_ ?_ ?_ ?_ ?_ ?_ ?_ ?_ ?_ ?_ ?_ ?_ ?_ ?_ ?_ ?_<;>rfl
noncomputable def sb0 (f:S1→(S1→QR)→QR) (n:S2) (k:S2→QR):QR:=N16.rec (motive:=fun _=>(S1→(S1→QR)→QR)→(S2→QR)→QR) (fun a0 a1 a2 a3 a4 a5 a6 a7 a8 a9 a10 a11 a12 a13 a14 a15 f k=>f a0 fun v=>k ⟨v,a1,a2,a3,a4,a5,a6,a7,a8,a9,a10,a11,a12,a13,a14,a15⟩) n f k
noncomputable def sb1 (f:S1→(S1→QR)→QR) (n:S2) (k:S2→QR):QR:=N16.rec (motive:=fun _=>(S1→(S1→QR)→QR)→(S2→QR)→QR) (fun a0 a1 a2 a3 a4 a5 a6 a7 a8 a9 a10 a11 a12 a13 a14 a15 f k=>f a1 fun v=>k ⟨a0,v,a2,a3,a4,a5,a6,a7,a8,a9,a10,a11,a12,a13,a14,a15⟩) n f k
noncomputable def sb2 (f:S1→(S1→QR)→QR) (n:S2) (k:S2→QR):QR:=N16.rec (motive:=fun _=>(S1→(S1→QR)→QR)→(S2→QR)→QR) (fun a0 a1 a2 a3 a4 a5 a6 a7 a8 a9 a10 a11 a12 a13 a14 a15 f k=>f a2 fun v=>k ⟨a0,a1,v,a3,a4,a5,a6,a7,a8,a9,a10,a11,a12,a13,a14,a15⟩) n f k
noncomputable def sb3 (f:S1→(S1→QR)→QR) (n:S2) (k:S2→QR):QR:=N16.rec (motive:=fun _=>(S1→(S1→QR)→QR)→(S2→QR)→QR) (fun a0 a1 a2 a3 a4 a5 a6 a7 a8 a9 a10 a11 a12 a13 a14 a15 f k=>f a3 fun v=>k ⟨a0,a1,a2,v,a4,a5,a6,a7,a8,a9,a10,a11,a12,a13,a14,a15⟩) n f k
noncomputable def sb4 (f:S1→(S1→QR)→QR) (n:S2) (k:S2→QR):QR:=N16.rec (motive:=fun _=>(S1→(S1→QR)→QR)→(S2→QR)→QR) (fun a0 a1 a2 a3 a4 a5 a6 a7 a8 a9 a10 a11 a12 a13 a14 a15 f k=>f a4 fun v=>k ⟨a0,a1,a2,a3,v,a5,a6,a7,a8,a9,a10,a11,a12,a13,a14,a15⟩) n f k
noncomputable def sb5 (f:S1→(S1→QR)→QR) (n:S2) (k:S2→QR):QR:=N16.rec (motive:=fun _=>(S1→(S1→QR)→QR)→(S2→QR)→QR) (fun a0 a1 a2 a3 a4 a5 a6 a7 a8 a9 a10 a11 a12 a13 a14 a15 f k=>f a5 fun v=>k ⟨a0,a1,a2,a3,a4,v,a6,a7,a8,a9,a10,a11,a12,a13,a14,a15⟩) n f k
noncomputable def sb6 (f:S1→(S1→QR)→QR) (n:S2) (k:S2→QR):QR:=N16.rec (motive:=fun _=>(S1→(S1→QR)→QR)→(S2→QR)→QR) (fun a0 a1 a2 a3 a4 a5 a6 a7 a8 a9 a10 a11 a12 a13 a14 a15 f k=>f a6 fun v=>k ⟨a0,a1,a2,a3,a4,a5,v,a7,a8,a9,a10,a11,a12,a13,a14,a15⟩) n f k
noncomputable def sb7 (f:S1→(S1→QR)→QR) (n:S2) (k:S2→QR):QR:=N16.rec (motive:=fun _=>(S1→(S1→QR)→QR)→(S2→QR)→QR) (fun a0 a1 a2 a3 a4 a5 a6 a7 a8 a9 a10 a11 a12 a13 a14 a15 f k=>f a7 fun v=>k ⟨a0,a1,a2,a3,a4,a5,a6,v,a8,a9,a10,a11,a12,a13,a14,a15⟩) n f k
noncomputable def sb8 (f:S1→(S1→QR)→QR) (n:S2) (k:S2→QR):QR:=N16.rec (motive:=fun _=>(S1→(S1→QR)→QR)→(S2→QR)→QR) (fun a0 a1 a2 a3 a4 a5 a6 a7 a8 a9 a10 a11 a12 a13 a14 a15 f k=>f a8 fun v=>k ⟨a0,a1,a2,a3,a4,a5,a6,a7,v,a9,a10,a11,a12,a13,a14,a15⟩) n f k
noncomputable def sb9 (f:S1→(S1→QR)→QR) (n:S2) (k:S2→QR):QR:=N16.rec (motive:=fun _=>(S1→(S1→QR)→QR)→(S2→QR)→QR) (fun a0 a1 a2 a3 a4 a5 a6 a7 a8 a9 a10 a11 a12 a13 a14 a15 f k=>f a9 fun v=>k ⟨a0,a1,a2,a3,a4,a5,a6,a7,a8,v,a10,a11,a12,a13,a14,a15⟩) n f k
noncomputable def tB (f:S1→(S1→QR)→QR) (n:S2) (k:S2→QR):QR:=N16.rec (motive:=fun _=>(S1→(S1→QR)→QR)→(S2→QR)→QR) (fun a0 a1 a2 a3 a4 a5 a6 a7 a8 a9 a10 a11 a12 a13 a14 a15 f k=>f a10 fun v=>k ⟨a0,a1,a2,a3,a4,a5,a6,a7,a8,a9,v,a11,a12,a13,a14,a15⟩) n f k
noncomputable def sV (f:S1→(S1→QR)→QR) (n:S2) (k:S2→QR):QR:=N16.rec (motive:=fun _=>(S1→(S1→QR)→QR)→(S2→QR)→QR) (fun a0 a1 a2 a3 a4 a5 a6 a7 a8 a9 a10 a11 a12 a13 a14 a15 f k=>f a11 fun v=>k ⟨a0,a1,a2,a3,a4,a5,a6,a7,a8,a9,a10,v,a12,a13,a14,a15⟩) n f k
noncomputable def zal (f:S1→(S1→QR)→QR) (n:S2) (k:S2→QR):QR:=N16.rec (motive:=fun _=>(S1→(S1→QR)→QR)→(S2→QR)→QR) (fun a0 a1 a2 a3 a4 a5 a6 a7 a8 a9 a10 a11 a12 a13 a14 a15 f k=>f a12 fun v=>k ⟨a0,a1,a2,a3,a4,a5,a6,a7,a8,a9,a10,a11,v,a13,a14,a15⟩) n f k
noncomputable def tO (f:S1→(S1→QR)→QR) (n:S2) (k:S2→QR):QR:=N16.rec (motive:=fun _=>(S1→(S1→QR)→QR)→(S2→QR)→QR) (fun a0 a1 a2 a3 a4 a5 a6 a7 a8 a9 a10 a11 a12 a13 a14 a15 f k=>f a13 fun v=>k ⟨a0,a1,a2,a3,a4,a5,a6,a7,a8,a9,a10,a11,a12,v,a14,a15⟩) n f k
noncomputable def sP (f:S1→(S1→QR)→QR) (n:S2) (k:S2→QR):QR:=N16.rec (motive:=fun _=>(S1→(S1→QR)→QR)→(S2→QR)→QR) (fun a0 a1 a2 a3 a4 a5 a6 a7 a8 a9 a10 a11 a12 a13 a14 a15 f k=>f a14 fun v=>k ⟨a0,a1,a2,a3,a4,a5,a6,a7,a8,a9,a10,a11,a12,a13,v,a15⟩) n f k
noncomputable def sO (f:S1→(S1→QR)→QR) (n:S2) (k:S2→QR):QR:=N16.rec (motive:=fun _=>(S1→(S1→QR)→QR)→(S2→QR)→QR) (fun a0 a1 a2 a3 a4 a5 a6 a7 a8 a9 a10 a11 a12 a13 a14 a15 f k=>f a15 fun v=>k ⟨a0,a1,a2,a3,a4,a5,a6,a7,a8,a9,a10,a11,a12,a13,a14,v⟩) n f k
noncomputable def sbU {S:Type} (i:Nat) (K:((S1→(S1→QR)→QR)→S2→(S2→QR)→QR)→S):S:=(bif Nat.blt i 8 then(bif Nat.blt i 4 then(bif Nat.blt i 2 then(bif Nat.blt i 1 then K sb0 else K sb1)else(bif Nat.blt i 3 then K sb2 else K sb3))else(bif Nat.blt i 6 then(bif Nat.blt i 5 then K sb4 else K sb5)else(bif Nat.blt i 7 then K sb6 else K sb7)))else(bif Nat.blt i 12 then(bif Nat.blt i 10 then(bif Nat.blt i 9 then K sb8 else K sb9)else(bif Nat.blt i 11 then K tB else K sV))else(bif Nat.blt i 14 then(bif Nat.blt i 13 then K zal else K tO)else(bif Nat.blt i 15 then K sP else K sO))))
theorem lN {S:Type} (K:((S1→(S1→QR)→QR)→S2→(S2→QR)→QR)→S):∀i,i<16→sbU i K=K fun f n k=>f (N16.get n i) fun v=>k (N16.set n i v):=by
 refine Ye ?_ ?_ ?_ ?_ ?_ ?_ ?_ ?_ ?_ ?_ ?_ ?_ ?_ ?_ ?_ ?_<;>rfl
noncomputable def ha0 (f:H0→(H0→QR)→QR) (n:H1) (k:H1→QR):QR:=N16.rec (motive:=fun _=>(H0→(H0→QR)→QR)→(H1→QR)→QR) (fun a0 a1 a2 a3 a4 a5 a6 a7 a8 a9 a10 a11 a12 a13 a14 a15 f k=>f a0 fun v=>k ⟨v,a1,a2,a3,a4,a5,a6,a7,a8,a9,a10,a11,a12,a13,a14,a15⟩) n f k
noncomputable def ha1 (f:H0→(H0→QR)→QR) (n:H1) (k:H1→QR):QR:=N16.rec (motive:=fun _=>(H0→(H0→QR)→QR)→(H1→QR)→QR) (fun a0 a1 a2 a3 a4 a5 a6 a7 a8 a9 a10 a11 a12 a13 a14 a15 f k=>f a1 fun v=>k ⟨a0,v,a2,a3,a4,a5,a6,a7,a8,a9,a10,a11,a12,a13,a14,a15⟩) n f k
noncomputable def ha2 (f:H0→(H0→QR)→QR) (n:H1) (k:H1→QR):QR:=N16.rec (motive:=fun _=>(H0→(H0→QR)→QR)→(H1→QR)→QR) (fun a0 a1 a2 a3 a4 a5 a6 a7 a8 a9 a10 a11 a12 a13 a14 a15 f k=>f a2 fun v=>k ⟨a0,a1,v,a3,a4,a5,a6,a7,a8,a9,a10,a11,a12,a13,a14,a15⟩) n f k
noncomputable def ha3 (f:H0→(H0→QR)→QR) (n:H1) (k:H1→QR):QR:=N16.rec (motive:=fun _=>(H0→(H0→QR)→QR)→(H1→QR)→QR) (fun a0 a1 a2 a3 a4 a5 a6 a7 a8 a9 a10 a11 a12 a13 a14 a15 f k=>f a3 fun v=>k ⟨a0,a1,a2,v,a4,a5,a6,a7,a8,a9,a10,a11,a12,a13,a14,a15⟩) n f k
noncomputable def ha4 (f:H0→(H0→QR)→QR) (n:H1) (k:H1→QR):QR:=N16.rec (motive:=fun _=>(H0→(H0→QR)→QR)→(H1→QR)→QR) (fun a0 a1 a2 a3 a4 a5 a6 a7 a8 a9 a10 a11 a12 a13 a14 a15 f k=>f a4 fun v=>k ⟨a0,a1,a2,a3,v,a5,a6,a7,a8,a9,a10,a11,a12,a13,a14,a15⟩) n f k
noncomputable def ha5 (f:H0→(H0→QR)→QR) (n:H1) (k:H1→QR):QR:=N16.rec (motive:=fun _=>(H0→(H0→QR)→QR)→(H1→QR)→QR) (fun a0 a1 a2 a3 a4 a5 a6 a7 a8 a9 a10 a11 a12 a13 a14 a15 f k=>f a5 fun v=>k ⟨a0,a1,a2,a3,a4,v,a6,a7,a8,a9,a10,a11,a12,a13,a14,a15⟩) n f k
noncomputable def ha6 (f:H0→(H0→QR)→QR) (n:H1) (k:H1→QR):QR:=N16.rec (motive:=fun _=>(H0→(H0→QR)→QR)→(H1→QR)→QR) (fun a0 a1 a2 a3 a4 a5 a6 a7 a8 a9 a10 a11 a12 a13 a14 a15 f k=>f a6 fun v=>k ⟨a0,a1,a2,a3,a4,a5,v,a7,a8,a9,a10,a11,a12,a13,a14,a15⟩) n f k
noncomputable def ha7 (f:H0→(H0→QR)→QR) (n:H1) (k:H1→QR):QR:=N16.rec (motive:=fun _=>(H0→(H0→QR)→QR)→(H1→QR)→QR) (fun a0 a1 a2 a3 a4 a5 a6 a7 a8 a9 a10 a11 a12 a13 a14 a15 f k=>f a7 fun v=>k ⟨a0,a1,a2,a3,a4,a5,a6,v,a8,a9,a10,a11,a12,a13,a14,a15⟩) n f k
noncomputable def ha8 (f:H0→(H0→QR)→QR) (n:H1) (k:H1→QR):QR:=N16.rec (motive:=fun _=>(H0→(H0→QR)→QR)→(H1→QR)→QR) (fun a0 a1 a2 a3 a4 a5 a6 a7 a8 a9 a10 a11 a12 a13 a14 a15 f k=>f a8 fun v=>k ⟨a0,a1,a2,a3,a4,a5,a6,a7,v,a9,a10,a11,a12,a13,a14,a15⟩) n f k
noncomputable def ha9 (f:H0→(H0→QR)→QR) (n:H1) (k:H1→QR):QR:=N16.rec (motive:=fun _=>(H0→(H0→QR)→QR)→(H1→QR)→QR) (fun a0 a1 a2 a3 a4 a5 a6 a7 a8 a9 a10 a11 a12 a13 a14 a15 f k=>f a9 fun v=>k ⟨a0,a1,a2,a3,a4,a5,a6,a7,a8,v,a10,a11,a12,a13,a14,a15⟩) n f k
noncomputable def zaB (f:H0→(H0→QR)→QR) (n:H1) (k:H1→QR):QR:=N16.rec (motive:=fun _=>(H0→(H0→QR)→QR)→(H1→QR)→QR) (fun a0 a1 a2 a3 a4 a5 a6 a7 a8 a9 a10 a11 a12 a13 a14 a15 f k=>f a10 fun v=>k ⟨a0,a1,a2,a3,a4,a5,a6,a7,a8,a9,v,a11,a12,a13,a14,a15⟩) n f k
noncomputable def t8 (f:H0→(H0→QR)→QR) (n:H1) (k:H1→QR):QR:=N16.rec (motive:=fun _=>(H0→(H0→QR)→QR)→(H1→QR)→QR) (fun a0 a1 a2 a3 a4 a5 a6 a7 a8 a9 a10 a11 a12 a13 a14 a15 f k=>f a11 fun v=>k ⟨a0,a1,a2,a3,a4,a5,a6,a7,a8,a9,a10,v,a12,a13,a14,a15⟩) n f k
noncomputable def zaw (f:H0→(H0→QR)→QR) (n:H1) (k:H1→QR):QR:=N16.rec (motive:=fun _=>(H0→(H0→QR)→QR)→(H1→QR)→QR) (fun a0 a1 a2 a3 a4 a5 a6 a7 a8 a9 a10 a11 a12 a13 a14 a15 f k=>f a12 fun v=>k ⟨a0,a1,a2,a3,a4,a5,a6,a7,a8,a9,a10,a11,v,a13,a14,a15⟩) n f k
noncomputable def tM (f:H0→(H0→QR)→QR) (n:H1) (k:H1→QR):QR:=N16.rec (motive:=fun _=>(H0→(H0→QR)→QR)→(H1→QR)→QR) (fun a0 a1 a2 a3 a4 a5 a6 a7 a8 a9 a10 a11 a12 a13 a14 a15 f k=>f a13 fun v=>k ⟨a0,a1,a2,a3,a4,a5,a6,a7,a8,a9,a10,a11,a12,v,a14,a15⟩) n f k
noncomputable def tj (f:H0→(H0→QR)→QR) (n:H1) (k:H1→QR):QR:=N16.rec (motive:=fun _=>(H0→(H0→QR)→QR)→(H1→QR)→QR) (fun a0 a1 a2 a3 a4 a5 a6 a7 a8 a9 a10 a11 a12 a13 a14 a15 f k=>f a14 fun v=>k ⟨a0,a1,a2,a3,a4,a5,a6,a7,a8,a9,a10,a11,a12,a13,v,a15⟩) n f k
noncomputable def zaA (f:H0→(H0→QR)→QR) (n:H1) (k:H1→QR):QR:=N16.rec (motive:=fun _=>(H0→(H0→QR)→QR)→(H1→QR)→QR) (fun a0 a1 a2 a3 a4 a5 a6 a7 a8 a9 a10 a11 a12 a13 a14 a15 f k=>f a15 fun v=>k ⟨a0,a1,a2,a3,a4,a5,a6,a7,a8,a9,a10,a11,a12,a13,a14,v⟩) n f k
noncomputable def haU {S:Type} (i:Nat) (K:((H0→(H0→QR)→QR)→H1→(H1→QR)→QR)→S):S:=(bif Nat.blt i 8 then(bif Nat.blt i 4 then(bif Nat.blt i 2 then(bif Nat.blt i 1 then K ha0 else K ha1)else(bif Nat.blt i 3 then K ha2 else K ha3))else(bif Nat.blt i 6 then(bif Nat.blt i 5 then K ha4 else K ha5)else(bif Nat.blt i 7 then K ha6 else K ha7)))else(bif Nat.blt i 12 then(bif Nat.blt i 10 then(bif Nat.blt i 9 then K ha8 else K ha9)else(bif Nat.blt i 11 then K zaB else K t8))else(bif Nat.blt i 14 then(bif Nat.blt i 13 then K zaw else K tM)else(bif Nat.blt i 15 then K tj else K zaA))))
theorem lV {S:Type} (K:((H0→(H0→QR)→QR)→H1→(H1→QR)→QR)→S):∀i,i<16→haU i K=K fun f n k=>f (N16.get n i) fun v=>k (N16.set n i v):=by
 refine Ye ?_ ?_ ?_ ?_ ?_ ?_ ?_ ?_ ?_ ?_ ?_ ?_ ?_ ?_ ?_ ?_<;>rfl
noncomputable def hb0 (f:H1→(H1→QR)→QR) (n:H2) (k:H2→QR):QR:=N16.rec (motive:=fun _=>(H1→(H1→QR)→QR)→(H2→QR)→QR) (fun a0 a1 a2 a3 a4 a5 a6 a7 a8 a9 a10 a11 a12 a13 a14 a15 f k=>f a0 fun v=>k ⟨v,a1,a2,a3,a4,a5,a6,a7,a8,a9,a10,a11,a12,a13,a14,a15⟩) n f k
noncomputable def hb1 (f:H1→(H1→QR)→QR) (n:H2) (k:H2→QR):QR:=N16.rec (motive:=fun _=>(H1→(H1→QR)→QR)→(H2→QR)→QR) (fun a0 a1 a2 a3 a4 a5 a6 a7 a8 a9 a10 a11 a12 a13 a14 a15 f k=>f a1 fun v=>k ⟨a0,v,a2,a3,a4,a5,a6,a7,a8,a9,a10,a11,a12,a13,a14,a15⟩) n f k
noncomputable def hb2 (f:H1→(H1→QR)→QR) (n:H2) (k:H2→QR):QR:=N16.rec (motive:=fun _=>(H1→(H1→QR)→QR)→(H2→QR)→QR) (fun a0 a1 a2 a3 a4 a5 a6 a7 a8 a9 a10 a11 a12 a13 a14 a15 f k=>f a2 fun v=>k ⟨a0,a1,v,a3,a4,a5,a6,a7,a8,a9,a10,a11,a12,a13,a14,a15⟩) n f k
noncomputable def hb3 (f:H1→(H1→QR)→QR) (n:H2) (k:H2→QR):QR:=N16.rec (motive:=fun _=>(H1→(H1→QR)→QR)→(H2→QR)→QR) (fun a0 a1 a2 a3 a4 a5 a6 a7 a8 a9 a10 a11 a12 a13 a14 a15 f k=>f a3 fun v=>k ⟨a0,a1,a2,v,a4,a5,a6,a7,a8,a9,a10,a11,a12,a13,a14,a15⟩) n f k
noncomputable def hb4 (f:H1→(H1→QR)→QR) (n:H2) (k:H2→QR):QR:=N16.rec (motive:=fun _=>(H1→(H1→QR)→QR)→(H2→QR)→QR) (fun a0 a1 a2 a3 a4 a5 a6 a7 a8 a9 a10 a11 a12 a13 a14 a15 f k=>f a4 fun v=>k ⟨a0,a1,a2,a3,v,a5,a6,a7,a8,a9,a10,a11,a12,a13,a14,a15⟩) n f k
noncomputable def hb5 (f:H1→(H1→QR)→QR) (n:H2) (k:H2→QR):QR:=N16.rec (motive:=fun _=>(H1→(H1→QR)→QR)→(H2→QR)→QR) (fun a0 a1 a2 a3 a4 a5 a6 a7 a8 a9 a10 a11 a12 a13 a14 a15 f k=>f a5 fun v=>k ⟨a0,a1,a2,a3,a4,v,a6,a7,a8,a9,a10,a11,a12,a13,a14,a15⟩) n f k
noncomputable def hb6 (f:H1→(H1→QR)→QR) (n:H2) (k:H2→QR):QR:=N16.rec (motive:=fun _=>(H1→(H1→QR)→QR)→(H2→QR)→QR) (fun a0 a1 a2 a3 a4 a5 a6 a7 a8 a9 a10 a11 a12 a13 a14 a15 f k=>f a6 fun v=>k ⟨a0,a1,a2,a3,a4,a5,v,a7,a8,a9,a10,a11,a12,a13,a14,a15⟩) n f k
noncomputable def hb7 (f:H1→(H1→QR)→QR) (n:H2) (k:H2→QR):QR:=N16.rec (motive:=fun _=>(H1→(H1→QR)→QR)→(H2→QR)→QR) (fun a0 a1 a2 a3 a4 a5 a6 a7 a8 a9 a10 a11 a12 a13 a14 a15 f k=>f a7 fun v=>k ⟨a0,a1,a2,a3,a4,a5,a6,v,a8,a9,a10,a11,a12,a13,a14,a15⟩) n f k
noncomputable def hb8 (f:H1→(H1→QR)→QR) (n:H2) (k:H2→QR):QR:=N16.rec (motive:=fun _=>(H1→(H1→QR)→QR)→(H2→QR)→QR) (fun a0 a1 a2 a3 a4 a5 a6 a7 a8 a9 a10 a11 a12 a13 a14 a15 f k=>f a8 fun v=>k ⟨a0,a1,a2,a3,a4,a5,a6,a7,v,a9,a10,a11,a12,a13,a14,a15⟩) n f k
noncomputable def hb9 (f:H1→(H1→QR)→QR) (n:H2) (k:H2→QR):QR:=N16.rec (motive:=fun _=>(H1→(H1→QR)→QR)→(H2→QR)→QR) (fun a0 a1 a2 a3 a4 a5 a6 a7 a8 a9 a10 a11 a12 a13 a14 a15 f k=>f a9 fun v=>k ⟨a0,a1,a2,a3,a4,a5,a6,a7,a8,v,a10,a11,a12,a13,a14,a15⟩) n f k
noncomputable def t6 (f:H1→(H1→QR)→QR) (n:H2) (k:H2→QR):QR:=N16.rec (motive:=fun _=>(H1→(H1→QR)→QR)→(H2→QR)→QR) (fun a0 a1 a2 a3 a4 a5 a6 a7 a8 a9 a10 a11 a12 a13 a14 a15 f k=>f a10 fun v=>k ⟨a0,a1,a2,a3,a4,a5,a6,a7,a8,a9,v,a11,a12,a13,a14,a15⟩) n f k
noncomputable def zaK (f:H1→(H1→QR)→QR) (n:H2) (k:H2→QR):QR:=N16.rec (motive:=fun _=>(H1→(H1→QR)→QR)→(H2→QR)→QR) (fun a0 a1 a2 a3 a4 a5 a6 a7 a8 a9 a10 a11 a12 a13 a14 a15 f k=>f a11 fun v=>k ⟨a0,a1,a2,a3,a4,a5,a6,a7,a8,a9,a10,v,a12,a13,a14,a15⟩) n f k
noncomputable def tr (f:H1→(H1→QR)→QR) (n:H2) (k:H2→QR):QR:=N16.rec (motive:=fun _=>(H1→(H1→QR)→QR)→(H2→QR)→QR) (fun a0 a1 a2 a3 a4 a5 a6 a7 a8 a9 a10 a11 a12 a13 a14 a15 f k=>f a12 fun v=>k ⟨a0,a1,a2,a3,a4,a5,a6,a7,a8,a9,a10,a11,v,a13,a14,a15⟩) n f k
noncomputable def zaS (f:H1→(H1→QR)→QR) (n:H2) (k:H2→QR):QR:=N16.rec (motive:=fun _=>(H1→(H1→QR)→QR)→(H2→QR)→QR) (fun a0 a1 a2 a3 a4 a5 a6 a7 a8 a9 a10 a11 a12 a13 a14 a15 f k=>f a13 fun v=>k ⟨a0,a1,a2,a3,a4,a5,a6,a7,a8,a9,a10,a11,a12,v,a14,a15⟩) n f k
noncomputable def zap (f:H1→(H1→QR)→QR) (n:H2) (k:H2→QR):QR:=N16.rec (motive:=fun _=>(H1→(H1→QR)→QR)→(H2→QR)→QR) (fun a0 a1 a2 a3 a4 a5 a6 a7 a8 a9 a10 a11 a12 a13 a14 a15 f k=>f a14 fun v=>k ⟨a0,a1,a2,a3,a4,a5,a6,a7,a8,a9,a10,a11,a12,a13,v,a15⟩) n f k
noncomputable def sX (f:H1→(H1→QR)→QR) (n:H2) (k:H2→QR):QR:=N16.rec (motive:=fun _=>(H1→(H1→QR)→QR)→(H2→QR)→QR) (fun a0 a1 a2 a3 a4 a5 a6 a7 a8 a9 a10 a11 a12 a13 a14 a15 f k=>f a15 fun v=>k ⟨a0,a1,a2,a3,a4,a5,a6,a7,a8,a9,a10,a11,a12,a13,a14,v⟩) n f k
noncomputable def hbU {S:Type} (i:Nat) (K:((H1→(H1→QR)→QR)→H2→(H2→QR)→QR)→S):S:=(bif Nat.blt i 8 then(bif Nat.blt i 4 then(bif Nat.blt i 2 then(bif Nat.blt i 1 then K hb0 else K hb1)else(bif Nat.blt i 3 then K hb2 else K hb3))else(bif Nat.blt i 6 then(bif Nat.blt i 5 then K hb4 else K hb5)else(bif Nat.blt i 7 then K hb6 else K hb7)))else(bif Nat.blt i 12 then(bif Nat.blt i 10 then(bif Nat.blt i 9 then K hb8 else K hb9)else(bif Nat.blt i 11 then K t6 else K zaK))else(bif Nat.blt i 14 then(bif Nat.blt i 13 then K tr else K zaS)else(bif Nat.blt i 15 then K zap else K sX))))
theorem my {S:Type} (K:((H1→(H1→QR)→QR)→H2→(H2→QR)→QR)→S):∀i,i<16→hbU i K=K fun f n k=>f (N16.get n i) fun v=>k (N16.set n i v):=by
 refine Ye ?_ ?_ ?_ ?_ ?_ ?_ ?_ ?_ ?_ ?_ ?_ ?_ ?_ ?_ ?_ ?_<;>rfl
noncomputable def hc0 (f:H2→(H2→QR)→QR) (n:H3) (k:H3→QR):QR:=N16.rec (motive:=fun _=>(H2→(H2→QR)→QR)→(H3→QR)→QR) (fun a0 a1 a2 a3 a4 a5 a6 a7 a8 a9 a10 a11 a12 a13 a14 a15 f k=>f a0 fun v=>k ⟨v,a1,a2,a3,a4,a5,a6,a7,a8,a9,a10,a11,a12,a13,a14,a15⟩) n f k
noncomputable def hc1 (f:H2→(H2→QR)→QR) (n:H3) (k:H3→QR):QR:=N16.rec (motive:=fun _=>(H2→(H2→QR)→QR)→(H3→QR)→QR) (fun a0 a1 a2 a3 a4 a5 a6 a7 a8 a9 a10 a11 a12 a13 a14 a15 f k=>f a1 fun v=>k ⟨a0,v,a2,a3,a4,a5,a6,a7,a8,a9,a10,a11,a12,a13,a14,a15⟩) n f k
noncomputable def hc2 (f:H2→(H2→QR)→QR) (n:H3) (k:H3→QR):QR:=N16.rec (motive:=fun _=>(H2→(H2→QR)→QR)→(H3→QR)→QR) (fun a0 a1 a2 a3 a4 a5 a6 a7 a8 a9 a10 a11 a12 a13 a14 a15 f k=>f a2 fun v=>k ⟨a0,a1,v,a3,a4,a5,a6,a7,a8,a9,a10,a11,a12,a13,a14,a15⟩) n f k
noncomputable def hc3 (f:H2→(H2→QR)→QR) (n:H3) (k:H3→QR):QR:=N16.rec (motive:=fun _=>(H2→(H2→QR)→QR)→(H3→QR)→QR) (fun a0 a1 a2 a3 a4 a5 a6 a7 a8 a9 a10 a11 a12 a13 a14 a15 f k=>f a3 fun v=>k ⟨a0,a1,a2,v,a4,a5,a6,a7,a8,a9,a10,a11,a12,a13,a14,a15⟩) n f k
noncomputable def hc4 (f:H2→(H2→QR)→QR) (n:H3) (k:H3→QR):QR:=N16.rec (motive:=fun _=>(H2→(H2→QR)→QR)→(H3→QR)→QR) (fun a0 a1 a2 a3 a4 a5 a6 a7 a8 a9 a10 a11 a12 a13 a14 a15 f k=>f a4 fun v=>k ⟨a0,a1,a2,a3,v,a5,a6,a7,a8,a9,a10,a11,a12,a13,a14,a15⟩) n f k
noncomputable def hc5 (f:H2→(H2→QR)→QR) (n:H3) (k:H3→QR):QR:=N16.rec (motive:=fun _=>(H2→(H2→QR)→QR)→(H3→QR)→QR) (fun a0 a1 a2 a3 a4 a5 a6 a7 a8 a9 a10 a11 a12 a13 a14 a15 f k=>f a5 fun v=>k ⟨a0,a1,a2,a3,a4,v,a6,a7,a8,a9,a10,a11,a12,a13,a14,a15⟩) n f k
noncomputable def hc6 (f:H2→(H2→QR)→QR) (n:H3) (k:H3→QR):QR:=N16.rec (motive:=fun _=>(H2→(H2→QR)→QR)→(H3→QR)→QR) (fun a0 a1 a2 a3 a4 a5 a6 a7 a8 a9 a10 a11 a12 a13 a14 a15 f k=>f a6 fun v=>k ⟨a0,a1,a2,a3,a4,a5,v,a7,a8,a9,a10,a11,a12,a13,a14,a15⟩) n f k
noncomputable def hc7 (f:H2→(H2→QR)→QR) (n:H3) (k:H3→QR):QR:=N16.rec (motive:=fun _=>(H2→(H2→QR)→QR)→(H3→QR)→QR) (fun a0 a1 a2 a3 a4 a5 a6 a7 a8 a9 a10 a11 a12 a13 a14 a15 f k=>f a7 fun v=>k ⟨a0,a1,a2,a3,a4,a5,a6,v,a8,a9,a10,a11,a12,a13,a14,a15⟩) n f k
noncomputable def hc8 (f:H2→(H2→QR)→QR) (n:H3) (k:H3→QR):QR:=N16.rec (motive:=fun _=>(H2→(H2→QR)→QR)→(H3→QR)→QR) (fun a0 a1 a2 a3 a4 a5 a6 a7 a8 a9 a10 a11 a12 a13 a14 a15 f k=>f a8 fun v=>k ⟨a0,a1,a2,a3,a4,a5,a6,a7,v,a9,a10,a11,a12,a13,a14,a15⟩) n f k
noncomputable def hc9 (f:H2→(H2→QR)→QR) (n:H3) (k:H3→QR):QR:=N16.rec (motive:=fun _=>(H2→(H2→QR)→QR)→(H3→QR)→QR) (fun a0 a1 a2 a3 a4 a5 a6 a7 a8 a9 a10 a11 a12 a13 a14 a15 f k=>f a9 fun v=>k ⟨a0,a1,a2,a3,a4,a5,a6,a7,a8,v,a10,a11,a12,a13,a14,a15⟩) n f k
noncomputable def zaO (f:H2→(H2→QR)→QR) (n:H3) (k:H3→QR):QR:=N16.rec (motive:=fun _=>(H2→(H2→QR)→QR)→(H3→QR)→QR) (fun a0 a1 a2 a3 a4 a5 a6 a7 a8 a9 a10 a11 a12 a13 a14 a15 f k=>f a10 fun v=>k ⟨a0,a1,a2,a3,a4,a5,a6,a7,a8,a9,v,a11,a12,a13,a14,a15⟩) n f k
noncomputable def tc (f:H2→(H2→QR)→QR) (n:H3) (k:H3→QR):QR:=N16.rec (motive:=fun _=>(H2→(H2→QR)→QR)→(H3→QR)→QR) (fun a0 a1 a2 a3 a4 a5 a6 a7 a8 a9 a10 a11 a12 a13 a14 a15 f k=>f a11 fun v=>k ⟨a0,a1,a2,a3,a4,a5,a6,a7,a8,a9,a10,v,a12,a13,a14,a15⟩) n f k
noncomputable def zab (f:H2→(H2→QR)→QR) (n:H3) (k:H3→QR):QR:=N16.rec (motive:=fun _=>(H2→(H2→QR)→QR)→(H3→QR)→QR) (fun a0 a1 a2 a3 a4 a5 a6 a7 a8 a9 a10 a11 a12 a13 a14 a15 f k=>f a12 fun v=>k ⟨a0,a1,a2,a3,a4,a5,a6,a7,a8,a9,a10,a11,v,a13,a14,a15⟩) n f k
noncomputable def te (f:H2→(H2→QR)→QR) (n:H3) (k:H3→QR):QR:=N16.rec (motive:=fun _=>(H2→(H2→QR)→QR)→(H3→QR)→QR) (fun a0 a1 a2 a3 a4 a5 a6 a7 a8 a9 a10 a11 a12 a13 a14 a15 f k=>f a13 fun v=>k ⟨a0,a1,a2,a3,a4,a5,a6,a7,a8,a9,a10,a11,a12,v,a14,a15⟩) n f k
noncomputable def zaI (f:H2→(H2→QR)→QR) (n:H3) (k:H3→QR):QR:=N16.rec (motive:=fun _=>(H2→(H2→QR)→QR)→(H3→QR)→QR) (fun a0 a1 a2 a3 a4 a5 a6 a7 a8 a9 a10 a11 a12 a13 a14 a15 f k=>f a14 fun v=>k ⟨a0,a1,a2,a3,a4,a5,a6,a7,a8,a9,a10,a11,a12,a13,v,a15⟩) n f k
noncomputable def sN (f:H2→(H2→QR)→QR) (n:H3) (k:H3→QR):QR:=N16.rec (motive:=fun _=>(H2→(H2→QR)→QR)→(H3→QR)→QR) (fun a0 a1 a2 a3 a4 a5 a6 a7 a8 a9 a10 a11 a12 a13 a14 a15 f k=>f a15 fun v=>k ⟨a0,a1,a2,a3,a4,a5,a6,a7,a8,a9,a10,a11,a12,a13,a14,v⟩) n f k
noncomputable def hcU {S:Type} (i:Nat) (K:((H2→(H2→QR)→QR)→H3→(H3→QR)→QR)→S):S:=(bif Nat.blt i 8 then(bif Nat.blt i 4 then(bif Nat.blt i 2 then(bif Nat.blt i 1 then K hc0 else K hc1)else(bif Nat.blt i 3 then K hc2 else K hc3))else(bif Nat.blt i 6 then(bif Nat.blt i 5 then K hc4 else K hc5)else(bif Nat.blt i 7 then K hc6 else K hc7)))else(bif Nat.blt i 12 then(bif Nat.blt i 10 then(bif Nat.blt i 9 then K hc8 else K hc9)else(bif Nat.blt i 11 then K zaO else K tc))else(bif Nat.blt i 14 then(bif Nat.blt i 13 then K zab else K te)else(bif Nat.blt i 15 then K zaI else K sN))))
theorem mv {S:Type} (K:((H2→(H2→QR)→QR)→H3→(H3→QR)→QR)→S):∀i,i<16→hcU i K=K fun f n k=>f (N16.get n i) fun v=>k (N16.set n i v):=by
 refine Ye ?_ ?_ ?_ ?_ ?_ ?_ ?_ ?_ ?_ ?_ ?_ ?_ ?_ ?_ ?_ ?_<;>rfl
noncomputable def hd0 (f:H3→(H3→QR)→QR) (n:H4) (k:H4→QR):QR:=N16.rec (motive:=fun _=>(H3→(H3→QR)→QR)→(H4→QR)→QR) (fun a0 a1 a2 a3 a4 a5 a6 a7 a8 a9 a10 a11 a12 a13 a14 a15 f k=>f a0 fun v=>k ⟨v,a1,a2,a3,a4,a5,a6,a7,a8,a9,a10,a11,a12,a13,a14,a15⟩) n f k
noncomputable def hd1 (f:H3→(H3→QR)→QR) (n:H4) (k:H4→QR):QR:=N16.rec (motive:=fun _=>(H3→(H3→QR)→QR)→(H4→QR)→QR) (fun a0 a1 a2 a3 a4 a5 a6 a7 a8 a9 a10 a11 a12 a13 a14 a15 f k=>f a1 fun v=>k ⟨a0,v,a2,a3,a4,a5,a6,a7,a8,a9,a10,a11,a12,a13,a14,a15⟩) n f k
noncomputable def hd2 (f:H3→(H3→QR)→QR) (n:H4) (k:H4→QR):QR:=N16.rec (motive:=fun _=>(H3→(H3→QR)→QR)→(H4→QR)→QR) (fun a0 a1 a2 a3 a4 a5 a6 a7 a8 a9 a10 a11 a12 a13 a14 a15 f k=>f a2 fun v=>k ⟨a0,a1,v,a3,a4,a5,a6,a7,a8,a9,a10,a11,a12,a13,a14,a15⟩) n f k
noncomputable def hd3 (f:H3→(H3→QR)→QR) (n:H4) (k:H4→QR):QR:=N16.rec (motive:=fun _=>(H3→(H3→QR)→QR)→(H4→QR)→QR) (fun a0 a1 a2 a3 a4 a5 a6 a7 a8 a9 a10 a11 a12 a13 a14 a15 f k=>f a3 fun v=>k ⟨a0,a1,a2,v,a4,a5,a6,a7,a8,a9,a10,a11,a12,a13,a14,a15⟩) n f k
noncomputable def hd4 (f:H3→(H3→QR)→QR) (n:H4) (k:H4→QR):QR:=N16.rec (motive:=fun _=>(H3→(H3→QR)→QR)→(H4→QR)→QR) (fun a0 a1 a2 a3 a4 a5 a6 a7 a8 a9 a10 a11 a12 a13 a14 a15 f k=>f a4 fun v=>k ⟨a0,a1,a2,a3,v,a5,a6,a7,a8,a9,a10,a11,a12,a13,a14,a15⟩) n f k
noncomputable def hd5 (f:H3→(H3→QR)→QR) (n:H4) (k:H4→QR):QR:=N16.rec (motive:=fun _=>(H3→(H3→QR)→QR)→(H4→QR)→QR) (fun a0 a1 a2 a3 a4 a5 a6 a7 a8 a9 a10 a11 a12 a13 a14 a15 f k=>f a5 fun v=>k ⟨a0,a1,a2,a3,a4,v,a6,a7,a8,a9,a10,a11,a12,a13,a14,a15⟩) n f k
noncomputable def hd6 (f:H3→(H3→QR)→QR) (n:H4) (k:H4→QR):QR:=N16.rec (motive:=fun _=>(H3→(H3→QR)→QR)→(H4→QR)→QR) (fun a0 a1 a2 a3 a4 a5 a6 a7 a8 a9 a10 a11 a12 a13 a14 a15 f k=>f a6 fun v=>k ⟨a0,a1,a2,a3,a4,a5,v,a7,a8,a9,a10,a11,a12,a13,a14,a15⟩) n f k
noncomputable def hd7 (f:H3→(H3→QR)→QR) (n:H4) (k:H4→QR):QR:=N16.rec (motive:=fun _=>(H3→(H3→QR)→QR)→(H4→QR)→QR) (fun a0 a1 a2 a3 a4 a5 a6 a7 a8 a9 a10 a11 a12 a13 a14 a15 f k=>f a7 fun v=>k ⟨a0,a1,a2,a3,a4,a5,a6,v,a8,a9,a10,a11,a12,a13,a14,a15⟩) n f k
noncomputable def hd8 (f:H3→(H3→QR)→QR) (n:H4) (k:H4→QR):QR:=N16.rec (motive:=fun _=>(H3→(H3→QR)→QR)→(H4→QR)→QR) (fun a0 a1 a2 a3 a4 a5 a6 a7 a8 a9 a10 a11 a12 a13 a14 a15 f k=>f a8 fun v=>k ⟨a0,a1,a2,a3,a4,a5,a6,a7,v,a9,a10,a11,a12,a13,a14,a15⟩) n f k
noncomputable def hd9 (f:H3→(H3→QR)→QR) (n:H4) (k:H4→QR):QR:=N16.rec (motive:=fun _=>(H3→(H3→QR)→QR)→(H4→QR)→QR) (fun a0 a1 a2 a3 a4 a5 a6 a7 a8 a9 a10 a11 a12 a13 a14 a15 f k=>f a9 fun v=>k ⟨a0,a1,a2,a3,a4,a5,a6,a7,a8,v,a10,a11,a12,a13,a14,a15⟩) n f k
noncomputable def s4 (f:H3→(H3→QR)→QR) (n:H4) (k:H4→QR):QR:=N16.rec (motive:=fun _=>(H3→(H3→QR)→QR)→(H4→QR)→QR) (fun a0 a1 a2 a3 a4 a5 a6 a7 a8 a9 a10 a11 a12 a13 a14 a15 f k=>f a10 fun v=>k ⟨a0,a1,a2,a3,a4,a5,a6,a7,a8,a9,v,a11,a12,a13,a14,a15⟩) n f k
noncomputable def sS (f:H3→(H3→QR)→QR) (n:H4) (k:H4→QR):QR:=N16.rec (motive:=fun _=>(H3→(H3→QR)→QR)→(H4→QR)→QR) (fun a0 a1 a2 a3 a4 a5 a6 a7 a8 a9 a10 a11 a12 a13 a14 a15 f k=>f a11 fun v=>k ⟨a0,a1,a2,a3,a4,a5,a6,a7,a8,a9,a10,v,a12,a13,a14,a15⟩) n f k
noncomputable def zaz (f:H3→(H3→QR)→QR) (n:H4) (k:H4→QR):QR:=N16.rec (motive:=fun _=>(H3→(H3→QR)→QR)→(H4→QR)→QR) (fun a0 a1 a2 a3 a4 a5 a6 a7 a8 a9 a10 a11 a12 a13 a14 a15 f k=>f a12 fun v=>k ⟨a0,a1,a2,a3,a4,a5,a6,a7,a8,a9,a10,a11,v,a13,a14,a15⟩) n f k
noncomputable def tW (f:H3→(H3→QR)→QR) (n:H4) (k:H4→QR):QR:=N16.rec (motive:=fun _=>(H3→(H3→QR)→QR)→(H4→QR)→QR) (fun a0 a1 a2 a3 a4 a5 a6 a7 a8 a9 a10 a11 a12 a13 a14 a15 f k=>f a13 fun v=>k ⟨a0,a1,a2,a3,a4,a5,a6,a7,a8,a9,a10,a11,a12,v,a14,a15⟩) n f k
noncomputable def tX (f:H3→(H3→QR)→QR) (n:H4) (k:H4→QR):QR:=N16.rec (motive:=fun _=>(H3→(H3→QR)→QR)→(H4→QR)→QR) (fun a0 a1 a2 a3 a4 a5 a6 a7 a8 a9 a10 a11 a12 a13 a14 a15 f k=>f a14 fun v=>k ⟨a0,a1,a2,a3,a4,a5,a6,a7,a8,a9,a10,a11,a12,a13,v,a15⟩) n f k
noncomputable def zae (f:H3→(H3→QR)→QR) (n:H4) (k:H4→QR):QR:=N16.rec (motive:=fun _=>(H3→(H3→QR)→QR)→(H4→QR)→QR) (fun a0 a1 a2 a3 a4 a5 a6 a7 a8 a9 a10 a11 a12 a13 a14 a15 f k=>f a15 fun v=>k ⟨a0,a1,a2,a3,a4,a5,a6,a7,a8,a9,a10,a11,a12,a13,a14,v⟩) n f k
noncomputable def hdU {S:Type} (i:Nat) (K:((H3→(H3→QR)→QR)→H4→(H4→QR)→QR)→S):S:=(bif Nat.blt i 8 then(bif Nat.blt i 4 then(bif Nat.blt i 2 then(bif Nat.blt i 1 then K hd0 else K hd1)else(bif Nat.blt i 3 then K hd2 else K hd3))else(bif Nat.blt i 6 then(bif Nat.blt i 5 then K hd4 else K hd5)else(bif Nat.blt i 7 then K hd6 else K hd7)))else(bif Nat.blt i 12 then(bif Nat.blt i 10 then(bif Nat.blt i 9 then K hd8 else K hd9)else(bif Nat.blt i 11 then K s4 else K sS))else(bif Nat.blt i 14 then(bif Nat.blt i 13 then K zaz else K tW)else(bif Nat.blt i 15 then K tX else K zae))))
theorem mE {S:Type} (K:((H3→(H3→QR)→QR)→H4→(H4→QR)→QR)→S):∀i,i<16→hdU i K=K fun f n k=>f (N16.get n i) fun v=>k (N16.set n i v):=by
 refine Ye ?_ ?_ ?_ ?_ ?_ ?_ ?_ ?_ ?_ ?_ ?_ ?_ ?_ ?_ ?_ ?_<;>rfl
noncomputable def slo (u:(KV→(KV→QR)→QR)→S2→(S2→QR)→QR) (f:KV→(KV→QR)→QR) (s:Sl) (K:Sl→QR):QR:=Sl.rec (motive:=fun _=>((KV→(KV→QR)→QR)→S2→(S2→QR)→QR)→(KV→(KV→QR)→QR)→(Sl→QR)→QR) (fun lo hi u f K=>u f lo fun lo=>K ⟨lo,hi⟩) s u f K
noncomputable def dS (t:Nat):Sel Sl KV:=bif Nat.blt t 256 then Yf (α:=S1) (t/16) fun p=>Yf (α:=KV) (t%16) fun q=> .mk fun s=>q (p s.lo)else .mk fun s=>zp s.hi t
noncomputable def dU (t:Nat):Upd KV Sl:=bif Nat.blt t 256 then sbU (t/16) fun p=>saU (t%16) fun q=> .mk fun f s K=>slo (fun f=>p (q f)) f s K else .mk fun f s K=>f (zp s.hi t) fun v=>K ⟨s.lo,bJ s.hi t v⟩
theorem Vz (t:Nat):dS t= .mk fun s=>yj s t:=by
 unfold dS yj
 rw [zI,Bool.cond_decide]
 by_cases h:t<256
 ·simp only [if_pos h]
  rw [jg _ _ (by omega),jg _ _ (by omega)]
  rfl
 ·simp only [if_neg h]
theorem BS (t:Nat):dU t= .mk fun f s K=>f (yj s t) fun v=>K (xk s t v):=by
 unfold dU yj xk
 rw [zI,Bool.cond_decide]
 by_cases h:t<256
 ·simp only [if_pos h]
  rw [lN _ _ (by omega),nA _ _ (by omega)]
  rfl
 ·simp only [if_neg h]
noncomputable def dH (id:Nat):Sel (N64k KO) (Option KO):=bif Nat.blt id 65536 then Yf (α:=H3) (id/256/16) fun a=>Yf (α:=H2) (id/256%16) fun b=>Yf (α:=H1) (id%256/16) fun c=>Yf (α:=H0) (id%256%16) fun d=> .mk fun m=>d (c (b (a m)))else .mk fun m=>none
noncomputable def uH (id:Nat):Upd (Option KO) (N64k KO):=bif Nat.blt id 65536 then hdU (id/256/16) fun a=>hcU (id/256%16) fun b=>hbU (id%256/16) fun c=>haU (id%256%16) fun d=> .mk fun f m K=>a (b (c (d f))) m K else .mk fun f m K=>f none fun _=>K m
theorem rW (id:Nat):dH id= .mk fun m=>N64k.get m id:=by
 unfold dH N64k.get
 rw [zI,Bool.cond_decide]
 by_cases h:id<65536
 ·simp only [if_pos h]
  rw [jg _ _ (by omega),jg _ _ (by omega),jg _ _ (by omega),jg _ _ (by omega)]
  rfl
 ·simp only [if_neg h]
theorem BV (id:Nat):uH id= .mk fun f m K=>f (N64k.get m id) fun v=>K (N64k.set m id v):=by
 unfold uH N64k.get N64k.set
 rw [zI,Bool.cond_decide]
 by_cases h:id<65536
 ·simp only [if_pos h]
  rw [mE _ _ (by omega),mv _ _ (by omega),my _ _ (by omega),lV _ _ (by omega)]
  rfl
 ·simp only [if_neg h]
noncomputable def ogo (o:Option KO) (K:KO→QR):QR:=Option.rec (motive:=fun _=>(KO→QR)→QR) (fun _=>none) (fun o K=>K o) o K
noncomputable def xO (h:KH) (id:Nat) (K:KO→QR):QR:=Sel.rec (motive:=fun _=>KH→(KO→QR)→QR) (fun g h K=>ogo (g h.t) K) (dH id) h K
theorem xj (h:KH) (id:Nat) (K:KO→QR):xO h id K=(h.get id).elim none K:=by
 unfold xO
 rw [rW]
 show ogo (h.get id) K=_
 cases h.get id<;>rfl
noncomputable def YH (u:Upd (Option KO) (N64k KO)) (o:Option KO) (t:N64k KO) (n:Nat) (K:KH→QR):QR:=Upd.rec (motive:=fun _=>Option KO→N64k KO→Nat→(KH→QR)→QR) (fun u o t n K=>u (fun _ k=>k o) t fun t=>K ⟨t,n⟩) u o t n K
noncomputable def j5 (h:KH) (id:Nat) (o:KO) (K:KH→QR):QR:=YH (uH id) (some o) h.t h.next K
theorem v6 (h:KH) (id:Nat) (o:KO) (K:KH→QR):j5 h id o K=K (h.set id (some o)):=by
 unfold j5 YH; rw [BV]; rfl
noncomputable def JU (h:KH) (id:Nat) (K:KH→QR):QR:=YH (uH id) none h.t h.next K
theorem Kw (h:KH) (id:Nat) (K:KH→QR):JU h id K=K (h.set id none):=by
 unfold JU YH; rw [BV]; rfl
noncomputable def Ds (t:N64k KO) (o:KO) (K:Nat→KH→QR) (i:Nat):QR:=zb (Nat.blt (Nat.succ i) 65000) (nfc (Nat.succ i) fun n=>YH (uH i) (some o) t n (K i)) none
noncomputable def yO (h:KH) (o:KO) (K:Nat→KH→QR):QR:=nfc h.next (Ds h.t o K)
theorem yH (h:KH) (o:KO) (K:Nat→KH→QR):yO h o K=if yw h=true then K h.next (h.push o)else none:=by
 unfold yO Ds YH
 simp only [zi,za]
 rw [BV]
 rfl
noncomputable def Bs (l:List KV) (i:Nat) (K:KV→QR):QR:=List.rec (motive:=fun _=>Nat→(KV→QR)→QR) (fun _ _=>none) (fun v _ ih i K=>Nat.rec (motive:=fun _=>QR) (K v) (fun j _=>ih j K) i) l i K
theorem pO (l:List KV) (i:Nat) (K:KV→QR):Bs l i K=(l[i]?).elim none K:=by
 induction l generalizing i with
 |nil=>rfl
 | cons v r ih=>cases i with
  |zero=>rfl
  |succ i=>exact ih i
noncomputable def Zk (l:List KV) (i:Nat) (K:List KV→QR):QR:=List.rec (motive:=fun _=>Nat→(List KV→QR)→QR) (fun _ K=>K []) (fun v r ih i K=>Nat.rec (motive:=fun _=>QR) (K (v::r)) (fun j _=>ih j K) i) l i K
theorem qL (l:List KV) (i:Nat) (K:List KV→QR):Zk l i K=K (l.drop i):=by
 induction l generalizing i with
 |nil=>simp only [List.drop_nil]; rfl
 | cons v r ih=>cases i with
  |zero=>rfl
  |succ i=>exact ih i
noncomputable def bY (l:List KV) (n:Nat) (K:List KV→QR):QR:=List.rec (motive:=fun _=>Nat→(List KV→QR)→QR) (fun n K=>Nat.rec (motive:=fun _=>QR) (K []) (fun _ _=>none) n) (fun v _ ih n K=>Nat.rec (motive:=fun _=>QR) (K []) (fun m _=>ih m fun l=>K (v::l)) n) l n K
theorem qY (l:List KV) (n:Nat) (K:List KV→QR):bY l n K=if(l.take n).length=n then K (l.take n)else none:=by
 induction l generalizing n K with
 | nil=>cases n with
  |zero=>rfl
  |succ n=>simp only [List.take_nil,List.length_nil]; rfl
 | cons v r ih=>cases n with
  |zero=>rfl
  | succ n=>
   have:bY (v::r) (n+1) K=bY r n fun l=>K (v::l):=rfl
   rw [this,ih]
   simp only [List.take_succ_cons,List.length_cons,Nat.add_right_cancel_iff]
noncomputable def df (l r:List KV) (K:List KV→QR):QR:=List.rec (motive:=fun _=>List KV→(List KV→QR)→QR) (fun r K=>K r) (fun v _ ih r K=>ih r fun l=>K (v::l)) l r K
theorem jT (l r:List KV) (K:List KV→QR):df l r K=K (l++r):=by
 induction l generalizing K with
 |nil=>rfl
 |cons v l ih=>exact ih _
noncomputable def XI (l:List KV) (off n:Nat) (new:List KV) (K:List KV→QR):QR:=
 List.rec (motive:=fun _=>Nat→Nat→List KV→(List KV→QR)→QR) (fun off n new K=>Nat.rec (motive:=fun _=>QR) (Nat.rec (motive:=fun _=>QR) (K new) (fun _ _=>none) n) (fun _ _=>none) off)
  (fun v r ih off n new K=>Nat.rec (motive:=fun _=>QR) (bY (v::r) n fun _=>Zk (v::r) n fun r=>df new r K) (fun j _=>ih j n new fun l=>K (v::l)) off) l off n new K
theorem pF (l:List KV) (off n:Nat) (new:List KV) (K:List KV→QR):XI l off n new K=if off+n≤l.length then K (l.take off++new++l.drop (off+n))else none:=by
 induction l generalizing off K with
 | nil=>
  cases off with
  | zero=>cases n with
   |zero=>simp only [Nat.add_zero,List.length_nil,Nat.le_refl,if_true,List.take_nil,List.drop_nil,List.nil_append,List.append_nil]; rfl
   |succ n=>rw [if_neg (by simp)]; rfl
  |succ off=>rw [if_neg (by simp only [List.length_nil]; omega)]; rfl
 | cons v r ih=>cases off with
  | zero=>
   have:XI (v::r) 0 n new K=bY (v::r) n fun _=>Zk (v::r) n fun r=>df new r K:=rfl
   rw [this,qY]
   simp only [qL,jT,Nat.zero_add,List.take_zero,List.nil_append]
   have e:((v::r).take n).length=n↔n≤(v::r).length:=by rw [List.length_take]; omega
   by_cases h:n≤(v::r).length
   ·rw [if_pos h,if_pos (e.2 h)]
   ·rw [if_neg h,if_neg (fun h'=>h (e.1 h'))]
  | succ off=>
   have:XI (v::r) (off+1) n new K=XI r off n new fun l=>K (v::l):=rfl
   rw [this,ih]
   have e:off+n≤r.length↔off+1+n≤(v::r).length:=by simp only [List.length_cons]; omega
   have e2:off+1+n=(off+n)+1:=by omega
   by_cases h:off+n≤r.length
   ·rw [if_pos h,if_pos (e.1 h),e2]; rfl
   ·rw [if_neg h,if_neg (fun h'=>h (e.2 h'))]
noncomputable def eq (l:List KV) (K:Nat→QR):QR:=List.rec (motive:=fun _=>Nat→(Nat→QR)→QR) (fun n K=>nfc n K) (fun _ _ ih n K=>nfc (Nat.succ n) fun n=>ih n K) l 0 K
theorem Wx (l:List KV) (K:Nat→QR):eq l K=K l.length:=by
 have:∀n,List.rec (motive:=fun _=>Nat→(Nat→QR)→QR) (fun n K=>nfc n K) (fun _ _ ih n K=>nfc (Nat.succ n) fun n=>ih n K) l n K=K (l.length+n):=by
  induction l with
  |nil=>intro n; simp [zi]
  |cons v r ih=>intro n; refine(zi _ _).trans ((ih (Nat.succ n)).trans ?_); congr 1; simp only [List.length_cons]; omega
 exact this 0
noncomputable def gV (l:List KV) (n:Nat) (K:QR):QR:=List.rec (motive:=fun _=>Nat→QR→QR) (fun n K=>Nat.rec (motive:=fun _=>QR) K (fun _ _=>none) n) (fun v _ ih n K=>Nat.rec (motive:=fun _=>QR) none (fun m _=>v.onCell (ih m K) none) n) l n K
theorem dJ (l:List KV) (n:Nat) (K:QR):gV l n K=if l.length=n∧KV.isCells l=true then K else none:=by
 induction l generalizing n with
 | nil=>cases n with
  |zero=>rw [if_pos ⟨rfl,rfl⟩]; rfl
  |succ n=>rw [if_neg (by simp)]; rfl
 | cons v r ih=>cases n with
  |zero=>rw [if_neg (by simp)]; rfl
  | succ n=>
   have:gV (v::r) (n+1) K=v.onCell (gV r n K) none:=rfl
   rw [this,KV.onCell_eq,ih]
   by_cases h:v.isCell=true<;>simp [KV.isCells,h]
noncomputable def gz (v:KV) (n:Nat) (K:List KV→QR):QR:=KV.rec (motive_1:=fun _=>Nat→(List KV→QR)→QR) (motive_2:=fun _=>Nat→(List KV→QR)→QR) (fun m K=>none) (fun b m K=>zb (Nat.beq m 1) (K [(.bool b)]) none) (fun k n m K=>zb (Nat.beq m 1) (K [(.int k n)]) none) (fun n s m K=>zb (Nat.beq m 1) (K [(.str n s)]) none) (fun i o m K=>zb (Nat.beq m 1) (K [(.ptr i o)]) none) (fun m K=>zb (Nat.beq m 1) (K [.nilp]) none) (fun i o l c s m K=>zb (Nat.beq m 1) (K [(.sl i o l c s)]) none) (fun m K=>zb (Nat.beq m 1) (K [.slz]) none) (fun m K=>zb (Nat.beq m 1) (K [.nilsl]) none) (fun fn x y _ _ m K=>zb (Nat.beq m 1) (K [(.func fn x y)]) none) (fun m K=>zb (Nat.beq m 1) (K [.nilfunc]) none) (fun i m K=>zb (Nat.beq m 1) (K [(.yield i)]) none) (fun a _ m K=>gV a m (K a)) (fun _ _ m K=>none) (fun i m K=>zb (Nat.beq m 1) (K [(.map i)]) none) (fun m K=>zb (Nat.beq m 1) (K [.nilmap]) none) (fun ty u _ m K=>zb (Nat.beq m 1) (K [(.iface ty u)]) none) (fun m K=>zb (Nat.beq m 1) (K [.niliface]) none) (fun n K=>none) (fun _ _ _ _ n K=>none) v n K
theorem ph (v:KV) (n:Nat) (K:List KV→QR):gz v n K=if v.cells.length=n∧KV.isCells v.cells=true then K v.cells else none:=by
 have one:∀ {v:KV},v.cells= [v]→v.isCell=true→zb (Nat.beq n 1) (K [v]) none=if v.cells.length=n∧KV.isCells v.cells=true then K v.cells else none:=by
  intro v hv h
  rw [za,hv]
  simp only [Nat.beq_eq,List.length_cons,List.length_nil,KV.isCells,List.all_cons,List.all_nil,Bool.and_true,Nat.zero_add,eq_comm (a:=1),h,and_true]
 cases v with
 |agg cs=>exact dJ _ _ _
 |junk=>rw [if_neg (by simp [KV.cells,KV.isCells,KV.isCell])]; rfl
 |tuple l=>rw [if_neg (by simp [KV.cells,KV.isCells,KV.isCell])]; rfl
 |bool x0=>exact one (v:= .bool x0) rfl rfl
 |int x0 x1=>exact one (v:= .int x0 x1) rfl rfl
 |str x0 x1=>exact one (v:= .str x0 x1) rfl rfl
 |ptr x0 x1=>exact one (v:= .ptr x0 x1) rfl rfl
 |nilp  => exact one (v:= .nilp) rfl rfl
 |sl x0 x1 x2 x3 x4=>exact one (v:= .sl x0 x1 x2 x3 x4) rfl rfl
 |slz  => exact one (v:= .slz) rfl rfl
 |nilsl  => exact one (v:= .nilsl) rfl rfl
 |func x0 x1 x2=>exact one (v:= .func x0 x1 x2) rfl rfl
 |nilfunc  => exact one (v:= .nilfunc) rfl rfl
 |yield x0=>exact one (v:= .yield x0) rfl rfl
 |map x0=>exact one (v:= .map x0) rfl rfl
 |nilmap  => exact one (v:= .nilmap) rfl rfl
 |iface x0 x1=>exact one (v:= .iface x0 x1) rfl rfl
 |niliface  => exact one (v:= .niliface) rfl rfl
def tb (m i:Nat):Bool:=Nat.beq (Nat.land (Nat.shiftRight m i) 1) 1
theorem ud (m i:Nat):tb m i=Nat.testBit m i:=by
 unfold tb
 have e1:Nat.land (Nat.shiftRight m i) 1=(m >>> i)%2:=Nat.and_one_is_mod (m >>> i)
 rw [e1,Nat.testBit_eq_decide_div_mod_eq,Nat.shiftRight_eq_div_pow]
 rw [wo]
def bt (i:Nat):Nat:=Nat.shiftLeft 1 i
theorem ge (i k:Nat):tb (bt i) k=decide (k=i):=by
 rw [ud]
 show Nat.testBit (1 <<< i) k=_
 rw [Nat.one_shiftLeft,Nat.testBit_two_pow]
 by_cases h:i=k
 ·subst h; simp
 ·simp [h,Ne.symm h]
theorem vL (a b i:Nat):tb (Nat.lor a b) i=(tb a i||tb b i):=by rw [ud,ud,ud]; exact Nat.testBit_or a b i
theorem Yc (a b i:Nat):tb (Nat.land a b) i=(tb a i&&tb b i):=by rw [ud,ud,ud]; exact Nat.testBit_and a b i
theorem ju (i:Nat):tb 0 i=false:=by rw [ud]; exact Nat.zero_testBit i
def sub? (a b:Nat):Bool:=Nat.beq (Nat.land a b) a
theorem UF {a b:Nat} (h:sub? a b=true) {i:Nat} (hi:tb a i=true):tb b i=true:=by
 have e:=Nat.eq_of_beq_eq_true h
 have:tb (Nat.land a b) i=true:=by rw [e]; exact hi
 rw [Yc,Bool.and_eq_true]at this
 exact this.2
structure OI where
 d:Nat
 dst:Option Nat
 r:Nat
 still:Bool
 al:Bool
noncomputable def YS (l:List Edge):Nat:=List.rec (motive:=fun _=>Nat) 0 (fun e _ ih=>bif Region.binds .any e then Nat.lor (bt e.on) ih else ih) l
theorem GF (l:List Edge) (k:Nat):tb (YS l) k=true↔k∈(l.filter fun e=>Region.binds .any e).map (·.on):=by
 induction l with
 |nil=>simp [YS,ju]
 | cons e l ih=>
  have e1:YS (e::l)=bif Region.binds .any e then Nat.lor (bt e.on) (YS l)else YS l:=rfl
  rw [e1]
  cases hb:Region.binds .any e with
  | true=>
   simp only [cond_true,vL,ge,List.filter_cons,hb,if_true,List.map_cons,List.mem_cons,Bool.or_eq_true,decide_eq_true_eq,ih]
  |false=>simp only [cond_false,List.filter_cons,hb,Bool.false_eq_true,if_false,ih]
noncomputable def ji (l:List Operand):Nat:=List.rec (motive:=fun _=>Nat) 0 (fun x _ ih=>Operand.rec (motive:=fun _=>Nat) (fun t=>Nat.lor (bt t) ih) (fun _=>ih) (fun _=>ih) (fun _=>ih) x) l
theorem Ze (l:List Operand) (k:Nat):tb (ji l) k=true↔k∈l.filterMap fun| .tmp t=>some t|_=>none:=by
 induction l with
 |nil=>simp [ji,ju]
 | cons x l ih=>
  cases x with
  | tmp t=>
   have e1:ji (.tmp t::l)=Nat.lor (bt t) (ji l):=rfl
   rw [e1,vL,Bool.or_eq_true,ge,ih]
   simp
  |const v=>have e1:ji (.const v::l)=ji l:=rfl; rw [e1,ih]; simp
  |global v=>have e1:ji (.global v::l)=ji l:=rfl; rw [e1,ih]; simp
  |func v=>have e1:ji (.func v::l)=ji l:=rfl; rw [e1,ih]; simp
noncomputable def vV (T:TypeId→TI) (ops:Array Oper) (o:Oper):OI where
 d:=YS o.after.toList
 dst:=o.dst
 r :=match o.guard with
  |some (g,_)=>(match zk ops g with|some d=>Nat.lor (bt d) (ji o.op.operands.toList)|none=>ji o.op.operands.toList)
  |none=>ji o.op.operands.toList
 still:=k8 T o.op
 al:=Zi o.op&&o.guard.isNone
theorem J1 {T:TypeId→TI} {ops:Array Oper} {j:Nat} {o:Oper} (ho:ops[j]? =some o) (t:Nat):tb (vV T ops o).r t=true↔t∈zN ops j:=by
 unfold vV zN vd
 rw [ho]
 simp only
 cases hg:o.guard with
 |none=>simp only [Ze,List.append_nil]; rfl
 | some g=>
  obtain⟨g,want⟩:=g
  simp only
  cases hd:zk ops g with
  |none=>simp only [Ze,List.append_nil]; rfl
  | some d=>
   simp only [vL,ge,Bool.or_eq_true,decide_eq_true_eq,Ze,List.mem_append,List.mem_singleton]
   exact Or.comm
theorem Qv {T:TypeId→TI} {ops:Array Oper} {j:Nat} {o:Oper} (ho:ops[j]? =some o) (k:Nat):tb (vV T ops o).d k=true↔k∈dp ops j:=by
 unfold vV dp
 rw [ho]
 exact GF _ _
def full:Nat:=18446744073709551615
def xR (M i:Nat):Nat:=Nat.land (Nat.shiftRight M (Nat.mul 64 i)) full
theorem pM (k:Nat):tb full k=decide (k<64):=by
 rw [ud,show full=2^64-1 by decide,Nat.testBit_two_pow_sub_one]
theorem nl (M i k:Nat):tb (Nat.shiftRight M i) k=tb M (i+k):=by
 rw [ud,ud]; exact Nat.testBit_shiftRight M
theorem lu (M i k:Nat):tb (Nat.shiftLeft M i) k=(decide (i≤k)&&tb M (k-i)):=by
 rw [ud,ud]; exact Nat.testBit_shiftLeft M
theorem qJ (M i k:Nat):tb (xR M i) k=(tb M (64*i+k)&&decide (k<64)):=by
 unfold xR
 rw [Yc,nl,pM]; rfl
noncomputable def Bg (l:List Nat):Nat:=List.rec (motive:=fun _=>Nat) 0 (fun x _ ih=>Nat.lor (Nat.land x full) (Nat.shiftLeft ih 64)) l
theorem Kj:∀(l:List Nat) (i k:Nat),k<64→tb (Bg l) (64*i+k)=tb (l.getD i 0) k
 | [],i,k,hk=>by simp [Bg,ju]
 | x::l,i,k,hk=>by
  have e:Bg (x::l)=Nat.lor (Nat.land x full) (Nat.shiftLeft (Bg l) 64):=rfl
  rw [e,vL,Yc,pM,lu]
  cases i with
  |zero=>simp [hk,show ¬64≤k by omega]
  | succ i=>
   have h1:¬64*(i+1)+k<64:=by omega
   have h2:64≤64*(i+1)+k:=by omega
   rw [show 64*(i+1)+k-64=64*i+k by omega,Kj l i k hk]
   simp [h1,h2]
section
variable (N DD:Nat)
noncomputable def Wl (l:List Nat) (m:Nat):Bool:=List.rec (motive:=fun _=>Nat→Bool) (fun m=>Nat.beq m (Nat.sub (bt N) 1)) (fun i _ ih m=>zb (Nat.blt i N) (zb (tb m i) false (zb (sub? (xR DD i) m) (ih (Nat.lor (bt i) m)) false)) false) l m
end
theorem Yn {N DD:Nat}:∀ {l:List Nat} {m:Nat},Wl N DD l m=true→(∀i∈l,i<N)∧l.Nodup∧(∀i∈l,tb m i=false)∧(∀i,i<N→tb m i=true∨i∈l)∧∀p (h:p<l.length),∀k,k<64→tb DD (64*l[p]+k)=true→tb m k=true∨k∈l.take p
 | [],m,e=>by
  refine⟨by simp, .nil,by simp,fun i hi=> .inl ?_,fun p h=>by simp at h⟩
  have e:=Nat.eq_of_beq_eq_true e
  rw [e,ud]
  show Nat.testBit (1 <<< N-1) i=true
  rw [Nat.one_shiftLeft,Nat.testBit_two_pow_sub_one]
  simp [hi]
 | x :: l,m,e=>by
  have e:zb (Nat.blt x N) (zb (tb m x) false (zb (sub? (xR DD x) m) (Wl N DD l (Nat.lor (bt x) m)) false)) false=true:=e
  simp only [za]at e
  split at e
  ·rename_i h1
   split at e
   ·cases e
   ·rename_i h2
    split at e
    ·rename_i h3
     obtain⟨q1,q2,q3,q4,q5⟩:=Yn e
     have h1:x<N:=by simpa [zI] using h1
     have h2:tb m x=false:=by simpa using h2
     have hx:x∉l:=fun hm=>by
      have:=q3 x hm
      rw [vL,ge]at this; simp at this
     refine⟨?_,List.nodup_cons.2 ⟨hx,q2⟩, ?_, ?_, ?_⟩
     ·intro i hi
      rcases List.mem_cons.1 hi with rfl|hi
      ·exact h1
      ·exact q1 i hi
     ·intro i hi
      rcases List.mem_cons.1 hi with rfl|hi
      ·exact h2
      ·have:=q3 i hi
       rw [vL,Bool.or_eq_false_iff]at this; exact this.2
     ·intro i hi
      rcases q4 i hi with h|h
      ·rw [vL,ge,Bool.or_eq_true,decide_eq_true_eq]at h
       rcases h with rfl|h
       ·exact .inr (by simp)
       ·exact .inl h
      ·exact .inr (List.mem_cons_of_mem _ h)
     ·intro p hp k hk hd
      cases p with
      |zero=>exact .inl (UF h3 (by rw [qJ]; simp only [List.getElem_cons_zero]at hd; simp [hd,hk]))
      | succ p=>
       simp only [List.getElem_cons_succ]at hd
       rcases q5 p (by simpa using hp) k hk hd with h|h
       ·rw [vL,ge,Bool.or_eq_true,decide_eq_true_eq]at h
        rcases h with rfl|h
        ·exact .inr (by simp)
        ·exact .inl h
       ·exact .inr (by simp [h])
    ·cases e
  ·cases e
noncomputable def d7 (BB:Nat) (l:List Edge):Nat:=List.rec (motive:=fun _=>Nat) 0 (fun e _ ih=>bif Region.binds .any e then Nat.lor (Nat.lor (bt e.on) (xR BB e.on)) ih else ih) l
theorem BR (BB:Nat) (l:List Edge) (k:Nat):tb (d7 BB l) k=true→∃on∈(l.filter fun e=>Region.binds .any e).map (·.on),k=on∨(k<64∧tb BB (64*on+k)=true):=by
 induction l with
 |nil=>intro h; simp [d7,ju]at h
 | cons e l ih=>
  have e1:d7 BB (e::l)=bif Region.binds .any e then Nat.lor (Nat.lor (bt e.on) (xR BB e.on)) (d7 BB l)else d7 BB l:=rfl
  rw [e1]
  intro h
  cases hb:Region.binds .any e with
  | true=>
   rw [hb]at h
   simp only [cond_true,vL,ge,qJ,Bool.or_eq_true,decide_eq_true_eq,Bool.and_eq_true]at h
   rcases h with(h|h)|h
   ·exact⟨e.on,by simp [hb], .inl h⟩
   ·exact⟨e.on,by simp [hb], .inr ⟨h.2,h.1⟩⟩
   ·obtain⟨on,h1,h2⟩:=ih h
    exact⟨on,by simp only [List.filter_cons,hb,if_true,List.map_cons,List.mem_cons]; exact .inr h1,h2⟩
  | false=>
   rw [hb]at h
   obtain⟨on,h1,h2⟩:=ih h
   exact⟨on,by simp only [List.filter_cons,hb,Bool.false_eq_true,if_false]; exact h1,h2⟩
noncomputable def JH (BB:Nat) (l:List Oper) (j:Nat):Bool:=List.rec (motive:=fun _=>Nat→Bool) (fun _=>true) (fun o _ ih j=>zb (sub? (xR BB j) (d7 BB o.after.toList)) (ih (Nat.succ j)) false) l j
theorem Y4 {BB:Nat}:∀ {l:List Oper} {j:Nat},JH BB l j=true→∀(i:Nat) o,l[i]? =some o→∀k,k<64→tb BB (64*(j+i)+k)=true→∃on∈(o.after.toList.filter fun e=>Region.binds .any e).map (·.on),k=on∨(k<64∧tb BB (64*on+k)=true)
 | [],j,e,i,o,ho,k,hk,h=>by simp at ho
 | x ::l,j,e,i,o,ho,k,hk,h=>by
  have e:zb (sub? (xR BB j) (d7 BB x.after.toList)) (JH BB l (Nat.succ j)) false=true:=e
  rw [za]at e
  split at e
  ·rename_i h1
   cases i with
   | zero=>
    simp only [List.getElem?_cons_zero,Option.some.injEq]at ho
    subst ho
    exact BR BB _ k (UF h1 (by rw [qJ]; simp only [Nat.add_zero]at h; simp [h,hk]))
   | succ i=>
    refine Y4 e i o (by simpa using ho) k hk ?_
    rw [show Nat.succ j+i=j+(i+1)by omega]; exact h
  ·cases e
noncomputable def QQ (n:Nat) (l:List OI) (m:Nat):Bool:=List.rec (motive:=fun _=>Nat→Bool) (fun _=>true) (fun x _ ih m=>Option.rec (motive:=fun _=>Bool) (ih m) (fun d=>zb (Nat.blt d n) (zb (tb m d) false (ih (Nat.lor (bt d) m))) false) x.dst) l m
theorem p8 {n:Nat}:∀ {l:List OI} {m:Nat},QQ n l m=true→(∀(i:Nat) (x:OI) d,l[i]? =some x→x.dst=some d→d<n∧tb m d=false)∧∀(i j:Nat) (x y:OI) d,l[i]? =some x→l[j]? =some y→x.dst=some d→y.dst=some d→i=j
 | [],m,e=>⟨fun i x d h=>by simp at h,fun i j x y d h=>by simp at h⟩
 | z :: l,m,e=>by
  have e:Option.rec (motive:=fun _=>Bool) (QQ n l m) (fun d=>zb (Nat.blt d n) (zb (tb m d) false (QQ n l (Nat.lor (bt d) m))) false) z.dst=true:=e
  cases hz:z.dst with
  | none=>
   rw [hz]at e
   obtain⟨q1,q2⟩:=p8 e
   refine⟨fun i x d h hd=> ?_,fun i j x y d h1 h2 d1 d2=> ?_⟩
   ·cases i with
    |zero=>simp at h; subst h; rw [hz]at hd; cases hd
    |succ i=>exact q1 i x d (by simpa using h) hd
   ·cases i with
    |zero=>simp at h1; subst h1; rw [hz]at d1; cases d1
    | succ i=>cases j with
     |zero=>simp at h2; subst h2; rw [hz]at d2; cases d2
     |succ j=>rw [q2 i j x y d (by simpa using h1) (by simpa using h2) d1 d2]
  | some dz=>
   rw [hz]at e
   simp only [za]at e
   split at e
   ·rename_i hlt
    split at e
    ·cases e
    ·rename_i hm
     obtain⟨q1,q2⟩:=p8 e
     have q1':∀(i:Nat) (x:OI) d,l[i]? =some x→x.dst=some d→d<n∧tb m d=false∧d≠dz:=fun i x d h hd=>by
      obtain⟨a,b⟩:=q1 i x d h hd
      rw [vL,ge,Bool.or_eq_false_iff]at b
      exact⟨a,b.2,by simpa using b.1⟩
     refine⟨fun i x d h hd=> ?_,fun i j x y d h1 h2 d1 d2=> ?_⟩
     ·cases i with
      |zero=>simp at h; subst h; rw [hz]at hd; cases hd; exact⟨by simpa [zI] using hlt,by simpa using hm⟩
      |succ i=>have:=q1' i x d (by simpa using h) hd; exact⟨this.1,this.2.1⟩
     ·cases i with
      | zero=>cases j with
       |zero=>rfl
       |succ j=>simp at h1; subst h1; rw [hz]at d1; cases d1; exact absurd rfl (q1' j y _ (by simpa using h2) d2).2.2
      | succ i=>cases j with
       |zero=>simp at h2; subst h2; rw [hz]at d2; cases d2; exact absurd rfl (q1' i x _ (by simpa using h1) d1).2.2
       |succ j=>rw [q2 i j x y d (by simpa using h1) (by simpa using h2) d1 d2]
   ·cases e
noncomputable def Xf {α:Type} (f:Nat→α→Bool) (l:List α) (j:Nat):Bool:=List.rec (motive:=fun _=>Nat→Bool) (fun _=>true) (fun x _ ih j=>zb (f j x) (ih (Nat.succ j)) false) l j
theorem qM {α:Type} {f:Nat→α→Bool}:∀ {l:List α} {j:Nat},Xf f l j=true→∀(i:Nat) x,l[i]? =some x→f (j+i) x=true
 | [],j,e,i,x,h=>by simp at h
 | y ::l,j,e,i,x,h=>by
  have e:zb (f j y) (Xf f l (Nat.succ j)) false=true:=e
  rw [za]at e
  split at e
  ·rename_i h1
   cases i with
   |zero=>simp at h; subst h; exact h1
   | succ i=>
    have:=qM e i x (by simpa using h)
    rw [show Nat.succ j+i=j+(i+1)by omega]at this; exact this
  ·cases e
noncomputable def Do (EM BB i r k:Nat) (d:Nat):Bool:=zb (tb r d) (zb (tb BB (Nat.add (Nat.mul 64 i) k)) true (zb (tb EM k) (zb (Nat.beq k i) true (tb BB (Nat.add (Nat.mul 64 k) i))) false)) true
noncomputable def Q9 (EM BB:Nat) (info:List OI):Bool:=Xf (fun i x=>Xf (fun k y=>Option.rec (motive:=fun _=>Bool) true (fun d=>Do EM BB i x.r k d) y.dst) info 0) info 0
theorem Jx {EM BB:Nat} {info:List OI} (e:Q9 EM BB info=true) {i k d:Nat} {x y:OI} (hx:info[i]? =some x) (hy:info[k]? =some y) (hd:y.dst=some d) (hr:tb x.r d=true):tb BB (64*i+k)=true∨(tb EM k=true∧(k=i∨tb BB (64*k+i)=true)):=by
 have:=qM (qM e i x hx) k y hy
 simp only [Nat.zero_add,hd,Do,za,hr,if_true]at this
 split at this
 ·rename_i h; exact .inl h
 ·split at this
  ·rename_i h
   right
   refine⟨h, ?_⟩
   split at this
   ·rename_i h2; exact .inl (Nat.eq_of_beq_eq_true h2)
   ·exact .inr this
  ·cases this
noncomputable def PB (LM BB:Nat) (l:List Nat):Nat:=List.rec (motive:=fun _=>Nat) full (fun x _ ih=>zb (tb LM x) ih (Nat.land (xR BB x) ih)) l
theorem Wr {LM BB:Nat}:∀ {l:List Nat} {y:Nat},tb (PB LM BB l) y=true→y<64∧∀j∈l,tb LM j=false→tb BB (64*j+y)=true
 | [],y,h=>by
  have h:tb full y=true:=h
  rw [pM]at h
  exact⟨by simpa using h,by simp⟩
 | x::l,y,h=>by
  have h:tb (zb (tb LM x) (PB LM BB l) (Nat.land (xR BB x) (PB LM BB l))) y=true:=h
  rw [za]at h
  split at h
  ·rename_i hx
   obtain⟨q1,q2⟩:=Wr h
   refine⟨q1,fun j hj hL=> ?_⟩
   rcases List.mem_cons.1 hj with rfl|hj
   ·rw [hx]at hL; cases hL
   ·exact q2 j hj hL
  ·rw [Yc,Bool.and_eq_true,qJ,Bool.and_eq_true]at h
   obtain⟨q1,q2⟩:=Wr h.2
   refine⟨q1,fun j hj hL=> ?_⟩
   rcases List.mem_cons.1 hj with rfl|hj
   ·exact h.1.1
   ·exact q2 j hj hL
noncomputable def gE (EM LM BB:Nat) (l:List Nat):Bool:=List.rec (motive:=fun _=>Bool) true (fun x r ih=>zb (zb (tb EM x) true (tb LM x)) (zb (tb (PB LM BB r) x) ih false) ih) l
theorem Za {EM LM BB:Nat}:∀ {l:List Nat},gE EM LM BB l=true→∀p (h:p<l.length),(tb EM l[p]=true∨tb LM l[p]=true)→∀j∈l.drop (p+1),tb LM j=false→l[p]<64∧tb BB (64*j+l[p])=true
 | [],e,p,h=>by simp at h
 | x ::l,e,p,h=>by
  have e:zb (zb (tb EM x) true (tb LM x)) (zb (tb (PB LM BB l) x) (gE EM LM BB l) false) (gE EM LM BB l)=true:=e
  intro hE j hj hL
  cases p with
  | zero=>
   simp only [List.getElem_cons_zero]at hE ⊢
   simp only [Nat.zero_add,List.drop_succ_cons,List.drop_zero]at hj
   simp only [za]at e
   rw [if_pos (by
    split
    ·rfl
    ·rename_i hn; exact hE.resolve_left hn)]at e
   split at e
   ·rename_i ha
    obtain⟨q1,q2⟩:=Wr ha
    exact⟨q1,q2 j hj hL⟩
   ·cases e
  | succ p=>
   have e2:gE EM LM BB l=true:=by
    revert e
    simp only [za]
    repeat' split
    all_goals (intro e; first|exact e|(exact absurd e (by simp)))
   simp only [List.getElem_cons_succ]at hE ⊢
   exact Za e2 p (by simpa using h) hE j (by simpa using hj) hL
noncomputable def bL (LM:Nat) (l:List OI) (j:Nat):Nat:=List.rec (motive:=fun _=>Nat→Nat) (fun _=>0) (fun x _ ih j=>Option.rec (motive:=fun _=>Nat) (ih (Nat.succ j)) (fun d=>zb (tb LM j) (Nat.lor (bt d) (ih (Nat.succ j))) (ih (Nat.succ j))) x.dst) l j
theorem YG {LM:Nat}:∀ {l:List OI} {j i d:Nat} {x:OI},l[i]? =some x→x.dst=some d→tb LM (j+i)=true→tb (bL LM l j) d=true
 | [],j,i,d,x,h,_,_=>by simp at h
 | y ::l,j,i,d,x,h,hd,hL=>by
  have e:bL LM (y::l) j=Option.rec (motive:=fun _=>Nat) (bL LM l (Nat.succ j)) (fun d=>zb (tb LM j) (Nat.lor (bt d) (bL LM l (Nat.succ j))) (bL LM l (Nat.succ j))) y.dst:=rfl
  rw [e]
  cases i with
  | zero=>
   simp at h; subst h
   rw [hd]
   simp only [Nat.add_zero]at hL
   simp only [za,hL,if_true,vL,ge,decide_true,Bool.true_or]
  | succ i=>
   have ih:=YG (LM:=LM) (l:=l) (j:=Nat.succ j) (i:=i) (by simpa using h) hd (by rw [show Nat.succ j+i=j+(i+1)by omega]; exact hL)
   cases y.dst with
   |none=>exact ih
   | some d'=>
    simp only [za]
    split
    ·rw [vL,ih,Bool.or_true]
    ·exact ih
noncomputable def nu (EM LM:Nat) (info:List OI):Bool:=Xf (fun i x=>zb (tb LM i) (zb (tb EM i) false (zb x.al (Nat.beq (Nat.land x.r (bL LM info 0)) 0) false)) true) info 0
noncomputable def ldm (l:List OI):List Nat:=List.rec (motive:=fun _=>List Nat) [] (fun x _ ih=>x.d::ih) l
theorem Gv:∀l:List OI,ldm l=l.map (·.d)
 | []=>rfl
 | x::l=>by
  have:ldm (x::l)=x.d::ldm l:=rfl
  rw [this,Gv l]; rfl
noncomputable def JG (ops:Array Oper) (n:Nat) (info:List OI) (order:List Nat) (EM LM BB:Nat):Bool:=
 zb (Nat.ble ops.size 64) (zb (Xf (fun _ x=>sub? x.d full) info 0) (zb (Wl ops.size (Bg (ldm info)) order 0) (zb (JH BB ops.toList 0) (zb (QQ n info 0) (zb (Q9 EM BB info) (zb (gE EM LM BB order) (nu EM LM info) false) false) false) false) false) false) false
def qE (M N:Nat):List Nat:=(List.range N).filter fun k=>tb M k
theorem wl {M N k:Nat}:k∈qE M N↔k<N∧tb M k=true:=by simp [qE]
def WF (BB N:Nat):List (List Nat):=(List.range N).map fun j=>(List.range N).filter fun k=>tb BB (64*j+k)
theorem u2 {BB N j k:Nat}:k∈(WF BB N).getD j []↔j<N∧k<N∧tb BB (64*j+k)=true:=by
 unfold WF
 by_cases hj:j<N
 ·simp [hj]
 ·simp [hj,Nat.le_of_not_lt hj]
theorem jH {a b:Bool} (h:zb a b false=true):a=true∧b=true:=by cases a<;>cases b<;>simp_all [zb]
theorem KX {T:TypeId→TI} {ops:Array Oper} {n:Nat} {order:List Nat} {EM LM BB:Nat} (e:JG ops n (ops.toList.map (vV T ops)) order EM LM BB=true):
  uU ops n order (qE EM ops.size) (qE LM ops.size) (WF BB ops.size)∧ops.size≤64:=by
 unfold JG at e
 obtain⟨hN,e⟩:=jH e
 obtain⟨h0,e⟩:=jH e
 obtain⟨h1,e⟩:=jH e
 obtain⟨h2,e⟩:=jH e
 obtain⟨h3,e⟩:=jH e
 obtain⟨h4,e⟩:=jH e
 obtain⟨h5,h6⟩:=jH e
 have hN:ops.size≤64:=Nat.le_of_ble_eq_true hN
 have get:∀ {i:Nat} {o:Oper},ops[i]? =some o→(ops.toList.map (vV T ops))[i]? =some (vV T ops o):=fun {i o} h=>by rw [List.getElem?_map,Array.getElem?_toList,h]; rfl
 have getl:∀ {i:Nat},i<ops.size→ops[i]? =some ops[i]! :=fun {i} h=>by simp [h]
 rw [Gv]at h1
 obtain⟨a1,a2,_,a4,a5⟩:=Yn h1
 obtain⟨b1,b2⟩:=p8 h3
 have dsto:∀ {i d:Nat},zk ops i=some d→∃o,ops[i]? =some o∧o.dst=some d:=fun {i d} h=>by
  unfold zk at h
  exact Option.bind_eq_some_iff.1 h
 have dpd:∀ {i k:Nat},i<ops.size→k<64→(tb (Bg ((ops.toList.map (vV T ops)).map (·.d))) (64*i+k)=true↔k∈dp ops i):=fun {i k} hi hk=>by
  rw [Kj _ _ _ hk,←Qv (T:=T) (getl hi)]
  have:((ops.toList.map (vV T ops)).map (·.d)).getD i 0=(vV T ops ops[i]!).d:=by
   rw [List.getD_eq_getElem?_getD,List.getElem?_map,get (getl hi)]; rfl
  rw [this]
 have hall:∀i,i<ops.size→i∈order:=fun i hi=>(a4 i hi).resolve_left (by rw [ju]; simp)
 have d64:∀ {i k:Nat},i<ops.size→k∈dp ops i→k<64:=fun {i k} hi hk=>by
  have h:=(Qv (T:=T) (getl hi) k).2 hk
  have:=UF (qM h0 i _ (get (getl hi))) h
  rw [pM]at this; simpa using this
 have topo:∀p (h:p<order.length),∀k∈dp ops order[p],k∈order.take p:=fun p h k hk=>by
  have hi:=a1 _ (List.getElem_mem h)
  have h64:=d64 hi hk
  exact(a5 p h k h64 ((dpd hi h64).2 hk)).resolve_left (by rw [ju]; simp)
 have dplt:∀ {i k:Nat},i<ops.size→k∈dp ops i→k<ops.size:=fun {i k} hi hk=>by
  obtain⟨p,hp,he⟩:=List.getElem_of_mem (hall i hi)
  exact a1 k (List.mem_of_mem_take (topo p hp k (by rw [he]; exact hk)))
 have len:order.length=ops.size:=by
  have p1:order.Perm (List.range ops.size):=(List.perm_ext_iff_of_nodup a2 List.nodup_range).2 fun x=>⟨fun h=>List.mem_range.2 (a1 x h),fun h=>hall x (List.mem_range.1 h)⟩
  rw [p1.length_eq,List.length_range]
 refine⟨{nodup:=a2,len:=len,all:=hall,lt:=a1,topo:=topo,clos:= ?_,dlt:= ?_,uniq:= ?_,reads:= ?_,waits:= ?_,late:= ?_},hN⟩
 ·intro j hj i hi
  obtain⟨_,hi1,hi2⟩:=u2.1 hi
  have hl:ops.toList[j]? =some ops[j]! :=by rw [Array.getElem?_toList]; exact getl hj
  obtain⟨on,ho,h⟩:=Y4 h2 j _ hl i (by omega) (by rw [Nat.zero_add]; exact hi2)
  have ho':on∈dp ops j:=by unfold dp; rw [getl hj]; exact ho
  rcases h with rfl|h
  ·exact .inl ho'
  ·exact .inr ⟨on,ho',u2.2 ⟨dplt hj ho',hi1,h.2⟩⟩
 ·intro i hi d hd
  obtain⟨o,ho,hod⟩:=dsto hd
  exact(b1 i _ d (get ho) hod).1
 ·intro i j hi hj hne d hd hd'
  obtain⟨o,ho,hod⟩:=dsto hd
  obtain⟨o',ho',hod'⟩:=dsto hd'
  exact hne (b2 i j _ _ d (get ho) (get ho') hod hod')
 ·intro i hi t ht k hk hd
  obtain⟨o,ho,hod⟩:=dsto hd
  rcases Jx h4 (get (getl hi)) (get ho) hod ((J1 (T:=T) (getl hi) t).2 ht)with h|⟨h,h'⟩
  ·exact .inl (u2.2 ⟨hi,hk,h⟩)
  ·refine .inr ⟨wl.2 ⟨hk,h⟩,h'.imp id fun h'=>u2.2 ⟨hk,hi,h'⟩⟩
 ·intro p h hE j hj hjL
  have hjm:j<ops.size:=a1 j (List.mem_of_mem_drop hj)
  have hp:=a1 _ (List.getElem_mem h)
  have hw:=Za h5 p h (hE.imp (fun x=>(wl.1 x).2) fun x=>(wl.1 x).2) j hj (by
   cases hL:tb LM j with
   |false=>rfl
   |true=>exact absurd (wl.2 ⟨hjm,hL⟩) hjL)
  exact u2.2 ⟨hjm,hp,hw.2⟩
 ·intro i hiL hi
  have hL:=(wl.1 hiL).2
  have:=qM h6 i _ (get (getl hi))
  simp only [Nat.zero_add,za,hL,if_true]at this
  split at this
  ·cases this
  ·rename_i hE
   split at this
   ·rename_i hal
    have hz:=Nat.eq_of_beq_eq_true this
    refine⟨fun h=>hE (wl.1 h).2,fun o ho=> ?_,fun t ht k hk hd=> ?_⟩
    ·have:o=ops[i]! :=by rw [getl hi]at ho; exact(Option.some.inj ho).symm
     subst this
     have hal:(Zi ops[i]!.op&&ops[i]!.guard.isNone)=true:=hal
     rw [Bool.and_eq_true,Option.isNone_iff_eq_none]at hal
     exact hal.2
    ·obtain⟨o,ho,hod⟩:=dsto hd
     have h1:=YG (LM:=LM) (j:=0) (get ho) hod (by rw [Nat.zero_add]; exact(wl.1 hk).2)
     have h2:=(J1 (T:=T) (getl hi) t).2 ht
     have:tb (Nat.land (vV T ops ops[i]!).r (bL LM (ops.toList.map (vV T ops)) 0)) t=true:=by rw [Yc,h1,h2]; rfl
     rw [hz,ju]at this; cases this
   ·cases this
theorem KU {EM LM N j:Nat} (hj:j<N):(qE EM N++qE LM N).contains j=tb (Nat.lor EM LM) j:=by
 rw [vL,Bool.eq_iff_iff]
 simp only [List.contains_iff_mem,List.mem_append,wl,Bool.or_eq_true,hj,true_and]
theorem vn {M N j:Nat} (hj:j<N):(qE M N).contains j=tb M j:=by
 rw [Bool.eq_iff_iff]
 simp only [List.contains_iff_mem,wl,hj,true_and]
theorem Ge {BB N i j:Nat} (hi:i<N) (hj:j<N):((WF BB N).getD i []).contains j=tb BB (64*i+j):=by
 rw [Bool.eq_iff_iff]
 simp only [List.contains_iff_mem,u2,hi,hj,true_and]
noncomputable def kU (T:TypeId→TI) (ops:Array Oper) (l:List Oper):List OI:=List.rec (motive:=fun _=>List OI) [] (fun o _ ih=>vV T ops o::ih) l
theorem W5 (T:TypeId→TI) (ops:Array Oper):∀l,kU T ops l=l.map (vV T ops)
 | []=>rfl
 | o::l=>by
  have:kU T ops (o::l)=vV T ops o::kU T ops l:=rfl
  rw [this,W5 T ops l]; rfl
noncomputable def pBB (l:List Oper) (j BB:Nat):Nat:=List.rec (motive:=fun _=>Nat→Nat→Nat) (fun _ BB=>BB) (fun o _ ih j BB=>nfc (Nat.lor BB (Nat.shiftLeft (d7 BB o.after.toList) (Nat.mul 64 j))) fun BB=>ih (Nat.succ j) BB) l j BB
noncomputable def P2 (l:List OI) (k i r row acc:Nat):Nat:=List.rec (motive:=fun _=>Nat→Nat→Nat→Nat→Nat→Nat) (fun _ _ _ _ acc=>acc) (fun y _ ih k i r row acc=>Option.rec (motive:=fun _=>Nat) (ih (Nat.succ k) i r row acc) (fun d=>zb (tb r d) (zb (Nat.beq k i) (ih (Nat.succ k) i r row (Nat.lor (bt k) acc)) (zb (tb row k) (ih (Nat.succ k) i r row acc) (ih (Nat.succ k) i r row (Nat.lor (bt k) acc)))) (ih (Nat.succ k) i r row acc)) y.dst) l k i r row acc
noncomputable def mL (info:List OI) (l:List OI) (i BB acc:Nat):Nat:=List.rec (motive:=fun _=>Nat→Nat→Nat→Nat) (fun _ _ acc=>acc) (fun x _ ih i BB acc=>zb (Nat.beq x.r 0) (ih (Nat.succ i) BB acc) (nfc (P2 info 0 i x.r (xR BB i) acc) fun acc=>ih (Nat.succ i) BB acc)) l i BB acc
noncomputable def n8 (l:List OI) (i acc:Nat):Nat:=List.rec (motive:=fun _=>Nat→Nat→Nat) (fun _ acc=>acc) (fun x _ ih i acc=>zb x.still (ih (Nat.succ i) acc) (ih (Nat.succ i) (Nat.lor (bt i) acc))) l i acc
noncomputable def s6 (l:List OI) (j BB i acc:Nat):Nat:=List.rec (motive:=fun _=>Nat→Nat→Nat→Nat→Nat) (fun _ _ _ acc=>acc) (fun _ _ ih j BB i acc=>zb (tb BB (Nat.add (Nat.mul 64 j) i)) (ih (Nat.succ j) BB i (Nat.lor (bt j) acc)) (ih (Nat.succ j) BB i acc)) l j BB i acc
noncomputable def sG (info:List OI) (l:List OI) (i BB TM acc:Nat):Nat:=List.rec (motive:=fun _=>Nat→Nat→Nat→Nat→Nat) (fun _ _ _ acc=>acc) (fun x _ ih i BB TM acc=>zb (zb x.al (tb TM i) false) (zb (sub? TM (Nat.lor (bt i) (Nat.lor (xR BB i) (s6 info 0 BB i 0)))) (ih (Nat.succ i) BB TM acc) (ih (Nat.succ i) BB TM (Nat.lor (bt i) acc))) (ih (Nat.succ i) BB TM acc)) l i BB TM acc
noncomputable def eZ (l:List OI) (i C m:Nat) (K:Nat→Nat→List Nat) (F:List Nat):List Nat:=List.rec (motive:=fun _=>Nat→Nat→Nat→(Nat→Nat→List Nat)→List Nat→List Nat) (fun _ _ _ _ F=>F) (fun x _ ih i C m K F=>zb (zb (tb C i) (zb (tb m i) false (sub? x.d m)) false) (K i (Nat.lor (bt i) m)) (ih (Nat.succ i) C m K F)) l i C m K F
noncomputable def lE (l:List OI) (j EM BB i:Nat):Nat:=List.rec (motive:=fun _=>Nat→Nat→Nat→Nat→Nat) (fun _ _ _ _=>1000) (fun _ _ ih j EM BB i=>zb (zb (tb EM j) (tb BB (Nat.add (Nat.mul 64 j) i)) false) j (ih (Nat.succ j) EM BB i)) l j EM BB i
noncomputable def lS (info:List OI) (l:List OI) (i EM LM BB m best bf:Nat) (K:Nat→Nat→List Nat):List Nat:=List.rec (motive:=fun _=>Nat→Nat→Nat→Nat→Nat→Nat→Nat→(Nat→Nat→List Nat)→List Nat) (fun _ _ _ _ m best _ K=>zb (Nat.beq best 1000) [] (K best (Nat.lor (bt best) m)))
 (fun x _ ih i EM LM BB m best bf K=>zb (zb (tb LM i) (zb (tb m i) false (sub? x.d m)) false) (nfc (lE info 0 EM BB i) fun f=>zb (zb (Nat.beq best 1000) true (Nat.blt f bf)) (ih (Nat.succ i) EM LM BB m i f K) (ih (Nat.succ i) EM LM BB m best bf K)) (ih (Nat.succ i) EM LM BB m best bf K)) l i EM LM BB m best bf K
noncomputable def lG (info:List OI) (n SM EM LM BB m:Nat):List Nat:=Nat.rec (motive:=fun _=>Nat→Nat→Nat→Nat→Nat→List Nat) (fun _ _ _ _ _=> []) (fun _ ih SM EM LM BB m=>eZ info 0 SM m (fun i m=>nfc i fun i=>nfc m fun m=>i::ih SM EM LM BB m) (eZ info 0 EM m (fun i m=>nfc i fun i=>nfc m fun m=>i::ih SM EM LM BB m) (lS info info 0 EM LM BB m 1000 1000 fun i m=>nfc i fun i=>nfc m fun m=>i::ih SM EM LM BB m))) n SM EM LM BB m
noncomputable def lfc {R:Type} (l:List Nat) (K:List Nat→R):R:=List.rec (motive:=fun _=>(List Nat→R)→R) (fun K=>K []) (fun x _ ih K=>nfc x fun x=>ih fun l=>K (x::l)) l K
theorem bz {R:Type}:∀(l:List Nat) (K:List Nat→R),lfc l K=K l
 | [],K=>rfl
 | x::l,K=>by
  have:lfc (x::l) K=nfc x fun x=>lfc l fun l=>K (x::l):=rfl
  rw [this,zi,bz l]
section
variable {R:Type}
noncomputable def Q7 (T:TypeId→TI) (ops:Array Oper) (n:Nat) (K:List Nat→Nat→Nat→Nat→R) (F:R):R:=
 nfc (pBB ops.toList 0 0) fun BB=>
 nfc (mL (kU T ops ops.toList) (kU T ops ops.toList) 0 BB (n8 (kU T ops ops.toList) 0 0)) fun TM=>
 nfc (sG (kU T ops ops.toList) (kU T ops ops.toList) 0 BB TM 0) fun LM=>
 nfc (Nat.sub TM LM) fun EM=>
 lfc (lG (kU T ops ops.toList) ops.size (Nat.sub full (Nat.land TM full)) EM LM BB 0) fun order=>
 zb (JG ops n (kU T ops ops.toList) order EM LM BB) (K order EM LM BB) F
theorem Dm (T:TypeId→TI) (ops:Array Oper) (n:Nat) (K:List Nat→Nat→Nat→Nat→R) (F:R):Q7 T ops n K F=F∨∃order EM LM BB,(uU ops n order (qE EM ops.size) (qE LM ops.size) (WF BB ops.size)∧ops.size≤64)∧Q7 T ops n K F=K order EM LM BB:=by
 unfold Q7
 simp only [zi,bz,za,W5]
 split
 ·rename_i h
  exact .inr ⟨_,_,_,_,KX h,rfl⟩
 ·exact .inl rfl
end
end Go.K
end
