/- ValidateStatus' runs, carried out by the kernel. Conditions: none beyond each statement's own. -/
import Derived.Test.YtkabooclnoiclaaGreatDoorLawS1
set_option linter.unusedVariables false
set_option linter.unusedSimpArgs false
set_option linter.unnecessarySimpa false
section
namespace Go.K
open Go Go.Abs Go.Proofs
noncomputable def D0 (n m:Int) (s:Bool) (S2:Sl→List KD→KH→QKE→QR) (K:QKE):QR:=Uf XA 20 137 2 (ut 6) S2 (k9 [.int .i64 n, .int .i64 m, .bool s] 0 .none) [] hE0 K
noncomputable def vsL (n m:Int) (s:Bool) (a b:Int):Sl:=xk (xk (xk (xk (xk (xk (xk (xk (xk (xk (xk (k9 [.int .i64 n, .int .i64 m, .bool s] 0 .none) 6 (.bool false)) 20 (.int .i64 n)) 21 (.sl 1000 0 1 (some 1) 1)) 22 (.ptr 1001 0)) 23 (.int .i64 a)) 24 (.int .i64 m)) 25 (.sl 1002 0 1 (some 1) 1)) 26 (.ptr 1003 0)) 27 (.int .i64 b)) 7 (.int .i64 a)) 8 (.int .i64 b)
noncomputable def vsH (n m:Int):KH:=Q0 m (Q0 n hE0)
theorem rx (n m:Int) (s:Bool) (S2:Sl→List KD→KH→QKE→QR) (K:QKE):D0 n m s S2 K=S2 (vsL n m s (nx n 4) (nx m 4)) [] (vsH n m) K:=by kernel_rfl
noncomputable def Zz:Sl→List KD→KH→QKE→QR:=u7 XVs (qgo XVs 300) true 137 (BN 2 (ut 6))
noncomputable def Vg (n m:Int) (s:Bool) (a:Int):Bool:=PU 4 fun b=>yes (Zz (vsL n m s a (Int.ofNat b)) [] (vsH n m) (Ji 6))
theorem rH (n m:Int):Vg n m true 0=true:=by kernel_rfl
theorem sv (n m:Int):Vg n m true 1=true:=by kernel_rfl
theorem oT (n m:Int):Vg n m true 2=true:=by kernel_rfl
theorem sC (n m:Int):Vg n m true 3=true:=by kernel_rfl
theorem ol (n m:Int):Vg n m false 0=true:=by kernel_rfl
theorem rv (n m:Int):Vg n m false 1=true:=by kernel_rfl
theorem nT (n m:Int):Vg n m false 2=true:=by kernel_rfl
theorem r8 (n m:Int):Vg n m false 3=true:=by kernel_rfl
theorem md (n m:Int) (s:Bool) (a b:Int) (a0:0≤a) (a1:a<4) (b0:0≤b) (b1:b<4):yes (Zz (vsL n m s a b) [] (vsH n m) (Ji 6))=true:=by
 obtain⟨k,rfl⟩:=Int.eq_ofNat_of_zero_le a0
 obtain⟨j,rfl⟩:=Int.eq_ofNat_of_zero_le b0
 have hj:j<4:=by omega
 have:k=0∨k=1∨k=2∨k=3:=by omega
 cases s
 ·rcases this with rfl|rfl|rfl|rfl
  ·exact zZ (ol n m) j hj
  ·exact zZ (rv n m) j hj
  ·exact zZ (nT n m) j hj
  ·exact zZ (r8 n m) j hj
 ·rcases this with rfl|rfl|rfl|rfl
  ·exact zZ (rH n m) j hj
  ·exact zZ (sv n m) j hj
  ·exact zZ (oT n m) j hj
  ·exact zZ (sC n m) j hj
end Go.K
end
