/- For each Go function: if its typed Lean form gives some result, the call returns that result (printed by a program of this hand). Condition: the typed form gives some result. -/
import Derived.Test.YtbggpcnbbhjiaaaGreatDoorW1
set_option linter.unusedVariables false
set_option linter.unusedSimpArgs false
set_option linter.unnecessarySimpa false
section
set_option maxRecDepth 100000
set_option maxHeartbeats 0
namespace Go.Abs
open Go Go.Proofs
variable {mx:Int}
def uD (n:Nat) (a0:(List UInt8)) (a1:(List UInt8)):Option ((List UInt8)×(List UInt8)×Bool):=
 (WX n a0 a1).bind fun r1=>
 if(decide (r1≥0))=true then((ssl a0 0 r1).bind fun x2=>
 (ssl a0 (IntKind.wrap .i64 (r1+(List.length a1:Int))) (List.length a0)).bind fun x3=>
 some (x2,x3,true))else(some (a0,([]:List UInt8),false))
theorem bG {n:Nat} {a0:(List UInt8)} {a1:(List UInt8)} {r:((List UInt8)×(List UInt8)×Bool)} (h:uD n a0 a1=some r):AC mx 274 [qs a0,qs a1] [] (.tuple [qs r.1,qs r.2.1,qb r.2.2]) []:=by
 delta uD at h
 exact fnc Tryz.func274 rfl<|za<|rs [] [(0,qs a0),(1,qs a1)] (kE ⟨[],0,[],0⟩)<|za<|za<|bE h fun r1 hr1 h=>rs [] [(0,qs a0),(1,qs a1),(7,qi r1)] (kC 2 ⟨[],0,[],0⟩ (JJ hr1)<|kE ⟨[],0,[],0⟩)<|za<|rs [] [(0,qs a0),(1,qs a1),(7,qi r1),(12,qb (decide (r1≥0)))] (kE ⟨[],0,[],0⟩)<|bF h (fun h=>za<|bE h fun x2 hx2 h=>bE h fun x3 hx3 h=>zs [0,1,2,3,4,5,6,7,8,9,10,11] [] [[],[],[0,1],[],[],[],[5],[4,5,6],[3,4,5,6,7],[0,1,2],[0,1,2,3,4,5,6,7,8,9],[0,1,2,3,4,5,6,7,8,9,10]] [] [(4,qs x2),(5,qs x3),(6,qb true)] (dS [0,1]<|dP (vn (k:= .i64) hx2)<|dS [3,4,5,6,7]<|dP (vH (k:= .i64) hx3)<|dS [9,10,11]<|dE ⟨[],0,[],0⟩)<|zk<|by cases h; exact rt ⟨[],0,[],0⟩) fun h=>zi<|za<|rs [] [(4,qs a0),(5,qs ([]:List UInt8)),(6,qb false)] (kE ⟨[],0,[],0⟩)<|zk<|by cases h; exact rt ⟨[],0,[],0⟩
def gZ (n:Nat) (a0:(List UInt8)) (a1:(List UInt8)):Option ((List UInt8)×(List UInt8)×Bool):=
 (uD n a0 a1).bind fun r1=>
 some (r1.1,r1.2.1,r1.2.2)
theorem Wg {n:Nat} {a0:(List UInt8)} {a1:(List UInt8)} {r:((List UInt8)×(List UInt8)×Bool)} (h:gZ n a0 a1=some r):AC mx 253 [qs a0,qs a1] [] (.tuple [qs r.1,qs r.2.1,qb r.2.2]) []:=by
 delta gZ at h
 exact fnc Tryz.func253 rfl<|za<|rs [] [(0,qs a0),(1,qs a1)] (kE ⟨[],0,[],0⟩)<|za<|bE h fun r1 hr1 h=>rs [] [(4,qs r1.1),(5,qs r1.2.1),(6,qb r1.2.2)] (kC 2 ⟨[],0,[],0⟩ (bG hr1)<|kE ⟨[],0,[],0⟩)<|zk<|by cases h; exact rt ⟨[],0,[],0⟩
def jo (n:Nat) (a0:(List UInt8)) (a1:(List UInt8)):Option Bool:=
 (pL n a0 a1).bind fun r1=>
 some (decide (r1≥0))
theorem bc {n:Nat} {a0:(List UInt8)} {a1:(List UInt8)} {r:Bool} (h:jo n a0 a1=some r):AC mx 256 [qs a0,qs a1] [] (qb r) []:=by
 delta jo at h
 exact fnc Tryz.func256 rfl<|za<|rs [] [(0,qs a0),(1,qs a1)] (kE ⟨[],0,[],0⟩)<|za<|bE h fun r1 hr1 h=>rs [] [(4,qb (decide (r1≥0)))] (kC 2 ⟨[],0,[],0⟩ (W4 hr1)<|kE ⟨[],0,[],0⟩)<|zk<|by cases h; exact rt ⟨[],0,[],0⟩
def bo (n:Nat) (a0:Int):Option Bool:=
 (if(decide (a0≥97))=true then(if(decide (a0≤122))=true then(some true)else(if(decide (a0≥65))=true then(some (decide (a0≤90)))else(some false)))else(if(decide (a0≥65))=true then(some (decide (a0≤90)))else(some false))).bind fun y2=>
 some y2
theorem pc {n:Nat} {a0:Int} {r:Bool} (h:bo n a0=some r):AC mx 275 [qu a0] [] (qb r) []:=by
 delta bo at h
 exact fnc Tryz.func275 rfl<|za<|rs [] [(0,qu a0)] (kE ⟨[],0,[],0⟩)<|za<|bE h fun y2 hE h=>reg ⟨17,[(2,qb y2)]⟩ ⟨[],[]⟩ (have h:=hE; gF 3 5 h (fun h=>gF 7 9 h (fun h=>by cases h; exact kE ⟨[],0,[],0⟩) fun h=>gF 10 12 h (fun h=>by cases h; exact kE ⟨[],0,[],0⟩) fun h=>by cases h; exact kE ⟨[],0,[],0⟩) fun h=>gF 10 12 h (fun h=>by cases h; exact kE ⟨[],0,[],0⟩) fun h=>by cases h; exact kE ⟨[],0,[],0⟩)<|zk<|by cases h; exact rt ⟨[],0,[],0⟩
def bQ (n:Nat) (a0:Int):Option Bool:=
 (if(decide (a0≥48))=true then(some (decide (a0≤57)))else(some false)).bind fun y2=>
 some y2
theorem pM {n:Nat} {a0:Int} {r:Bool} (h:bQ n a0=some r):AC mx 276 [qu a0] [] (qb r) []:=by
 delta bQ at h
 exact fnc Tryz.func276 rfl<|za<|rs [] [(0,qu a0)] (kE ⟨[],0,[],0⟩)<|za<|bE h fun y2 hE h=>reg ⟨9,[(2,qb y2)]⟩ ⟨[],[]⟩ (have h:=hE; gF 3 5 h (fun h=>by cases h; exact kE ⟨[],0,[],0⟩) fun h=>by cases h; exact kE ⟨[],0,[],0⟩)<|zk<|by cases h; exact rt ⟨[],0,[],0⟩
def jx (n:Nat) (a0:(List UInt8)):Nat→Int→Option (Ctl Bool Unit)
 |0,_=>none
 | k+1,v114=>
  if(decide (v114<(List.length (s2b a0):Int)))=true then((z6 (s2b a0) v114).bind fun x154=>
  ((bo n x154).bind fun r164=>
  if r164=true then(some true)else((bQ n x154).bind fun r165=>
  if r165=true then(some true)else((Zn n ([33,35,36,37,38,39,42,43,45,47,61,63,94,95,96,123,124,125,126,46]:List UInt8) x154).bind fun r166=>
  some (decide (r166≥0))))).bind fun y162=>
  if(!y162)=true then(some (.ret false))else(jx n a0 k (IntKind.wrap .i64 (v114+1))))else(some (.nxt ()))
def pz (n:Nat) (a0:(List UInt8)):Option Bool:=
 (if(decide ((List.length a0:Int)<1))=true then(some true)else(if(decide ((List.length a0:Int)>64))=true then(some true)else((uE a0 0).bind fun x1=>
 if(x1==46)=true then(some true)else((uE a0 (IntKind.wrap .i64 ((List.length a0:Int)-1))).bind fun x2=>
 if(x2==46)=true then(some true)else((jo n a0 ([46,46]:List UInt8)).bind fun r3=>
 some r3))))).bind fun y5=>
 if y5=true then(some false)else(xJ (jx n a0 n 0) (fun r=>some r) (fun y85=>
 some true))
theorem WJ {n:Nat} {a0:(List UInt8)} {r:Bool} (h:pz n a0=some r):AC mx 254 [qs a0] [] (qb r) []:=by
 delta pz at h
 exact fnc Tryz.func254 rfl<|za<|rs [] [(0,qs a0)] (kE ⟨[],0,[],0⟩)<|za<|za<|bE h fun y5 hE h=>reg ⟨50,[(0,qs a0),(30,qb y5)]⟩ ⟨[],[]⟩ (have h:=hE; gF 4 9 h (fun h=>by cases h; exact kE ⟨[],0,[],0⟩) fun h=>gF 9 14 h (fun h=>by cases h; exact kE ⟨[],0,[],0⟩) fun h=>bE h fun x1 hx1 h=>kP 10 (xB hx1)<|gF 14 19 h (fun h=>by cases h; exact kE ⟨[],0,[],0⟩) fun h=>bE h fun x2 hx2 h=>kP 18 (xB hx2)<|gF 22 27 h (fun h=>by cases h; exact kE ⟨[],0,[],0⟩) fun h=>bE h fun r3 hr3 h=>kC 23 ⟨[],0,[],0⟩ (bc hr3)<|by cases h; exact kE ⟨[],0,[],0⟩)<|bF h (fun h=>za<|rs [] [(2,qb false)] (kE ⟨[],0,[],0⟩)<|zk<|by cases h; exact rt ⟨[],0,[],0⟩) fun h=>zi<|za<|za<|rs [] [(32,ql 1 (cI .u8) (s2b a0)),(33,qi (List.length (s2b a0):Int)),(34,qi 0)] (kS 1 a0<|kP 2 (ya (c:=(cI .u8)) (l:=s2b a0) (e:=5) (sz:=1) (sz':=1) (b:=1) (tok:= .none))<|kE ⟨[],0,[],0⟩)<|blC h (fun _=>⟨50,[]⟩) (fun _=>⟨[],[]⟩) (fun o86 h hr87=>zS (X:=Int) (fun x=>⟨50,[(32,ql 1 (cI .u8) (s2b a0)),(33,qi (List.length (s2b a0):Int)),(34,qi x)]⟩) (fun x=>⟨[],[]⟩) (fun k x=>jx n a0 k x=some o86) (fun _ hx=>by simp [jx]at hx) n 0 h (wk ⟨[],0,[],0⟩) (fun k x h=>by revert h; revert x; intro v114 h; rw [jx]at h; exact za<|rs [32,33,34] [(35,qb (decide (v114<(List.length (s2b a0):Int))))] (kE ⟨[],0,[],0⟩)<|za<|bF h (fun h=>zi<|za<|zB<|za<|bE h fun x154 hx154 h=>rs [32,33,34] [(4,qu x154)] (kP 0 (zx (c:=(cI .u8)) (e:=5) (sz:=1) (b:=1) (tok:= .none) hx154)<|kE ⟨[],0,[],0⟩)<|za<|rs [4,32,33,34] [] (kE ⟨[],0,[],0⟩)<|za<|blE h (fun y162=>⟨50,[(5,qb y162),(32,ql 1 (cI .u8) (s2b a0)),(33,qi (List.length (s2b a0):Int)),(34,qi v114)]⟩) (fun y162=>⟨[],[]⟩) (fun y162 h=>za<|zB<|za<|zB<|zB<|za<|za<|za<|bE h fun r164 hr164 h=>rs [4,32,33,34] [(38,qb r164)] (kC 1 ⟨[],0,[],0⟩ (pc hr164)<|kE ⟨[],0,[],0⟩)<|bF h (fun h=>zJ<|XC<|zC<|za<|rs [32,33,34] [(5,qb true)] (kE ⟨[],0,[],0⟩)<|zJ<|bY (by kernel_rfl)<|zD<|⟨true,sI h,wk ⟨[],0,[],0⟩⟩) fun h=>zi<|za<|bE h fun r165 hr165 h=>rs [4,32,33,34] [(41,qb r165)] (kC 1 ⟨[],0,[],0⟩ (pM hr165)<|kE ⟨[],0,[],0⟩)<|bF h (fun h=>zJ<|bY (by kernel_rfl)<|XC<|za<|rs [32,33,34] [(5,qb true)] (kE ⟨[],0,[],0⟩)<|zJ<|bY (by kernel_rfl)<|zD<|⟨true,sI h,wk ⟨[],0,[],0⟩⟩) fun h=>zi<|zJ<|bY (by kernel_rfl)<|bY (by kernel_rfl)<|XC<|za<|bE h fun r166 hr166 h=>rs [32,33,34] [(5,qb (decide (r166≥0)))] (kC 1 ⟨[],0,[],0⟩ (ZE hr166)<|kE ⟨[],0,[],0⟩)<|zJ<|zD<|⟨decide (r166≥0),sI h,wk ⟨[],0,[],0⟩⟩) fun y162 h=>za<|rs [32,33,34] [(48,qb (!y162))] (kE ⟨[],0,[],0⟩)<|bF h (fun h=>za<|rs [] [(2,qb false)] (kE ⟨[],0,[],0⟩)<|zk<|zU<|ym<|have h:=hr87 _ (sI h); yj<|by cases h; exact rt ⟨[],0,[],0⟩) fun h=>zi<|zC<|rsN zw [32,33] [(34,qi (IntKind.wrap .i64 (v114+1)))] (kE ⟨[],0,[],0⟩)<|⟨IntKind.wrap .i64 (v114+1),h,wk ⟨[],0,[],0⟩⟩) fun h=>zJ<|zF<|zD<|⟨(),sI h,wk ⟨[],0,[],0⟩⟩)) fun y85 h=>za<|rs [] [(2,qb true)] (kE ⟨[],0,[],0⟩)<|zk<|by cases h; exact rt ⟨[],0,[],0⟩
def jC (n:Nat) (a0:(List UInt8)):Nat→Int→Option (Ctl Bool Unit)
 |0,_=>none
 | k+1,v49=>
  if(decide (v49<(List.length (s2b a0):Int)))=true then((z6 (s2b a0) v49).bind fun x65=>
  ((bo n x65).bind fun r66=>
  if(!r66)=true then((bQ n x65).bind fun r67=>
  if(!r67)=true then(some (x65 !=45))else(some false))else(some false)).bind fun y69=>
  if y69=true then(some (.ret false))else(jC n a0 k (IntKind.wrap .i64 (v49+1))))else(some (.nxt ()))
def pp (n:Nat) (a0:(List UInt8)):Option Bool:=
 (if(decide ((List.length a0:Int)<1))=true then(some true)else(if(decide ((List.length a0:Int)>63))=true then(some true)else((uE a0 0).bind fun x1=>
 if(x1==45)=true then(some true)else((uE a0 (IntKind.wrap .i64 ((List.length a0:Int)-1))).bind fun x2=>
 some (x2==45))))).bind fun y4=>
 if y4=true then(some false)else(xJ (jC n a0 n 0) (fun r=>some r) (fun y36=>
 some true))
theorem WB {n:Nat} {a0:(List UInt8)} {r:Bool} (h:pp n a0=some r):AC mx 272 [qs a0] [] (qb r) []:=by
 delta pp at h
 exact fnc Tryz.func272 rfl<|za<|rs [] [(0,qs a0)] (kE ⟨[],0,[],0⟩)<|za<|za<|bE h fun y4 hE h=>reg ⟨46,[(0,qs a0),(25,qb y4)]⟩ ⟨[],[]⟩ (have h:=hE; gF 4 8 h (fun h=>by cases h; exact kE ⟨[],0,[],0⟩) fun h=>gF 9 13 h (fun h=>by cases h; exact kE ⟨[],0,[],0⟩) fun h=>bE h fun x1 hx1 h=>kP 10 (xB hx1)<|gF 14 18 h (fun h=>by cases h; exact kE ⟨[],0,[],0⟩) fun h=>bE h fun x2 hx2 h=>kP 18 (xB hx2)<|by cases h; exact kE ⟨[],0,[],0⟩)<|bF h (fun h=>za<|rs [] [(2,qb false)] (kE ⟨[],0,[],0⟩)<|zk<|by cases h; exact rt ⟨[],0,[],0⟩) fun h=>zi<|za<|za<|rs [] [(27,ql 1 (cI .u8) (s2b a0)),(28,qi (List.length (s2b a0):Int)),(29,qi 0)] (kS 1 a0<|kP 2 (ya (c:=(cI .u8)) (l:=s2b a0) (e:=5) (sz:=1) (sz':=1) (b:=1) (tok:= .none))<|kE ⟨[],0,[],0⟩)<|blC h (fun _=>⟨46,[]⟩) (fun _=>⟨[],[]⟩) (fun o37 h hr38=>zS (X:=Int) (fun x=>⟨46,[(27,ql 1 (cI .u8) (s2b a0)),(28,qi (List.length (s2b a0):Int)),(29,qi x)]⟩) (fun x=>⟨[],[]⟩) (fun k x=>jC n a0 k x=some o37) (fun _ hx=>by simp [jC]at hx) n 0 h (wk ⟨[],0,[],0⟩) (fun k x h=>by revert h; revert x; intro v49 h; rw [jC]at h; exact za<|rs [27,28] [(29,qi v49),(30,qb (decide (v49<(List.length (s2b a0):Int))))] (kE ⟨[],0,[],0⟩)<|za<|bF h (fun h=>zi<|za<|zB<|za<|bE h fun x65 hx65 h=>rs [27,28] [(4,qu x65),(29,qi v49)] (kP 0 (zx (c:=(cI .u8)) (e:=5) (sz:=1) (b:=1) (tok:= .none) hx65)<|kE ⟨[],0,[],0⟩)<|za<|bE h fun y69 hE h=>reg ⟨46,[(27,ql 1 (cI .u8) (s2b a0)),(28,qi (List.length (s2b a0):Int)),(29,qi v49),(44,qb y69)]⟩ ⟨[],[]⟩ (have h:=hE; bE h fun r66 hr66 h=>kC 1 ⟨[],0,[],0⟩ (pc hr66)<|gF 4 36 h (fun h=>bE h fun r67 hr67 h=>kC 5 ⟨[],0,[],0⟩ (pM hr67)<|gF 9 41 h (fun h=>by cases h; exact kE ⟨[],0,[],0⟩) fun h=>by cases h; exact kE ⟨[],0,[],0⟩) fun h=>by cases h; exact kE ⟨[],0,[],0⟩)<|bF h (fun h=>za<|rs [] [(2,qb false)] (kE ⟨[],0,[],0⟩)<|zk<|zU<|ym<|have h:=hr38 _ (sI h); yj<|by cases h; exact rt ⟨[],0,[],0⟩) fun h=>zi<|zC<|rsN zw [27,28] [(29,qi (IntKind.wrap .i64 (v49+1)))] (kE ⟨[],0,[],0⟩)<|⟨IntKind.wrap .i64 (v49+1),h,wk ⟨[],0,[],0⟩⟩) fun h=>zJ<|zF<|zD<|⟨(),sI h,wk ⟨[],0,[],0⟩⟩)) fun y36 h=>za<|rs [] [(2,qb true)] (kE ⟨[],0,[],0⟩)<|zk<|by cases h; exact rt ⟨[],0,[],0⟩
def qt (n:Nat) (r1:(List (List UInt8))):Nat→Int→Option (Ctl Bool Unit)
 |0,_=>none
 | k+1,v22=>
  if(decide (v22<(List.length r1:Int)))=true then((z6 r1 v22).bind fun x29=>
  (pp n x29).bind fun r30=>
  if(!r30)=true then(some (.ret false))else(qt n r1 k (IntKind.wrap .i64 (v22+1))))else(some (.nxt ()))
def qe (n:Nat) (a0:(List UInt8)):Option Bool:=
 if(decide ((List.length a0:Int)>128))=true then(some false)else((uJ n a0 ([46]:List UInt8)).bind fun r1=>
 xJ (qt n r1 n 0) (fun r=>some r) (fun y15=>
 some true))
theorem qx {n:Nat} {a0:(List UInt8)} {r:Bool} (h:qe n a0=some r):AC mx 251 [qs a0] [] (qb r) []:=by
 delta qe at h
 exact fnc Tryz.func251 rfl<|za<|rs [] [(0,qs a0)] (kE ⟨[],0,[],0⟩)<|za<|za<|rs [] [(0,qs a0),(7,qb (decide ((List.length a0:Int)>128)))] (kE ⟨[],0,[],0⟩)<|bF h (fun h=>za<|rs [] [(2,qb false)] (kE ⟨[],0,[],0⟩)<|zk<|by cases h; exact rt ⟨[],0,[],0⟩) fun h=>zi<|za<|za<|bE h fun r1 hr1 h=>rs [] [(9,ql 1 cS r1),(10,qi (List.length r1:Int)),(11,qi 0)] (kC 1 ⟨[],0,[],0⟩ (gA hr1)<|kP 2 (ya (c:=cS) (l:=r1) (e:=9) (sz:=1) (sz':=1) (b:=16) (tok:= .none))<|kE ⟨[],0,[],0⟩)<|blC h (fun _=>⟨19,[]⟩) (fun _=>⟨[],[]⟩) (fun o16 h hr17=>zS (X:=Int) (fun x=>⟨19,[(9,ql 1 cS r1),(10,qi (List.length r1:Int)),(11,qi x)]⟩) (fun x=>⟨[],[]⟩) (fun k x=>qt n r1 k x=some o16) (fun _ hx=>by simp [qt]at hx) n 0 h (wk ⟨[],0,[],0⟩) (fun k x h=>by revert h; revert x; intro v22 h; rw [qt]at h; exact za<|rs [9,10] [(11,qi v22),(12,qb (decide (v22<(List.length r1:Int))))] (kE ⟨[],0,[],0⟩)<|za<|bF h (fun h=>zi<|za<|zB<|za<|bE h fun x29 hx29 h=>rs [9,10] [(4,qs x29),(11,qi v22)] (kP 0 (zx (c:=cS) (e:=9) (sz:=1) (b:=16) (tok:= .none) hx29)<|kE ⟨[],0,[],0⟩)<|za<|bE h fun r30 hr30 h=>rs [9,10] [(11,qi v22),(17,qb (!r30))] (kC 1 ⟨[],0,[],0⟩ (WB hr30)<|kE ⟨[],0,[],0⟩)<|bF h (fun h=>za<|rs [] [(2,qb false)] (kE ⟨[],0,[],0⟩)<|zk<|zU<|ym<|have h:=hr17 _ (sI h); yj<|by cases h; exact rt ⟨[],0,[],0⟩) fun h=>zi<|zC<|rsN zw [9,10] [(11,qi (IntKind.wrap .i64 (v22+1)))] (kE ⟨[],0,[],0⟩)<|⟨IntKind.wrap .i64 (v22+1),h,wk ⟨[],0,[],0⟩⟩) fun h=>zJ<|zF<|zD<|⟨(),sI h,wk ⟨[],0,[],0⟩⟩)) fun y15 h=>za<|rs [] [(2,qb true)] (kE ⟨[],0,[],0⟩)<|zk<|by cases h; exact rt ⟨[],0,[],0⟩
def kU (n:Nat) (a0:(List UInt8)):Option Bool:=
 (gZ n a0 ([64]:List UInt8)).bind fun r1=>
 (if r1.2.2=true then(if(decide ((List.length a0:Int)≤128))=true then((pz n r1.1).bind fun r2=>
 if r2=true then((qe n r1.2.1).bind fun r3=>
 some r3)else(some false))else(some false))else(some false)).bind fun y5=>
 some y5
theorem gm {n:Nat} {a0:(List UInt8)} {r:Bool} (h:kU n a0=some r):AC mx 222 [qs a0] [] (qb r) []:=by
 delta kU at h
 exact fnc Tryz.func222 rfl<|za<|rs [] [(0,qs a0)] (kE ⟨[],0,[],0⟩)<|za<|bE h fun r1 hr1 h=>rs [] [(0,qs a0),(3,qs r1.1),(4,qs r1.2.1),(5,qb r1.2.2)] (kC 1 ⟨[],0,[],0⟩ (Wg hr1)<|kE ⟨[],0,[],0⟩)<|za<|bE h fun y5 hE h=>reg ⟨26,[(2,qb y5)]⟩ ⟨[],[]⟩ (have h:=hE; gF 2 13 h (fun h=>gF 7 18 h (fun h=>bE h fun r2 hr2 h=>kC 8 ⟨[],0,[],0⟩ (WJ hr2)<|gF 11 22 h (fun h=>bE h fun r3 hr3 h=>kC 12 ⟨[],0,[],0⟩ (qx hr3)<|by cases h; exact kE ⟨[],0,[],0⟩) fun h=>by cases h; exact kE ⟨[],0,[],0⟩) fun h=>by cases h; exact kE ⟨[],0,[],0⟩) fun h=>by cases h; exact kE ⟨[],0,[],0⟩)<|zk<|by cases h; exact rt ⟨[],0,[],0⟩
def wW (n:Nat) (a0:(List UInt8)) (a1:(List UInt8)):Option (List UInt8):=
 (yx n a0 a1).bind fun r1=>
 if r1=true then((ssl a0 (List.length a1:Int) (List.length a0)).bind fun x2=>
 some x2)else(some a0)
theorem qA {n:Nat} {a0:(List UInt8)} {a1:(List UInt8)} {r:(List UInt8)} (h:wW n a0 a1=some r):AC mx 273 [qs a0,qs a1] [] (qs r) []:=by
 delta wW at h
 exact fnc Tryz.func273 rfl<|za<|rs [] [(0,qs a0),(1,qs a1)] (kE ⟨[],0,[],0⟩)<|za<|za<|bE h fun r1 hr1 h=>rs [] [(0,qs a0),(1,qs a1),(7,qb r1)] (kC 2 ⟨[],0,[],0⟩ (wF hr1)<|kE ⟨[],0,[],0⟩)<|bF h (fun h=>za<|bE h fun x2 hx2 h=>rs [] [(4,qs x2)] (kP 3 (vH (k:= .i64) hx2)<|kE ⟨[],0,[],0⟩)<|zk<|by cases h; exact rt ⟨[],0,[],0⟩) fun h=>zi<|za<|rs [] [(4,qs a0)] (kE ⟨[],0,[],0⟩)<|zk<|by cases h; exact rt ⟨[],0,[],0⟩
def j8 (n:Nat) (a0:(List UInt8)) (a1:(List UInt8)):Option (List UInt8):=
 (wW n a0 a1).bind fun r1=>
 some r1
theorem pn {n:Nat} {a0:(List UInt8)} {a1:(List UInt8)} {r:(List UInt8)} (h:j8 n a0 a1=some r):AC mx 252 [qs a0,qs a1] [] (qs r) []:=by
 delta j8 at h
 exact fnc Tryz.func252 rfl<|za<|rs [] [(0,qs a0),(1,qs a1)] (kE ⟨[],0,[],0⟩)<|za<|bE h fun r1 hr1 h=>rs [] [(4,qs r1)] (kC 2 ⟨[],0,[],0⟩ (qA hr1)<|kE ⟨[],0,[],0⟩)<|zk<|by cases h; exact rt ⟨[],0,[],0⟩
def bB (n:Nat) (a0:(List UInt8)):Option Bool:=
 (if(decide ((List.length a0:Int)≤128))=true then((kU n a0).bind fun r1=>
 if r1=true then(some true)else((j8 n a0 ([46]:List UInt8)).bind fun r2=>
 (qe n r2).bind fun r3=>
 some r3))else(some false)).bind fun y5=>
 some y5
theorem Yo {n:Nat} {a0:(List UInt8)} {r:Bool} (h:bB n a0=some r):AC mx 221 [qs a0] [] (qb r) []:=by
 delta bB at h
 exact fnc Tryz.func221 rfl<|za<|rs [] [(0,qs a0)] (kE ⟨[],0,[],0⟩)<|za<|bE h fun y5 hE h=>reg ⟨15,[(2,qb y5)]⟩ ⟨[],[]⟩ (have h:=hE; gF 4 6 h (fun h=>bE h fun r1 hr1 h=>kC 5 ⟨[],0,[],0⟩ (gm hr1)<|gF 7 9 h (fun h=>by cases h; exact kE ⟨[],0,[],0⟩) fun h=>bE h fun r2 hr2 h=>bE h fun r3 hr3 h=>kC 8 ⟨[],0,[],0⟩ (pn hr2)<|kC 9 ⟨[],0,[],0⟩ (qx hr3)<|by cases h; exact kE ⟨[],0,[],0⟩) fun h=>by cases h; exact kE ⟨[],0,[],0⟩)<|zk<|by cases h; exact rt ⟨[],0,[],0⟩
def Zm (n:Nat) (a0:(List UInt8)):Option Bool:=
 (if(a0==([]:List UInt8))=true then(some true)else((qe n a0).bind fun r1=>
 some r1)).bind fun y3=>
 some y3
theorem Vq {n:Nat} {a0:(List UInt8)} {r:Bool} (h:Zm n a0=some r):AC mx 223 [qs a0] [] (qb r) []:=by
 delta Zm at h
 exact fnc Tryz.func223 rfl<|za<|rs [] [(0,qs a0)] (kE ⟨[],0,[],0⟩)<|za<|bE h fun y3 hE h=>reg ⟨9,[(2,qb y3)]⟩ ⟨[],[]⟩ (have h:=hE; gF 3 5 h (fun h=>by cases h; exact kE ⟨[],0,[],0⟩) fun h=>bE h fun r1 hr1 h=>kC 4 ⟨[],0,[],0⟩ (qx hr1)<|by cases h; exact kE ⟨[],0,[],0⟩)<|zk<|by cases h; exact rt ⟨[],0,[],0⟩
def vj (n:Nat) (a0:(List UInt8)) (a1:(List UInt8)):Option ((List UInt8)×Bool):=
 (yx n a0 a1).bind fun r1=>
 if(!r1)=true then(some (a0,false))else((ssl a0 (List.length a1:Int) (List.length a0)).bind fun x2=>
 some (x2,true))
theorem qM {n:Nat} {a0:(List UInt8)} {a1:(List UInt8)} {r:((List UInt8)×Bool)} (h:vj n a0 a1=some r):AC mx 277 [qs a0,qs a1] [] (.tuple [qs r.1,qb r.2]) []:=by
 delta vj at h
 exact fnc Tryz.func277 rfl<|za<|rs [] [(0,qs a0),(1,qs a1)] (kE ⟨[],0,[],0⟩)<|za<|za<|bE h fun r1 hr1 h=>rs [] [(0,qs a0),(1,qs a1),(9,qb (!r1))] (kC 2 ⟨[],0,[],0⟩ (wF hr1)<|kE ⟨[],0,[],0⟩)<|bF h (fun h=>za<|rs [] [(4,qs a0),(5,qb false)] (kE ⟨[],0,[],0⟩)<|zk<|by cases h; exact rt ⟨[],0,[],0⟩) fun h=>zi<|za<|bE h fun x2 hx2 h=>rs [] [(4,qs x2),(5,qb true)] (kP 3 (vH (k:= .i64) hx2)<|kE ⟨[],0,[],0⟩)<|zk<|by cases h; exact rt ⟨[],0,[],0⟩
def qj (n:Nat) (a0:(List UInt8)) (a1:(List UInt8)):Option ((List UInt8)×Bool):=
 (vj n a0 a1).bind fun r1=>
 some (r1.1,r1.2)
theorem pS {n:Nat} {a0:(List UInt8)} {a1:(List UInt8)} {r:((List UInt8)×Bool)} (h:qj n a0 a1=some r):AC mx 255 [qs a0,qs a1] [] (.tuple [qs r.1,qb r.2]) []:=by
 delta qj at h
 exact fnc Tryz.func255 rfl<|za<|rs [] [(0,qs a0),(1,qs a1)] (kE ⟨[],0,[],0⟩)<|za<|bE h fun r1 hr1 h=>rs [] [(4,qs r1.1),(5,qb r1.2)] (kC 2 ⟨[],0,[],0⟩ (qM hr1)<|kE ⟨[],0,[],0⟩)<|zk<|by cases h; exact rt ⟨[],0,[],0⟩
def q0 (n:Nat) (a0:(List UInt8)):Option Bool:=
 (qj n a0 ([42,46]:List UInt8)).bind fun r1=>
 if r1.2=true then((if(decide ((List.length a0:Int)≤128))=true then((qe n r1.1).bind fun r2=>
 if r2=true then((jo n r1.1 ([46]:List UInt8)).bind fun r3=>
 some r3)else(some false))else(some false)).bind fun y5=>
 some y5)else((qe n a0).bind fun r6=>
 some r6)
theorem dr {n:Nat} {a0:(List UInt8)} {r:Bool} (h:q0 n a0=some r):AC mx 224 [qs a0] [] (qb r) []:=by
 delta q0 at h
 exact fnc Tryz.func224 rfl<|za<|rs [] [(0,qs a0)] (kE ⟨[],0,[],0⟩)<|za<|za<|bE h fun r1 hr1 h=>rs [] [(0,qs a0),(3,qs r1.1),(4,qb r1.2)] (kC 1 ⟨[],0,[],0⟩ (pS hr1)<|kE ⟨[],0,[],0⟩)<|za<|rs [3] [(0,qs a0),(10,qb r1.2)] (kE ⟨[],0,[],0⟩)<|bF h (fun h=>za<|bE h fun y5 hE h=>reg ⟨24,[(2,qb y5)]⟩ ⟨[],[]⟩ (have h:=hE; gF 4 14 h (fun h=>bE h fun r2 hr2 h=>kC 5 ⟨[],0,[],0⟩ (qx hr2)<|gF 8 18 h (fun h=>bE h fun r3 hr3 h=>kC 9 ⟨[],0,[],0⟩ (bc hr3)<|by cases h; exact kE ⟨[],0,[],0⟩) fun h=>by cases h; exact kE ⟨[],0,[],0⟩) fun h=>by cases h; exact kE ⟨[],0,[],0⟩)<|zk<|by cases h; exact rt ⟨[],0,[],0⟩) fun h=>zi<|za<|bE h fun r6 hr6 h=>rs [] [(2,qb r6)] (kC 1 ⟨[],0,[],0⟩ (qx hr6)<|kE ⟨[],0,[],0⟩)<|zk<|by cases h; exact rt ⟨[],0,[],0⟩
def gT (n:Nat) (a0:(List UInt8)):Option ((List UInt8)×(List UInt8)):=
 (ssl a0 0 (IntKind.wrap .i64 (Int.tdiv (List.length a0:Int) 2))).bind fun x1=>
 (ssl a0 (IntKind.wrap .i64 (Int.tdiv (List.length a0:Int) 2)) (List.length a0)).bind fun x2=>
 some (x1,x2)
theorem XS {n:Nat} {a0:(List UInt8)} {r:((List UInt8)×(List UInt8))} (h:gT n a0=some r):AC mx 257 [qs a0] [] (.tuple [qs r.1,qs r.2]) []:=by
 delta gT at h
 exact fnc Tryz.func257 rfl<|za<|rs [] [(0,qs a0)] (kE ⟨[],0,[],0⟩)<|za<|bE h fun x1 hx1 h=>bE h fun x2 hx2 h=>zs [0,1,2,3,4,5,6,7,8,9,10,11] [] [[],[],[1],[1,2],[0,1,2,3],[],[],[6],[6,7],[5,6,7,8],[0,1,2,3,4],[0,1,2,3,4,5,6,7,8,9,10]] [] [(2,qs x1),(3,qs x2)] (dS [0,1,2,3]<|dP (vn (k:= .i64) hx1)<|dS [5,6,7,8]<|dP (vH (k:= .i64) hx2)<|dS [10,11]<|dE ⟨[],0,[],0⟩)<|zk<|by cases h; exact rt ⟨[],0,[],0⟩
def ge (n:Nat) (a0:(List UInt8)) (a1:Int):Option Bool:=
 (uE a0 (IntKind.wrap .i64 (Int.tdiv a1 8))).bind fun x1=>
 (YD .u8 x1 (IntKind.wrap .u64 ((7:Int)-(IntKind.wrap .u64 (Int.tmod a1 8))))).bind fun x2=>
 some ((wq .u8 x2 1)==1)
theorem db {n:Nat} {a0:(List UInt8)} {a1:Int} {r:Bool} (h:ge n a0 a1=some r):AC mx 258 [qs a0,qi a1] [] (qb r) []:=by
 delta ge at h
 exact fnc Tryz.func258 rfl<|za<|rs [] [(0,qs a0),(1,qi a1)] (kE ⟨[],0,[],0⟩)<|za<|bE h fun x1 hx1 h=>bE h fun x2 hx2 h=>rs [] [(4,qb ((wq .u8 x2 1)==1))] (kP 3 (xB hx1)<|kP 8 (pl (k:= .u8) (d:=(tyT 5).d) (k':= .u64) hx2)<|kE ⟨[],0,[],0⟩)<|zk<|by cases h; exact rt ⟨[],0,[],0⟩
def jJ (n:Nat) (r3:((List UInt8)×(List UInt8))):Nat→Bool→Int→Option (Ctl Bool Unit)
 |0,_,_=>none
 | k+1,v57,v58=>
  if(decide (v58<(IntKind.wrap .i64 ((8:Int)*(List.length r3.2:Int)))))=true then((ge n r3.2 v58).bind fun r80=>
  (if r80=true then(if v57=true then(some true)else(if(!r80)=true then((ge n r3.1 v58).bind fun r81=>
  some r81)else(some false)))else(if(!r80)=true then((ge n r3.1 v58).bind fun r82=>
  some r82)else(some false))).bind fun y84=>
  if y84=true then(some (.ret false))else((if v57=true then(some true)else(some (!r80))).bind fun y86=>
  jJ n r3 k y86 (IntKind.wrap .i64 (v58+1))))else(some (.nxt ()))
def pr (n:Nat) (a0:(List UInt8)):Option Bool:=
 (if((List.length a0:Int) !=8)=true then(some ((List.length a0:Int) !=32))else(some false)).bind fun y2=>
 if y2=true then(some false)else((gT n a0).bind fun r3=>
 xJ (jJ n r3 n false 0) (fun r=>some r) (fun y44=>
 some true))
theorem WD {n:Nat} {a0:(List UInt8)} {r:Bool} (h:pr n a0=some r):AC mx 225 [qs a0] [] (qb r) []:=by
 delta pr at h
 exact fnc Tryz.func225 rfl<|za<|rs [] [(0,qs a0)] (kE ⟨[],0,[],0⟩)<|za<|za<|bE h fun y2 hE h=>reg ⟨49,[(0,qs a0),(15,qb y2)]⟩ ⟨[],[]⟩ (have h:=hE; gF 4 11 h (fun h=>by cases h; exact kE ⟨[],0,[],0⟩) fun h=>by cases h; exact kE ⟨[],0,[],0⟩)<|bF h (fun h=>za<|rs [] [(2,qb false)] (kE ⟨[],0,[],0⟩)<|zk<|by cases h; exact rt ⟨[],0,[],0⟩) fun h=>zi<|za<|bE h fun r3 hr3 h=>rs [] [(3,qs r3.1),(4,qs r3.2)] (kC 1 ⟨[],0,[],0⟩ (XS hr3)<|kE ⟨[],0,[],0⟩)<|za<|rs [3,4] [(5,qb false)] (kE ⟨[],0,[],0⟩)<|za<|za<|rs [3,4,5] [(6,qi 0)] (kE ⟨[],0,[],0⟩)<|blC h (fun _=>⟨49,[]⟩) (fun _=>⟨[],[]⟩) (fun o45 h hr46=>zS (X:=(Bool×Int)) (fun x=>⟨49,[(3,qs r3.1),(4,qs r3.2),(5,qb x.1),(6,qi x.2)]⟩) (fun x=>⟨[],[]⟩) (fun k x=>jJ n r3 k x.1 x.2=some o45) (fun _ hx=>by simp [jJ]at hx) n (false,0) h (wk ⟨[],0,[],0⟩) (fun k x h=>by obtain⟨v57,v58⟩:=x; rw [jJ]at h; exact za<|za<|rs [3,4] [(5,qb v57),(6,qi v58),(25,qb (decide (v58<(IntKind.wrap .i64 ((8:Int)*(List.length r3.2:Int))))))] (kE ⟨[],0,[],0⟩)<|bF h (fun h=>zi<|za<|zB<|za<|bE h fun r80 hr80 h=>rs [3,4] [(5,qb v57),(6,qi v58),(7,qb r80)] (kC 2 ⟨[],0,[],0⟩ (db hr80)<|kE ⟨[],0,[],0⟩)<|za<|za<|bE h fun y84 hE h=>reg ⟨49,[(3,qs r3.1),(4,qs r3.2),(5,qb v57),(6,qi v58),(7,qb r80),(43,qb y84)]⟩ ⟨[],[]⟩ (have h:=hE; gF 2 32 h (fun h=>gF 5 35 h (fun h=>by cases h; exact kE ⟨[],0,[],0⟩) fun h=>gF 8 38 h (fun h=>bE h fun r81 hr81 h=>kC 10 ⟨[],0,[],0⟩ (db hr81)<|by cases h; exact kE ⟨[],0,[],0⟩) fun h=>by cases h; exact kE ⟨[],0,[],0⟩) fun h=>gF 8 38 h (fun h=>bE h fun r82 hr82 h=>kC 10 ⟨[],0,[],0⟩ (db hr82)<|by cases h; exact kE ⟨[],0,[],0⟩) fun h=>by cases h; exact kE ⟨[],0,[],0⟩)<|bF h (fun h=>za<|rs [] [(2,qb false)] (kE ⟨[],0,[],0⟩)<|zk<|zU<|ym<|have h:=hr46 _ (sI h); yj<|by cases h; exact rt ⟨[],0,[],0⟩) fun h=>zi<|bE h fun y86 hE h=>DY ⟨49,[(3,qs r3.1),(4,qs r3.2),(5,qb y86),(6,qi v58)]⟩ ⟨[],[]⟩ zR (have h:=hE; gF 2 45 h (fun h=>by cases h; exact kE ⟨[],0,[],0⟩) fun h=>by cases h; exact kE ⟨[],0,[],0⟩)<|zC<|rsN zw [3,4] [(5,qb y86),(6,qi (IntKind.wrap .i64 (v58+1)))] (kE ⟨[],0,[],0⟩)<|⟨(y86,IntKind.wrap .i64 (v58+1)),h,wk ⟨[],0,[],0⟩⟩) fun h=>zJ<|zF<|zD<|⟨(),sI h,wk ⟨[],0,[],0⟩⟩)) fun y44 h=>za<|rs [] [(2,qb true)] (kE ⟨[],0,[],0⟩)<|zk<|by cases h; exact rt ⟨[],0,[],0⟩
def kj (n:Nat) (a0:(List UInt8)):Option Bool:=
 (if((List.length a0:Int)==4)=true then(some true)else(some ((List.length a0:Int)==16))).bind fun y2=>
 some y2
theorem dl {n:Nat} {a0:(List UInt8)} {r:Bool} (h:kj n a0=some r):AC mx 226 [qs a0] [] (qb r) []:=by
 delta kj at h
 exact fnc Tryz.func226 rfl<|za<|rs [] [(0,qs a0)] (kE ⟨[],0,[],0⟩)<|za<|bE h fun y2 hE h=>reg ⟨11,[(2,qb y2)]⟩ ⟨[],[]⟩ (have h:=hE; gF 4 6 h (fun h=>by cases h; exact kE ⟨[],0,[],0⟩) fun h=>by cases h; exact kE ⟨[],0,[],0⟩)<|zk<|by cases h; exact rt ⟨[],0,[],0⟩
def jt (n:Nat) (a0:Int) (a1:(List UInt8)) (a2:Bool):Option Bool:=
 if(a0==0)=true then((if a2=true then((bB n a1).bind fun r16=>
 if r16=true then(some true)else(if(!a2)=true then((kU n a1).bind fun r17=>
 some r17)else(some false)))else(if(!a2)=true then((kU n a1).bind fun r18=>
 some r18)else(some false))).bind fun y20=>
 some y20)else(if(a0==1)=true then((if a2=true then((Zm n a1).bind fun r21=>
 if r21=true then(some true)else(if(!a2)=true then((q0 n a1).bind fun r22=>
 some r22)else(some false)))else(if(!a2)=true then((q0 n a1).bind fun r23=>
 some r23)else(some false))).bind fun y25=>
 some y25)else(if(a0==3)=true then((if a2=true then((pr n a1).bind fun r26=>
 if r26=true then(some true)else(if(!a2)=true then((kj n a1).bind fun r27=>
 some r27)else(some false)))else(if(!a2)=true then((kj n a1).bind fun r28=>
 some r28)else(some false))).bind fun y30=>
 some y30)else(some false)))
theorem Zk {n:Nat} {a0:Int} {a1:(List UInt8)} {a2:Bool} {r:Bool} (h:jt n a0 a1 a2=some r):AC mx 171 [qi a0,qs a1,qb a2] [] (qb r) []:=by
 delta jt at h
 exact fnc Tryz.func171 rfl<|za<|rs [] [(0,qi a0),(1,qs a1),(2,qb a2)] (kE ⟨[],0,[],0⟩)<|za<|za<|rs [] [(1,qs a1),(2,qb a2),(7,qi a0)] (kE ⟨[],0,[],0⟩)<|zB<|za<|rs [] [(1,qs a1),(2,qb a2),(7,qi a0),(8,qb (a0==0))] (kE ⟨[],0,[],0⟩)<|bF h (fun h=>za<|bE h fun y20 hE h=>reg ⟨53,[(6,qb y20)]⟩ ⟨[],[]⟩ (have h:=hE; gF 2 11 h (fun h=>bE h fun r16 hr16 h=>kC 3 ⟨[],0,[],0⟩ (Yo hr16)<|gF 6 15 h (fun h=>by cases h; exact kE ⟨[],0,[],0⟩) fun h=>gF 9 18 h (fun h=>bE h fun r17 hr17 h=>kC 10 ⟨[],0,[],0⟩ (gm hr17)<|by cases h; exact kE ⟨[],0,[],0⟩) fun h=>by cases h; exact kE ⟨[],0,[],0⟩) fun h=>gF 9 18 h (fun h=>bE h fun r18 hr18 h=>kC 10 ⟨[],0,[],0⟩ (gm hr18)<|by cases h; exact kE ⟨[],0,[],0⟩) fun h=>by cases h; exact kE ⟨[],0,[],0⟩)<|zk<|zU<|by cases h; exact rt ⟨[],0,[],0⟩) fun h=>za<|rs [] [(1,qs a1),(2,qb a2),(7,qi a0),(23,qb (a0==1))] (kE ⟨[],0,[],0⟩)<|bF h (fun h=>za<|bE h fun y25 hE h=>reg ⟨53,[(6,qb y25)]⟩ ⟨[],[]⟩ (have h:=hE; gF 2 26 h (fun h=>bE h fun r21 hr21 h=>kC 3 ⟨[],0,[],0⟩ (Vq hr21)<|gF 6 30 h (fun h=>by cases h; exact kE ⟨[],0,[],0⟩) fun h=>gF 9 33 h (fun h=>bE h fun r22 hr22 h=>kC 10 ⟨[],0,[],0⟩ (dr hr22)<|by cases h; exact kE ⟨[],0,[],0⟩) fun h=>by cases h; exact kE ⟨[],0,[],0⟩) fun h=>gF 9 33 h (fun h=>bE h fun r23 hr23 h=>kC 10 ⟨[],0,[],0⟩ (dr hr23)<|by cases h; exact kE ⟨[],0,[],0⟩) fun h=>by cases h; exact kE ⟨[],0,[],0⟩)<|zk<|zU<|by cases h; exact rt ⟨[],0,[],0⟩) fun h=>za<|rs [] [(1,qs a1),(2,qb a2),(38,qb (a0==3))] (kE ⟨[],0,[],0⟩)<|bF h (fun h=>za<|bE h fun y30 hE h=>reg ⟨53,[(6,qb y30)]⟩ ⟨[],[]⟩ (have h:=hE; gF 2 41 h (fun h=>bE h fun r26 hr26 h=>kC 3 ⟨[],0,[],0⟩ (WD hr26)<|gF 6 45 h (fun h=>by cases h; exact kE ⟨[],0,[],0⟩) fun h=>gF 9 48 h (fun h=>bE h fun r27 hr27 h=>kC 10 ⟨[],0,[],0⟩ (dl hr27)<|by cases h; exact kE ⟨[],0,[],0⟩) fun h=>by cases h; exact kE ⟨[],0,[],0⟩) fun h=>gF 9 48 h (fun h=>bE h fun r28 hr28 h=>kC 10 ⟨[],0,[],0⟩ (dl hr28)<|by cases h; exact kE ⟨[],0,[],0⟩) fun h=>by cases h; exact kE ⟨[],0,[],0⟩)<|zk<|zU<|by cases h; exact rt ⟨[],0,[],0⟩) fun h=>zi<|zC<|za<|rs [] [(6,qb false)] (kE ⟨[],0,[],0⟩)<|zk<|by cases h; exact rt ⟨[],0,[],0⟩
def yy (n:Nat) (a0:zc) (a1:Bool):Option Int:=
 (kG n a0.zV).bind fun r1=>
 if(r1==4)=true then(some 14)else(if(r1==2)=true then(if(!(a0.xE==([]:List UInt8)))=true then(some 14)else((wN n (zu.mk a0.zy.zo)).bind fun r6=>
 some r6))else((if(decide ((List.length a0.zy.zo:Int)>0))=true then(some true)else((jt n r1 a0.xE a1).bind fun r7=>
 some (!r7))).bind fun y9=>
 if y9=true then(some 14)else(some 0)))
theorem kT {n:Nat} {a0:zc} {a1:Bool} {r:Int} (h:yy n a0 a1=some r):AC mx 111 [.agg (zc.cells a0),qb a1] [] (qi r) []:=by
 delta yy at h
 exact fnc Tryz.func111 rfl<|za<|rm [] [(1,qb a1),(2,qp 0)] ⟨[zc.cells a0],[]⟩ (kE ⟨[0],1,[],0⟩)<|za<|za<|bE h fun r1 hr1 h=>rs [] [(1,qb a1),(2,qp 0),(5,qi r1)] (kC 2 ⟨[],1,[],0⟩ (VY hr1)<|kE ⟨[0],1,[],0⟩)<|za<|rs [] [(1,qb a1),(2,qp 0),(5,qi r1),(9,qi r1)] (kE ⟨[0],1,[],0⟩)<|zB<|za<|rs [] [(1,qb a1),(2,qp 0),(5,qi r1),(9,qi r1),(23,qb (r1==4))] (kE ⟨[0],1,[],0⟩)<|bF h (fun h=>za<|rm [] [(4,qi 14)] ⟨[],[]⟩ (kE ⟨[],1,[],0⟩)<|zk<|zU<|by cases h; exact rt ⟨[],0,[],0⟩) fun h=>za<|rs [] [(1,qb a1),(2,qp 0),(5,qi r1),(25,qb (r1==2))] (kE ⟨[0],1,[],0⟩)<|bF h (fun h=>za<|za<|rs [] [(2,qp 0),(29,qb (!(a0.xE==([]:List UInt8))))] (kE ⟨[0],1,[],0⟩)<|bF h (fun h=>za<|rm [] [(4,qi 14)] ⟨[],[]⟩ (kE ⟨[],1,[],0⟩)<|zk<|zU<|by cases h; exact rt ⟨[],0,[],0⟩) fun h=>zi<|za<|bE h fun r6 hr6 h=>rm [] [(4,qi r6)] ⟨[],[]⟩ (kC 2 ⟨[],1,[],0⟩ (jj hr6)<|kE ⟨[],1,[],0⟩)<|zk<|zU<|by cases h; exact rt ⟨[],0,[],0⟩) fun h=>za<|bE h fun y9 hE h=>reg ⟨33,[(22,qb y9)]⟩ ⟨[],[]⟩ (have h:=hE; kP 3 (ya (c:=(cL 3 zb.cells)) (l:=a0.zy.zo) (e:=141) (sz:=1) (sz':=1) (b:=24) (tok:= .none))<|gF 6 15 h (fun h=>by cases h; exact kE ⟨[],1,[],0⟩) fun h=>bE h fun r7 hr7 h=>kC 10 ⟨[],1,[],0⟩ (Zk hr7)<|by cases h; exact kE ⟨[],1,[],0⟩)<|bF h (fun h=>za<|rs [] [(4,qi 14)] (kE ⟨[],0,[],0⟩)<|zk<|zU<|by cases h; exact rt ⟨[],0,[],0⟩) fun h=>zi<|zC<|za<|rs [] [(4,qi 0)] (kE ⟨[],0,[],0⟩)<|zk<|by cases h; exact rt ⟨[],0,[],0⟩
def uo (n:Nat) (a0:zv):Option Int:=
 (if(decide (a0.zA<0))=true then(some true)else(if(decide (a0.zA>8))=true then(some true)else(if((List.length a0.xL:Int) !=16)=true then(some true)else(some ((List.length a0.zY:Int) !=16))))).bind fun y2=>
 if y2=true then(some 18)else(some 0)
theorem ko {n:Nat} {a0:zv} {r:Int} (h:uo n a0=some r):AC mx 112 [.agg (zv.cells a0)] [] (qi r) []:=by
 delta uo at h
 exact fnc Tryz.func112 rfl<|za<|rm [] [(1,qp 0)] ⟨[zv.cells a0],[]⟩ (kE ⟨[0],1,[],0⟩)<|za<|za<|bE h fun y2 hE h=>reg ⟨23,[(22,qb y2)]⟩ ⟨[],[]⟩ (have h:=hE; gF 4 6 h (fun h=>by cases h; exact kE ⟨[],1,[],0⟩) fun h=>gF 9 11 h (fun h=>by cases h; exact kE ⟨[],1,[],0⟩) fun h=>gF 15 17 h (fun h=>by cases h; exact kE ⟨[],1,[],0⟩) fun h=>by cases h; exact kE ⟨[],1,[],0⟩)<|bF h (fun h=>za<|rs [] [(2,qi 18)] (kE ⟨[],0,[],0⟩)<|zk<|by cases h; exact rt ⟨[],0,[],0⟩) fun h=>zi<|za<|rs [] [(2,qi 0)] (kE ⟨[],0,[],0⟩)<|zk<|by cases h; exact rt ⟨[],0,[],0⟩
def yc (n:Nat) (a0:zt):Nat→Int→(List (List UInt8×Bool))→Option (Ctl Int (List (List UInt8×Bool)))
 |0,_,_=>none
 | k+1,v41,v42=>
  if(decide (v41<(List.length a0.zl:Int)))=true then((z6 a0.zl v41).bind fun x49=>
  (uA n x49).bind fun r50=>
  if(!r50)=true then(some (.ret 11))else(yc n a0 k (IntKind.wrap .i64 (v41+1)) (Kx x49 true v42)))else(some (.nxt v42))
def yo (n:Nat) (a0:zt):Nat→Int→Option (Ctl Int Unit)
 |0,_=>none
 | k+1,v71=>
  if(decide (v71<(List.length a0.zK:Int)))=true then((z6 a0.zK v71).bind fun x78=>
  (yy n (zc.mk x78.zV x78.xE (zu.mk x78.zy.zo)) false).bind fun r79=>
  if(r79 !=0)=true then(some (.ret r79))else(yo n a0 k (IntKind.wrap .i64 (v71+1))))else(some (.nxt ()))
def yn (n:Nat) (a0:zt):Nat→Int→Option (Ctl Int Unit)
 |0,_=>none
 | k+1,v108=>
  if(decide (v108<(List.length a0.zz:Int)))=true then((z6 a0.zz v108).bind fun x118=>
  (wN n (zu.mk x118.zy.zo)).bind fun r119=>
  if(r119 !=0)=true then(some (.ret r119))else(if((List.length x118.zy.zo:Int)==0)=true then(some (.ret 14))else((uo n (zv.mk x118.zE.zA x118.zE.xL x118.zE.zY)).bind fun r120=>
  if(r120 !=0)=true then(some (.ret r120))else(yn n a0 k (IntKind.wrap .i64 (v108+1))))))else(some (.nxt ()))
def xt (n:Nat) (a0:zt):Option Int:=
 (if(decide (a0.qq<0))=true then(some true)else(some (decide (a0.qq>254033452799)))).bind fun y11=>
 if y11=true then(some 12)else((if(!(a0.zQ==([]:List UInt8)))=true then((uA n a0.zQ).bind fun r12=>
 some (!r12))else(some false)).bind fun y14=>
 if y14=true then(some 11)else((if(decide (a0.wa<0))=true then(some true)else(if(decide (a0.wa>511))=true then(some true)else(if(decide (a0.xl<1))=true then(some true)else(some (decide (a0.xl>8)))))).bind fun y16=>
 if y16=true then(some 1)else((if(decide ((List.length a0.zl:Int)>8))=true then(some true)else(if(decide ((List.length a0.zK:Int)>16))=true then(some true)else(some (decide ((List.length a0.zz:Int)>64))))).bind fun y18=>
 if y18=true then(some 2)else(xJ (yc n a0 n 0 ([]:List (List UInt8×Bool))) (fun r=>some r) (fun y34=>
 if(decide ((List.length y34:Int)<(List.length a0.zl:Int)))=true then(some 10)else(xJ (yo n a0 n 0) (fun r=>some r) (fun y64=>
 xJ (yn n a0 n 0) (fun r=>some r) (fun y99=>
 some 0))))))))
theorem ZS {n:Nat} {a0:zt} {r:Int} (h:xt n a0=some r):AC mx 42 [.agg (zt.cells a0)] [] (qi r) []:=by
 delta xt at h
 exact fnc Tryz.func42 rfl<|za<|rm [] [(1,qp 0)] ⟨[zt.cells a0],[]⟩ (kE ⟨[0],1,[],0⟩)<|za<|zB<|za<|bE h fun y11 hE h=>reg ⟨126,[(1,qp 0),(13,qb y11)]⟩ ⟨[zt.cells a0],[]⟩ (have h:=hE; gF 4 17 h (fun h=>by cases h; exact kE ⟨[0],1,[],0⟩) fun h=>by cases h; exact kE ⟨[0],1,[],0⟩)<|bF h (fun h=>za<|rm [] [(2,qi 12)] ⟨[],[]⟩ (kE ⟨[],1,[],0⟩)<|zk<|zU<|by cases h; exact rt ⟨[],0,[],0⟩) fun h=>za<|bE h fun y14 hE h=>reg ⟨126,[(1,qp 0),(22,qb y14)]⟩ ⟨[zt.cells a0],[]⟩ (have h:=hE; gF 4 26 h (fun h=>bE h fun r12 hr12 h=>kC 6 ⟨[],1,[],0⟩ (kg hr12)<|by cases h; exact kE ⟨[0],1,[],0⟩) fun h=>by cases h; exact kE ⟨[0],1,[],0⟩)<|bF h (fun h=>za<|rm [] [(2,qi 11)] ⟨[],[]⟩ (kE ⟨[],1,[],0⟩)<|zk<|zU<|by cases h; exact rt ⟨[],0,[],0⟩) fun h=>za<|bE h fun y16 hE h=>reg ⟨126,[(1,qp 0),(32,qb y16)]⟩ ⟨[zt.cells a0],[]⟩ (have h:=hE; gF 4 36 h (fun h=>by cases h; exact kE ⟨[0],1,[],0⟩) fun h=>gF 9 41 h (fun h=>by cases h; exact kE ⟨[0],1,[],0⟩) fun h=>gF 14 46 h (fun h=>by cases h; exact kE ⟨[0],1,[],0⟩) fun h=>by cases h; exact kE ⟨[0],1,[],0⟩)<|bF h (fun h=>za<|rm [] [(2,qi 1)] ⟨[],[]⟩ (kE ⟨[],1,[],0⟩)<|zk<|zU<|by cases h; exact rt ⟨[],0,[],0⟩) fun h=>za<|bE h fun y18 hE h=>reg ⟨126,[(1,qp 0),(51,qb y18)]⟩ ⟨[zt.cells a0],[]⟩ (have h:=hE; kP 2 (ya (c:=cS) (l:=a0.zl) (e:=9) (sz:=1) (sz':=1) (b:=16) (tok:= .none))<|gF 5 56 h (fun h=>by cases h; exact kE ⟨[0],1,[],0⟩) fun h=>kP 7 (ya (c:=zc.cells) (l:=a0.zK) (e:=59) (sz:=3) (sz':=3) (b:=48) (tok:= .none))<|gF 11 62 h (fun h=>by cases h; exact kE ⟨[0],1,[],0⟩) fun h=>kP 13 (ya (c:=ze.cells) (l:=a0.zz) (e:=68) (sz:=4) (sz':=4) (b:=64) (tok:= .none))<|by cases h; exact kE ⟨[0],1,[],0⟩)<|bF h (fun h=>za<|rm [] [(2,qi 2)] ⟨[],[]⟩ (kE ⟨[],1,[],0⟩)<|zk<|zU<|by cases h; exact rt ⟨[],0,[],0⟩) fun h=>zi<|zC<|za<|rm [] [(1,qp 0),(3, .mapv 1)] ⟨[zt.cells a0,[.mp (mpc vB ([]:List (List UInt8×Bool)))]],[]⟩ (kE ⟨[0,1],2,[],0⟩)<|za<|za<|rs [3] [(1,qp 0),(70,ql 1 cS a0.zl),(71,qi (List.length a0.zl:Int)),(72,qi 0)] (kP 2 (ya (c:=cS) (l:=a0.zl) (e:=9) (sz:=1) (sz':=1) (b:=16) (tok:= .none))<|kE ⟨[0,1],2,[],0⟩)<|blC h (fun y34=>⟨126,[(1,qp 0),(3, .mapv 1)]⟩) (fun y34=>⟨[zt.cells a0,[.mp (mpc vB y34)]],[]⟩) (fun o35 h hr36=>zS (X:=(Int×(List (List UInt8×Bool)))) (fun x=>⟨126,[(1,qp 0),(3, .mapv 1),(70,ql 1 cS a0.zl),(71,qi (List.length a0.zl:Int)),(72,qi x.1)]⟩) (fun x=>⟨[zt.cells a0,[.mp (mpc vB x.2)]],[]⟩) (fun k x=>yc n a0 k x.1 x.2=some o35) (fun _ hx=>by simp [yc]at hx) n (0,([]:List (List UInt8×Bool))) h (wk ⟨[0,1],2,[],0⟩) (fun k x h=>by obtain⟨v41,v42⟩:=x; rw [yc]at h; exact za<|rs [3,70,71] [(1,qp 0),(72,qi v41),(73,qb (decide (v41<(List.length a0.zl:Int))))] (kE ⟨[0,1],2,[],0⟩)<|za<|bF h (fun h=>zi<|za<|zB<|za<|bE h fun x49 hx49 h=>rs [3,70,71] [(1,qp 0),(5,qs x49),(72,qi v41)] (kP 0 (zx (c:=cS) (e:=9) (sz:=1) (b:=16) (tok:= .none) hx49)<|kE ⟨[0,1],2,[],0⟩)<|za<|za<|bE h fun r50 hr50 h=>rs [3,70,71] [(1,qp 0),(5,qs x49),(72,qi v41),(78,qb (!r50))] (kC 1 ⟨[],2,[],0⟩ (kg hr50)<|kE ⟨[0,1],2,[],0⟩)<|bF h (fun h=>za<|rm [] [(2,qi 11)] ⟨[],[]⟩ (kE ⟨[],2,[],0⟩)<|zk<|zU<|ym<|have h:=hr36 _ (sI h); yj<|by cases h; exact rt ⟨[],0,[],0⟩) fun h=>zi<|rmN zR [3,70,71] [(1,qp 0),(72,qi v41)] ⟨[zt.cells a0,[.mp (mpc vB (Kx x49 true v42))]],[]⟩ (kV 2 2 0 1 (cW (T:=tyT) (c:=vB) (e:=v42) (k:=x49) true (kt:=9) (et:=4) (by kernel_rfl) (fun _=>rfl))<|kE ⟨[0,1],2,[],0⟩)<|zC<|rsN zw [3,70,71] [(1,qp 0),(72,qi (IntKind.wrap .i64 (v41+1)))] (kE ⟨[0,1],2,[],0⟩)<|⟨(IntKind.wrap .i64 (v41+1),Kx x49 true v42),h,wk ⟨[0,1],2,[],0⟩⟩) fun h=>zJ<|zF<|zD<|⟨v42,sI h,wk ⟨[0,1],2,[],0⟩⟩)) fun y34 h=>za<|za<|rm [] [(1,qp 0),(87,qb (decide ((List.length y34:Int)<(List.length a0.zl:Int))))] ⟨[zt.cells a0],[]⟩ (kP 1 (eh (c:=vB) (e:=y34))<|kP 4 (ya (c:=cS) (l:=a0.zl) (e:=9) (sz:=1) (sz':=1) (b:=16) (tok:= .none))<|kE ⟨[0],2,[],0⟩)<|bF h (fun h=>za<|rm [] [(2,qi 10)] ⟨[],[]⟩ (kE ⟨[],1,[],0⟩)<|zk<|by cases h; exact rt ⟨[],0,[],0⟩) fun h=>zi<|za<|za<|rs [] [(1,qp 0),(89,ql 3 zc.cells a0.zK),(90,qi (List.length a0.zK:Int)),(91,qi 0)] (kP 2 (ya (c:=zc.cells) (l:=a0.zK) (e:=59) (sz:=3) (sz':=3) (b:=48) (tok:= .none))<|kE ⟨[0],1,[],0⟩)<|blC h (fun _=>⟨126,[(1,qp 0)]⟩) (fun _=>⟨[zt.cells a0],[]⟩) (fun o65 h hr66=>zS (X:=Int) (fun x=>⟨126,[(1,qp 0),(89,ql 3 zc.cells a0.zK),(90,qi (List.length a0.zK:Int)),(91,qi x)]⟩) (fun x=>⟨[zt.cells a0],[]⟩) (fun k x=>yo n a0 k x=some o65) (fun _ hx=>by simp [yo]at hx) n 0 h (wk ⟨[0],1,[],0⟩) (fun k x h=>by revert h; revert x; intro v71 h; rw [yo]at h; exact za<|rs [89,90] [(1,qp 0),(91,qi v71),(92,qb (decide (v71<(List.length a0.zK:Int))))] (kE ⟨[0],1,[],0⟩)<|za<|bF h (fun h=>zi<|za<|zB<|za<|bE h fun x78 hx78 h=>rm [89,90] [(1,qp 0),(7,qp 1),(91,qi v71)] ⟨[zt.cells a0,zc.cells x78],[]⟩ (kP 0 (zx (c:=zc.cells) (e:=59) (sz:=3) (b:=48) (tok:= .none) hx78)<|kE ⟨[0,1],2,[],0⟩)<|za<|bE h fun r79 hr79 h=>rm [89,90] [(1,qp 0),(8,qi r79),(91,qi v71)] ⟨[zt.cells a0],[]⟩ (kC 1 ⟨[],2,[],0⟩ (kT hr79)<|kE ⟨[0],2,[],0⟩)<|za<|rs [89,90] [(1,qp 0),(8,qi r79),(91,qi v71),(98,qb (r79 !=0))] (kE ⟨[0],1,[],0⟩)<|bF h (fun h=>za<|rm [] [(2,qi r79)] ⟨[],[]⟩ (kE ⟨[],1,[],0⟩)<|zk<|zU<|ym<|have h:=hr66 _ (sI h); yj<|by cases h; exact rt ⟨[],0,[],0⟩) fun h=>zi<|zC<|rsN zw [89,90] [(1,qp 0),(91,qi (IntKind.wrap .i64 (v71+1)))] (kE ⟨[0],1,[],0⟩)<|⟨IntKind.wrap .i64 (v71+1),h,wk ⟨[0],1,[],0⟩⟩) fun h=>zJ<|zF<|zD<|⟨(),sI h,wk ⟨[0],1,[],0⟩⟩)) fun y64 h=>za<|za<|rm [] [(102,ql 4 ze.cells a0.zz),(103,qi (List.length a0.zz:Int)),(104,qi 0)] ⟨[],[]⟩ (kP 2 (ya (c:=ze.cells) (l:=a0.zz) (e:=68) (sz:=4) (sz':=4) (b:=64) (tok:= .none))<|kE ⟨[],1,[],0⟩)<|blC h (fun _=>⟨126,[]⟩) (fun _=>⟨[],[]⟩) (fun o100 h hr101=>zS (X:=Int) (fun x=>⟨126,[(102,ql 4 ze.cells a0.zz),(103,qi (List.length a0.zz:Int)),(104,qi x)]⟩) (fun x=>⟨[],[]⟩) (fun k x=>yn n a0 k x=some o100) (fun _ hx=>by simp [yn]at hx) n 0 h (wk ⟨[],0,[],0⟩) (fun k x h=>by revert h; revert x; intro v108 h; rw [yn]at h; exact za<|rs [102,103,104] [(105,qb (decide (v108<(List.length a0.zz:Int))))] (kE ⟨[],0,[],0⟩)<|za<|bF h (fun h=>zi<|za<|zB<|za<|bE h fun x118 hx118 h=>rm [102,103,104] [(10,qp 0)] ⟨[[ql 1 (cL 3 zb.cells) x118.zy.zo,qi x118.zE.zA,qs x118.zE.xL,qs x118.zE.zY]],[]⟩ (kP 0 (zx (c:=ze.cells) (e:=68) (sz:=4) (b:=64) (tok:= .none) hx118)<|kE ⟨[0],1,[],0⟩)<|za<|za<|bE h fun r119 hr119 h=>rs [102,103,104] [(10,qp 0),(11,qi r119)] (kC 2 ⟨[],1,[],0⟩ (jj hr119)<|kE ⟨[0],1,[],0⟩)<|za<|rs [11,102,103,104] [(10,qp 0),(112,qb (r119 !=0))] (kE ⟨[0],1,[],0⟩)<|bF h (fun h=>za<|rm [] [(2,qi r119)] ⟨[],[]⟩ (kE ⟨[],1,[],0⟩)<|zk<|zU<|ym<|have h:=hr101 _ (sI h); yj<|by cases h; exact rt ⟨[],0,[],0⟩) fun h=>zi<|za<|za<|rs [102,103,104] [(10,qp 0),(118,qb ((List.length x118.zy.zo:Int)==0))] (kP 3 (ya (c:=(cL 3 zb.cells)) (l:=x118.zy.zo) (e:=141) (sz:=1) (sz':=1) (b:=24) (tok:= .none))<|kE ⟨[0],1,[],0⟩)<|bF h (fun h=>za<|rm [] [(2,qi 14)] ⟨[],[]⟩ (kE ⟨[],1,[],0⟩)<|zk<|zU<|ym<|have h:=hr101 _ (sI h); yj<|by cases h; exact rt ⟨[],0,[],0⟩) fun h=>zi<|za<|bE h fun r120 hr120 h=>rm [102,103,104] [(12,qi r120)] ⟨[],[]⟩ (kC 2 ⟨[],1,[],0⟩ (ko hr120)<|kE ⟨[],1,[],0⟩)<|za<|rs [12,102,103,104] [(123,qb (r120 !=0))] (kE ⟨[],0,[],0⟩)<|bF h (fun h=>za<|rs [] [(2,qi r120)] (kE ⟨[],0,[],0⟩)<|zk<|zU<|ym<|have h:=hr101 _ (sI h); yj<|by cases h; exact rt ⟨[],0,[],0⟩) fun h=>zi<|zC<|rsN zw [102,103] [(104,qi (IntKind.wrap .i64 (v108+1)))] (kE ⟨[],0,[],0⟩)<|⟨IntKind.wrap .i64 (v108+1),h,wk ⟨[],0,[],0⟩⟩) fun h=>zJ<|zF<|zD<|⟨(),sI h,wk ⟨[],0,[],0⟩⟩)) fun y99 h=>za<|rs [] [(2,qi 0)] (kE ⟨[],0,[],0⟩)<|zk<|by cases h; exact rt ⟨[],0,[],0⟩
def qB (n:Nat) (a0:Int):Option Int:=
 some (IntKind.wrap .i64 ((IntKind.wrap .i64 ((IntKind.wrap .i64 (Int.tdiv a0 4))-(IntKind.wrap .i64 (Int.tdiv a0 100))))+(IntKind.wrap .i64 (Int.tdiv a0 400))))
theorem gz {n:Nat} {a0:Int} {r:Int} (h:qB n a0=some r):AC mx 227 [qi a0] [] (qi r) []:=by
 delta qB at h
 exact fnc Tryz.func227 rfl<|za<|rs [] [(0,qi a0)] (kE ⟨[],0,[],0⟩)<|za<|rs [] [(2,qi (IntKind.wrap .i64 ((IntKind.wrap .i64 ((IntKind.wrap .i64 (Int.tdiv a0 4))-(IntKind.wrap .i64 (Int.tdiv a0 100))))+(IntKind.wrap .i64 (Int.tdiv a0 400)))))] (kE ⟨[],0,[],0⟩)<|zk<|by cases h; exact rt ⟨[],0,[],0⟩
def qy (n:Nat) (a0:Int):Option Int:=
 (qB n (IntKind.wrap .i64 (a0-1))).bind fun r1=>
 (qB n 1949).bind fun r2=>
 some (IntKind.wrap .i64 ((IntKind.wrap .i64 ((IntKind.wrap .i64 ((365:Int)*(IntKind.wrap .i64 (a0-1950))))+r1))-r2))
theorem kK {n:Nat} {a0:Int} {r:Int} (h:qy n a0=some r):AC mx 172 [qi a0] [] (qi r) []:=by
 delta qy at h
 exact fnc Tryz.func172 rfl<|za<|rs [] [(0,qi a0)] (kE ⟨[],0,[],0⟩)<|za<|rs [] [(0,qi a0),(3, .func (.func 227) [] [])] (kE ⟨[],0,[],0⟩)<|za<|bE h fun r1 hr1 h=>bE h fun r2 hr2 h=>rs [] [(2,qi (IntKind.wrap .i64 ((IntKind.wrap .i64 ((IntKind.wrap .i64 ((365:Int)*(IntKind.wrap .i64 (a0-1950))))+r1))-r2)))] (kC 6 ⟨[],0,[],0⟩ (gz hr1)<|kC 9 ⟨[],0,[],0⟩ (gz hr2)<|kE ⟨[],0,[],0⟩)<|zk<|by cases h; exact rt ⟨[],0,[],0⟩
def Zd (n:Nat) (a0:Int):Option Bool:=
 (if((Int.tmod a0 4)==0)=true then(if((Int.tmod a0 100) !=0)=true then(some true)else(some ((Int.tmod a0 400)==0)))else(some false)).bind fun y2=>
 some y2
theorem Vm {n:Nat} {a0:Int} {r:Bool} (h:Zd n a0=some r):AC mx 228 [qi a0] [] (qb r) []:=by
 delta Zd at h
 exact fnc Tryz.func228 rfl<|za<|rs [] [(0,qi a0)] (kE ⟨[],0,[],0⟩)<|za<|bE h fun y2 hE h=>reg ⟨16,[(2,qb y2)]⟩ ⟨[],[]⟩ (have h:=hE; gF 4 6 h (fun h=>gF 8 10 h (fun h=>by cases h; exact kE ⟨[],0,[],0⟩) fun h=>by cases h; exact kE ⟨[],0,[],0⟩) fun h=>by cases h; exact kE ⟨[],0,[],0⟩)<|zk<|by cases h; exact rt ⟨[],0,[],0⟩
def jv (n:Nat) (a0:Int) (a1:Int):Option Int:=
 (if(a1==2)=true then((Zd n a0).bind fun r1=>
 some r1)else(some false)).bind fun y3=>
 if y3=true then(some 29)else((kI 12 (IntKind.wrap .i64 (a1-1))).bind fun x4=>
 ((UG)[(0+x4*1)]?).bind fun x5=>
 some x5)
theorem qa {n:Nat} {a0:Int} {a1:Int} {r:Int} (h:jv n a0 a1=some r):AC mx 173 [qi a0,qi a1] [] (qi r) []:=by
 delta jv at h
 exact fnc Tryz.func173 rfl<|za<|rs [] [(0,qi a0),(1,qi a1)] (kE ⟨[],0,[],0⟩)<|za<|za<|bE h fun y3 hE h=>reg ⟨15,[(1,qi a1),(10,qb y3)]⟩ ⟨[],[]⟩ (have h:=hE; gF 3 7 h (fun h=>bE h fun r1 hr1 h=>kC 4 ⟨[],0,[],0⟩ (Vm hr1)<|by cases h; exact kE ⟨[],0,[],0⟩) fun h=>by cases h; exact kE ⟨[],0,[],0⟩)<|bF h (fun h=>za<|rs [] [(4,qi 29)] (kE ⟨[],0,[],0⟩)<|zk<|by cases h; exact rt ⟨[],0,[],0⟩) fun h=>zi<|za<|bE h fun x4 hx4 h=>bE h fun x5 hx5 h=>rs [] [(4,qi x5)] (kP 2 (cN (g:=0) (off:=0) (sz:=1) hx4)<|kP 3 (Bt (c:=vI .i64) (l:=UG) (off:=(0+x4*1)) hx5)<|kE ⟨[],0,[],0⟩)<|zk<|by cases h; exact rt ⟨[],0,[],0⟩
def jM (n:Nat) (a0:Int):Nat→Int→Option Int
 |0,_=>none
 | k+1,v11=>
  (qy n (IntKind.wrap .i64 (v11+1))).bind fun r13=>
  if(decide (r13≤(IntKind.wrap .i64 (Int.tdiv a0 86400))))=true then(jM n a0 k (IntKind.wrap .i64 (v11+1)))else(some v11)
def jK (n:Nat) (y8:Int):Nat→Int→Int→Option (Int×Int)
 |0,_,_=>none
 | k+1,v33,v34=>
  (jv n y8 v34).bind fun r38=>
  if(decide (v33≥r38))=true then((jv n y8 v34).bind fun r40=>
  jK n y8 k (IntKind.wrap .i64 (v33-r40)) (IntKind.wrap .i64 (v34+1)))else(some (v33,v34))
def pq (n:Nat) (a0:Int):Option (yz×Int):=
 (if(decide (a0<0))=true then(some true)else(some (decide (a0>254033452799)))).bind fun y2=>
 if y2=true then(some ((yz.mk 0 0 0 0 0 0),1))else((jM n a0 n (IntKind.wrap .i64 ((1950:Int)+(IntKind.wrap .i64 (Int.tdiv (IntKind.wrap .i64 (Int.tdiv a0 86400)) 366))))).bind fun y8=>
 (qy n y8).bind fun r14=>
 (jK n y8 n (IntKind.wrap .i64 ((IntKind.wrap .i64 (Int.tdiv a0 86400))-r14)) 1).bind fun y28=>
 some ((yz.mk y8 y28.2 (IntKind.wrap .i64 (y28.1+1)) (IntKind.wrap .i64 (Int.tdiv (Int.tmod a0 86400) 3600)) (Int.tmod (IntKind.wrap .i64 (Int.tdiv (Int.tmod a0 86400) 60)) 60) (Int.tmod (Int.tmod a0 86400) 60)),0))
theorem Wy {n:Nat} {a0:Int} {r:(yz×Int)} (h:pq n a0=some r):AC mx 113 [qi a0] [] (.tuple [.agg (yz.cells r.1),qi r.2]) []:=by
 delta pq at h
 exact fnc Tryz.func113 rfl<|za<|rm [] [(0,qi a0),(2,qp 0)] ⟨[[qi 0,qi 0,qi 0,qi 0,qi 0,qi 0]],[]⟩ (kE ⟨[0],1,[],0⟩)<|za<|za<|bE h fun y2 hE h=>reg ⟨57,[(0,qi a0),(2,qp 0),(13,qb y2)]⟩ ⟨[[qi 0,qi 0,qi 0,qi 0,qi 0,qi 0]],[]⟩ (have h:=hE; gF 3 10 h (fun h=>by cases h; exact kE ⟨[0],1,[],0⟩) fun h=>by cases h; exact kE ⟨[0],1,[],0⟩)<|bF h (fun h=>za<|rs [] [(2,qp 0),(3,qi 1)] (kE ⟨[0],1,[],0⟩)<|zk<|by cases h; exact rt ⟨[],1,[],0⟩) fun h=>zi<|za<|rs [] [(2,qp 0),(4,qi (IntKind.wrap .i64 (Int.tdiv a0 86400))),(5,qi (Int.tmod a0 86400))] (kE ⟨[0],1,[],0⟩)<|za<|rs [4,5] [(2,qp 0),(6,qi (IntKind.wrap .i64 ((1950:Int)+(IntKind.wrap .i64 (Int.tdiv (IntKind.wrap .i64 (Int.tdiv a0 86400)) 366)))))] (kE ⟨[0],1,[],0⟩)<|za<|blE h (fun y8=>⟨57,[(2,qp 0),(4,qi (IntKind.wrap .i64 (Int.tdiv a0 86400))),(5,qi (Int.tmod a0 86400)),(6,qi y8)]⟩) (fun y8=>⟨[[qi 0,qi 0,qi 0,qi 0,qi 0,qi 0]],[]⟩) (fun y8 h=>zS (X:=Int) (fun x=>⟨57,[(2,qp 0),(4,qi (IntKind.wrap .i64 (Int.tdiv a0 86400))),(5,qi (Int.tmod a0 86400)),(6,qi x)]⟩) (fun x=>⟨[[qi 0,qi 0,qi 0,qi 0,qi 0,qi 0]],[]⟩) (fun k x=>jM n a0 k x=some y8) (fun _ hx=>by simp [jM]at hx) n (IntKind.wrap .i64 ((1950:Int)+(IntKind.wrap .i64 (Int.tdiv (IntKind.wrap .i64 (Int.tdiv a0 86400)) 366)))) h (wk ⟨[0],1,[],0⟩) (fun k x h=>by revert h; revert x; intro v11 h; rw [jM]at h; exact za<|za<|bE h fun r13 hr13 h=>rs [4,5] [(2,qp 0),(6,qi v11),(26,qb (decide (r13≤(IntKind.wrap .i64 (Int.tdiv a0 86400)))))] (kC 2 ⟨[],1,[],0⟩ (kK hr13)<|kE ⟨[0],1,[],0⟩)<|bF h (fun h=>zi<|zB<|rsN (qm (P:=Tryz.prog) (gl:=gl0 mx) zw) [4,5] [(2,qp 0),(6,qi (IntKind.wrap .i64 (v11+1)))] (kE ⟨[0],1,[],0⟩)<|zC<|⟨IntKind.wrap .i64 (v11+1),h,wk ⟨[0],1,[],0⟩⟩) fun h=>zJ<|zF<|zD<|⟨v11,sI h,wk ⟨[0],1,[],0⟩⟩)) fun y8 h=>za<|bE h fun r14 hr14 h=>rs [5] [(2,qp 0),(4,qi (IntKind.wrap .i64 ((IntKind.wrap .i64 (Int.tdiv a0 86400))-r14))),(6,qi y8)] (kC 2 ⟨[],1,[],0⟩ (kK hr14)<|kE ⟨[0],1,[],0⟩)<|za<|rs [4,5] [(2,qp 0),(6,qi y8),(7,qi 1)] (kE ⟨[0],1,[],0⟩)<|za<|blE h (fun y28=>⟨57,[(2,qp 0),(4,qi y28.1),(5,qi (Int.tmod a0 86400)),(6,qi y8),(7,qi y28.2)]⟩) (fun y28=>⟨[[qi 0,qi 0,qi 0,qi 0,qi 0,qi 0]],[]⟩) (fun y28 h=>zS (X:=(Int×Int)) (fun x=>⟨57,[(2,qp 0),(4,qi x.1),(5,qi (Int.tmod a0 86400)),(6,qi y8),(7,qi x.2)]⟩) (fun x=>⟨[[qi 0,qi 0,qi 0,qi 0,qi 0,qi 0]],[]⟩) (fun k x=>jK n y8 k x.1 x.2=some y28) (fun _ hx=>by simp [jK]at hx) n (IntKind.wrap .i64 ((IntKind.wrap .i64 (Int.tdiv a0 86400))-r14),1) h (wk ⟨[0],1,[],0⟩) (fun k x h=>by obtain⟨v33,v34⟩:=x; rw [jK]at h; exact za<|za<|bE h fun r38 hr38 h=>rs [5] [(2,qp 0),(4,qi v33),(6,qi y8),(7,qi v34),(37,qb (decide (v33≥r38)))] (kC 3 ⟨[],1,[],0⟩ (qa hr38)<|kE ⟨[0],1,[],0⟩)<|bF h (fun h=>zi<|zB<|za<|bE h fun r40 hr40 h=>rs [5] [(2,qp 0),(4,qi (IntKind.wrap .i64 (v33-r40))),(6,qi y8),(7,qi v34)] (kC 3 ⟨[],1,[],0⟩ (qa hr40)<|kE ⟨[0],1,[],0⟩)<|rsN (qm (P:=Tryz.prog) (gl:=gl0 mx) zw) [4,5] [(2,qp 0),(6,qi y8),(7,qi (IntKind.wrap .i64 (v34+1)))] (kE ⟨[0],1,[],0⟩)<|zC<|⟨(IntKind.wrap .i64 (v33-r40),IntKind.wrap .i64 (v34+1)),h,wk ⟨[0],1,[],0⟩⟩) fun h=>zJ<|zF<|zD<|⟨(v33,v34),sI h,wk ⟨[0],1,[],0⟩⟩)) fun y28 h=>za<|rm [] [(2,qp 0),(3,qi 0)] ⟨[[qi y8,qi y28.2,qi (IntKind.wrap .i64 (y28.1+1)),qi (IntKind.wrap .i64 (Int.tdiv (Int.tmod a0 86400) 3600)),qi (Int.tmod (IntKind.wrap .i64 (Int.tdiv (Int.tmod a0 86400) 60)) 60),qi (Int.tmod (Int.tmod a0 86400) 60)]],[]⟩ (kE ⟨[0],1,[],0⟩)<|zk<|by cases h; exact rt ⟨[],1,[],0⟩
def qo (n:Nat) (a2:Int):Nat→Nat→Int→(List Int)→Option (Nat×(List Int))
 |0,_,_,_=>none
 | k+1,v16,v17,v18=>
  if(decide (v17<a2))=true then((Wa 1 v16 v18 ([48]:List Int)).bind fun x22=>
  qo n a2 k (v16+List.length ([48]:List Int)) (IntKind.wrap .i64 (v17+1)) x22)else(some (v16,v18))
def qh (n:Nat) (y12:(Nat×(List Int))):Nat→Int→Int→(List Int)→Option (List Int)
 |0,_,_,_=>none
 | k+1,v45,v46,v47=>
  if(decide (v46≥((0:Nat):Int)))=true then((kI y12.1 v46).bind fun x54=>
  (Z5 v47 (x54*1) (IntKind.wrap .u8 (IntKind.wrap .i64 ((48:Int)+(Int.tmod v45 10))))).bind fun x55=>
  qh n y12 k (IntKind.wrap .i64 (Int.tdiv v45 10)) (IntKind.wrap .i64 (v46-1)) x55)else(some v47)
def dL (n:Nat) (a1:Int) (a2:Int):Option (Nat×(List Int)):=
 (qo n a2 n 0 0 ([]:List Int)).bind fun y12=>
 (qh n y12 n a1 (IntKind.wrap .i64 (((y12.1:Nat):Int)-1)) y12.2).bind fun y39=>
 some (y12.1,y39)
theorem ZN {n:Nat} {a1:Int} {a2:Int} {r:(Nat×(List Int))} (h:dL n a1 a2=some r):AC mx 114 [qn,qi a1,qi a2] [] (.own 0 r.1 1) [[.buf (List.map (vI .u8) r.2)]]:=by
 delta dL at h
 exact fnc Tryz.func114 rfl<|vK (Wk.nilO 0 0 1 (by kernel_rfl))<|vK (wk (fr':=⟨38,[(0, .own 0 0 1),(1,qi a1),(2,qi a2)]⟩) (st':=⟨[[.buf (List.map (vI .u8) ([]:List Int))]],[]⟩) ⟨[0],1,[],0⟩)<|za<|rs [0] [(1,qi a1),(2,qi a2)] (kE ⟨[0],1,[],0⟩)<|za<|rs [0] [(1,qi a1),(2,qi a2),(7,qi ((0:Nat):Int))] (kE ⟨[0],1,[],0⟩)<|za<|za<|rs [0,7] [(1,qi a1),(2,qi a2),(8,qi 0)] (kE ⟨[0],1,[],0⟩)<|blE h (fun y12=>⟨38,[(0, .own 0 y12.1 1),(1,qi a1),(7,qi ((0:Nat):Int))]⟩) (fun y12=>⟨[[.buf (List.map (vI .u8) y12.2)]],[]⟩) (fun y12 h=>zS (X:=(Nat×Int×(List Int))) (fun x=>⟨38,[(0, .own 0 x.1 1),(1,qi a1),(2,qi a2),(7,qi ((0:Nat):Int)),(8,qi x.2.1)]⟩) (fun x=>⟨[[.buf (List.map (vI .u8) x.2.2)]],[]⟩) (fun k x=>qo n a2 k x.1 x.2.1 x.2.2=some y12) (fun _ hx=>by simp [qo]at hx) n (0,0,([]:List Int)) h (wk ⟨[0],1,[],0⟩) (fun k x h=>by obtain⟨v16,v17,v18⟩:=x; rw [qo]at h; exact za<|za<|rs [0,7] [(1,qi a1),(2,qi a2),(8,qi v17),(14,qb (decide (v17<a2)))] (kE ⟨[0],1,[],0⟩)<|bF h (fun h=>zi<|za<|zB<|bE h fun x22 hx22 h=>rmN zR [7] [(0, .own 0 (v16+List.length ([48]:List Int)) 1),(1,qi a1),(2,qi a2),(8,qi v17)] ⟨[[.buf (List.map (vI .u8) x22)]],[]⟩ (kV 2 1 0 0 (WR (T:=tyT) (c:=(vI .u8)) (l:=v18) (l2:=([48]:List Int)) (n:=v16) (e:=5) (e2:=5) (bytes:=1) (b2:=1) (tok2:= .exact) (by kernel_rfl) hx22)<|kE ⟨[1],2,[],0⟩)<|zC<|rsN zw [0,7] [(1,qi a1),(2,qi a2),(8,qi (IntKind.wrap .i64 (v17+1)))] (kE ⟨[0],1,[],0⟩)<|⟨(v16+List.length ([48]:List Int),IntKind.wrap .i64 (v17+1),x22),h,wk ⟨[0],1,[],0⟩⟩) fun h=>zJ<|zF<|zD<|⟨(v16,v18),sI h,wk ⟨[0],1,[],0⟩⟩)) fun y12 h=>za<|za<|rs [0,7] [(1,qi a1),(9,qi (IntKind.wrap .i64 (((y12.1:Nat):Int)-1)))] (kE ⟨[0],1,[],0⟩)<|blE h (fun y39=>⟨38,[(0, .own 0 y12.1 1)]⟩) (fun y39=>⟨[[.buf (List.map (vI .u8) y39)]],[]⟩) (fun y39 h=>zS (X:=(Int×Int×(List Int))) (fun x=>⟨38,[(0, .own 0 y12.1 1),(1,qi x.1),(7,qi ((0:Nat):Int)),(9,qi x.2.1)]⟩) (fun x=>⟨[[.buf (List.map (vI .u8) x.2.2)]],[]⟩) (fun k x=>qh n y12 k x.1 x.2.1 x.2.2=some y39) (fun _ hx=>by simp [qh]at hx) n (a1,IntKind.wrap .i64 (((y12.1:Nat):Int)-1),y12.2) h (wk ⟨[0],1,[],0⟩) (fun k x h=>by obtain⟨v45,v46,v47⟩:=x; rw [qh]at h; exact za<|za<|rs [0,7] [(1,qi v45),(9,qi v46),(25,qb (decide (v46≥((0:Nat):Int))))] (kE ⟨[0],1,[],0⟩)<|bF h (fun h=>zi<|za<|zB<|za<|bE h fun x54 hx54 h=>bE h fun x55 hx55 h=>rm [0,7] [(1,qi v45),(9,qi v46)] ⟨[[.buf (List.map (vI .u8) x55)]],[]⟩ (kP 6 (dm (id:=0) (e:=5) (sz:=1) (b:=1) hx54)<|kV 7 1 0 0 (jW (T:=tyT) (t:=5) (c:=(vI .u8)) (l:=v47) (off:=(x54*1)) (x:=IntKind.wrap .u8 (IntKind.wrap .i64 ((48:Int)+(Int.tmod v45 10)))) (uI .u8) (by kernel_rfl) hx55)<|kE ⟨[0],1,[],0⟩)<|rsN zR [0,7] [(1,qi (IntKind.wrap .i64 (Int.tdiv v45 10))),(9,qi v46)] (kE ⟨[0],1,[],0⟩)<|zC<|rsN zw [0,1,7] [(9,qi (IntKind.wrap .i64 (v46-1)))] (kE ⟨[0],1,[],0⟩)<|⟨(IntKind.wrap .i64 (Int.tdiv v45 10),IntKind.wrap .i64 (v46-1),x55),h,wk ⟨[0],1,[],0⟩⟩) fun h=>zJ<|zF<|zD<|⟨v47,sI h,wk ⟨[0],1,[],0⟩⟩)) fun y39 h=>za<|rs [] [(6, .own 0 y12.1 1)] (kE ⟨[0],1,[],0⟩)<|zk<|by cases h; exact rt ⟨[0],1,[],0⟩
def ju (n:Nat) (a2:Int):Nat→Nat→Int→(List Int)→Option (Nat×(List Int))
 |0,_,_,_=>none
 | k+1,v16,v17,v18=>
  if(decide (v17<a2))=true then((Wa 1 v16 v18 ([48]:List Int)).bind fun x22=>
  ju n a2 k (v16+List.length ([48]:List Int)) (IntKind.wrap .i64 (v17+1)) x22)else(some (v16,v18))
def jL (n:Nat) (a0:Nat) (y12:(Nat×(List Int))):Nat→Int→Int→(List Int)→Option (List Int)
 |0,_,_,_=>none
 | k+1,v45,v46,v47=>
  if(decide (v46≥((a0:Nat):Int)))=true then((kI y12.1 v46).bind fun x54=>
  (Z5 v47 (x54*1) (IntKind.wrap .u8 (IntKind.wrap .i64 ((48:Int)+(Int.tmod v45 10))))).bind fun x55=>
  jL n a0 y12 k (IntKind.wrap .i64 (Int.tdiv v45 10)) (IntKind.wrap .i64 (v46-1)) x55)else(some v47)
def pA (n:Nat) (a0:Nat) (a1:Int) (a2:Int) (m0:(List Int)):Option (Nat×(List Int)):=
 (ju n a2 n a0 0 m0).bind fun y12=>
 (jL n a0 y12 n a1 (IntKind.wrap .i64 (((y12.1:Nat):Int)-1)) y12.2).bind fun y39=>
 some (y12.1,y39)
theorem WV {n:Nat} {a0:Nat} {a1:Int} {a2:Int} {m0:(List Int)} {r:(Nat×(List Int))} (h:pA n a0 a1 a2 m0=some r):AC mx 114 [.own 0 a0 1,qi a1,qi a2] [[.buf (List.map (vI .u8) m0)]] (.own 1 r.1 1) [[],[.buf (List.map (vI .u8) r.2)]]:=by
 delta pA at h
 exact fnc Tryz.func114 rfl<|vK (Wk.mov (cells:= [.buf (List.map (vI .u8) m0)]) 0 0 a0 1 1 (by kernel_rfl))<|vK (wk (fr':=⟨38,[(0, .own 1 a0 1),(1,qi a1),(2,qi a2)]⟩) (st':=⟨[[],[.buf (List.map (vI .u8) m0)]],[]⟩) ⟨[0,1],2,[],0⟩)<|za<|rs [0] [(1,qi a1),(2,qi a2)] (kE ⟨[0,1],2,[],0⟩)<|za<|rs [0] [(1,qi a1),(2,qi a2),(7,qi ((a0:Nat):Int))] (kE ⟨[0,1],2,[],0⟩)<|za<|za<|rs [0,7] [(1,qi a1),(2,qi a2),(8,qi 0)] (kE ⟨[0,1],2,[],0⟩)<|blE h (fun y12=>⟨38,[(0, .own 1 y12.1 1),(1,qi a1),(7,qi ((a0:Nat):Int))]⟩) (fun y12=>⟨[[],[.buf (List.map (vI .u8) y12.2)]],[]⟩) (fun y12 h=>zS (X:=(Nat×Int×(List Int))) (fun x=>⟨38,[(0, .own 1 x.1 1),(1,qi a1),(2,qi a2),(7,qi ((a0:Nat):Int)),(8,qi x.2.1)]⟩) (fun x=>⟨[[],[.buf (List.map (vI .u8) x.2.2)]],[]⟩) (fun k x=>ju n a2 k x.1 x.2.1 x.2.2=some y12) (fun _ hx=>by simp [ju]at hx) n (a0,0,m0) h (wk ⟨[0,1],2,[],0⟩) (fun k x h=>by obtain⟨v16,v17,v18⟩:=x; rw [ju]at h; exact za<|za<|rs [0,7] [(1,qi a1),(2,qi a2),(8,qi v17),(14,qb (decide (v17<a2)))] (kE ⟨[0,1],2,[],0⟩)<|bF h (fun h=>zi<|za<|zB<|bE h fun x22 hx22 h=>rmN zR [7] [(0, .own 1 (v16+List.length ([48]:List Int)) 1),(1,qi a1),(2,qi a2),(8,qi v17)] ⟨[[],[.buf (List.map (vI .u8) x22)]],[]⟩ (kV 2 2 0 1 (WR (T:=tyT) (c:=(vI .u8)) (l:=v18) (l2:=([48]:List Int)) (n:=v16) (e:=5) (e2:=5) (bytes:=1) (b2:=1) (tok2:= .exact) (by kernel_rfl) hx22)<|kE ⟨[0,2],3,[],0⟩)<|zC<|rsN zw [0,7] [(1,qi a1),(2,qi a2),(8,qi (IntKind.wrap .i64 (v17+1)))] (kE ⟨[0,1],2,[],0⟩)<|⟨(v16+List.length ([48]:List Int),IntKind.wrap .i64 (v17+1),x22),h,wk ⟨[0,1],2,[],0⟩⟩) fun h=>zJ<|zF<|zD<|⟨(v16,v18),sI h,wk ⟨[0,1],2,[],0⟩⟩)) fun y12 h=>za<|za<|rs [0,7] [(1,qi a1),(9,qi (IntKind.wrap .i64 (((y12.1:Nat):Int)-1)))] (kE ⟨[0,1],2,[],0⟩)<|blE h (fun y39=>⟨38,[(0, .own 1 y12.1 1)]⟩) (fun y39=>⟨[[],[.buf (List.map (vI .u8) y39)]],[]⟩) (fun y39 h=>zS (X:=(Int×Int×(List Int))) (fun x=>⟨38,[(0, .own 1 y12.1 1),(1,qi x.1),(7,qi ((a0:Nat):Int)),(9,qi x.2.1)]⟩) (fun x=>⟨[[],[.buf (List.map (vI .u8) x.2.2)]],[]⟩) (fun k x=>jL n a0 y12 k x.1 x.2.1 x.2.2=some y39) (fun _ hx=>by simp [jL]at hx) n (a1,IntKind.wrap .i64 (((y12.1:Nat):Int)-1),y12.2) h (wk ⟨[0,1],2,[],0⟩) (fun k x h=>by obtain⟨v45,v46,v47⟩:=x; rw [jL]at h; exact za<|za<|rs [0,7] [(1,qi v45),(9,qi v46),(25,qb (decide (v46≥((a0:Nat):Int))))] (kE ⟨[0,1],2,[],0⟩)<|bF h (fun h=>zi<|za<|zB<|za<|bE h fun x54 hx54 h=>bE h fun x55 hx55 h=>rm [0,7] [(1,qi v45),(9,qi v46)] ⟨[[],[.buf (List.map (vI .u8) x55)]],[]⟩ (kP 6 (dm (id:=1) (e:=5) (sz:=1) (b:=1) hx54)<|kV 7 2 0 1 (jW (T:=tyT) (t:=5) (c:=(vI .u8)) (l:=v47) (off:=(x54*1)) (x:=IntKind.wrap .u8 (IntKind.wrap .i64 ((48:Int)+(Int.tmod v45 10)))) (uI .u8) (by kernel_rfl) hx55)<|kE ⟨[0,1],2,[],0⟩)<|rsN zR [0,7] [(1,qi (IntKind.wrap .i64 (Int.tdiv v45 10))),(9,qi v46)] (kE ⟨[0,1],2,[],0⟩)<|zC<|rsN zw [0,1,7] [(9,qi (IntKind.wrap .i64 (v46-1)))] (kE ⟨[0,1],2,[],0⟩)<|⟨(IntKind.wrap .i64 (Int.tdiv v45 10),IntKind.wrap .i64 (v46-1),x55),h,wk ⟨[0,1],2,[],0⟩⟩) fun h=>zJ<|zF<|zD<|⟨v47,sI h,wk ⟨[0,1],2,[],0⟩⟩)) fun y39 h=>za<|rs [] [(6, .own 1 y12.1 1)] (kE ⟨[0,1],2,[],0⟩)<|zk<|by cases h; exact rt ⟨[0,1],2,[],0⟩
def ud (n:Nat) (a1:(List (List UInt8))):Nat→Int→Int→Option (Ctl ((List UInt8)×Int) Int)
 |0,_,_=>none
 | k+1,v17,v18=>
  if(decide (v18<(List.length a1:Int)))=true then((z6 a1 v18).bind fun x22=>
  if(decide ((List.length x22:Int)>(IntKind.wrap .i64 ((131072:Int)-v17))))=true then(some (.ret (([]:List UInt8),6)))else(ud n a1 k (IntKind.wrap .i64 (v17+(List.length x22:Int))) (IntKind.wrap .i64 (v18+1))))else(some (.nxt v17))
def xy (n:Nat) (a0:Int) (a1:(List (List UInt8))):Option ((List UInt8)×Int):=
 (if(decide (a0<0))=true then(some true)else(if(decide (a0>255))=true then(some true)else(some ((wq .i64 a0 31)==31)))).bind fun y2=>
 if y2=true then(some (([]:List UInt8),5))else(xJ (ud n a1 n 0 0) (fun r=>some r) (fun y12=>
 (if(decide (y12<128))=true then((kW 1 ([IntKind.wrap .u8 a0]:List Int) ([IntKind.wrap .u8 y12]:List Int)).bind fun x34=>
 some x34)else(if(decide (y12<256))=true then((kW 1 ([IntKind.wrap .u8 a0]:List Int) ([129,IntKind.wrap .u8 y12]:List Int)).bind fun x35=>
 some x35)else(if(decide (y12<65536))=true then((kW 1 ([IntKind.wrap .u8 a0]:List Int) ([130,IntKind.wrap .u8 (Int.fdiv y12 256),IntKind.wrap .u8 y12]:List Int)).bind fun x36=>
 some x36)else((kW 1 ([IntKind.wrap .u8 a0]:List Int) ([131,IntKind.wrap .u8 (Int.fdiv y12 65536),IntKind.wrap .u8 (Int.fdiv y12 256),IntKind.wrap .u8 y12]:List Int)).bind fun x37=>
 some x37)))).bind fun y32=>
 (dY n a1 ([]:List UInt8)).bind fun r38=>
 (dt (b2s y32) r38).bind fun x39=>
 some (x39,0)))
theorem xA {n:Nat} {a0:Int} {a1:(List (List UInt8))} {r:((List UInt8)×Int)} (h:xy n a0 a1=some r):AC mx 115 [qi a0,ql 1 cS a1] [] (.tuple [qs r.1,qi r.2]) []:=by
 delta xy at h
 exact fnc Tryz.func115 rfl<|za<|rs [1] [(0,qi a0)] (kE ⟨[],0,[],0⟩)<|za<|za<|bE h fun y2 hE h=>reg ⟨83,[(0,qi a0),(1,ql 1 cS a1),(20,qb y2)]⟩ ⟨[],[]⟩ (have h:=hE; gF 3 12 h (fun h=>by cases h; exact kE ⟨[],0,[],0⟩) fun h=>gF 7 16 h (fun h=>by cases h; exact kE ⟨[],0,[],0⟩) fun h=>by cases h; exact kE ⟨[],0,[],0⟩)<|bF h (fun h=>za<|rs [] [(4,qs ([]:List UInt8)),(5,qi 5)] (kE ⟨[],0,[],0⟩)<|zk<|by cases h; exact rt ⟨[],0,[],0⟩) fun h=>zi<|za<|rs [1] [(0,qi a0),(6,qi 0)] (kE ⟨[],0,[],0⟩)<|za<|za<|rs [1] [(0,qi a0),(6,qi 0),(21,ql 1 cS a1),(22,qi (List.length a1:Int)),(23,qi 0)] (kP 1 (ya (c:=cS) (l:=a1) (e:=9) (sz:=1) (sz':=1) (b:=16) (tok:= .none))<|kE ⟨[],0,[],0⟩)<|blC h (fun y12=>⟨83,[(0,qi a0),(1,ql 1 cS a1),(6,qi y12)]⟩) (fun y12=>⟨[],[]⟩) (fun o13 h hr14=>zS (X:=(Int×Int)) (fun x=>⟨83,[(0,qi a0),(1,ql 1 cS a1),(6,qi x.1),(21,ql 1 cS a1),(22,qi (List.length a1:Int)),(23,qi x.2)]⟩) (fun x=>⟨[],[]⟩) (fun k x=>ud n a1 k x.1 x.2=some o13) (fun _ hx=>by simp [ud]at hx) n (0,0) h (wk ⟨[],0,[],0⟩) (fun k x h=>by obtain⟨v17,v18⟩:=x; rw [ud]at h; exact za<|rs [1,21,22] [(0,qi a0),(6,qi v17),(23,qi v18),(24,qb (decide (v18<(List.length a1:Int))))] (kE ⟨[],0,[],0⟩)<|za<|bF h (fun h=>zi<|za<|zB<|za<|bE h fun x22 hx22 h=>rs [1,21,22] [(0,qi a0),(6,qi v17),(8,qs x22),(23,qi v18)] (kP 0 (zx (c:=cS) (e:=9) (sz:=1) (b:=16) (tok:= .none) hx22)<|kE ⟨[],0,[],0⟩)<|za<|za<|rs [1,21,22] [(0,qi a0),(6,qi v17),(8,qs x22),(23,qi v18),(31,qb (decide ((List.length x22:Int)>(IntKind.wrap .i64 ((131072:Int)-v17)))))] (kE ⟨[],0,[],0⟩)<|bF h (fun h=>za<|rs [] [(4,qs ([]:List UInt8)),(5,qi 6)] (kE ⟨[],0,[],0⟩)<|zk<|zU<|ym<|have h:=hr14 _ (sI h); yj<|by cases h; exact rt ⟨[],0,[],0⟩) fun h=>zi<|rsN zR [1,21,22] [(0,qi a0),(6,qi (IntKind.wrap .i64 (v17+(List.length x22:Int)))),(23,qi v18)] (kE ⟨[],0,[],0⟩)<|zC<|rsN zw [1,6,21,22] [(0,qi a0),(23,qi (IntKind.wrap .i64 (v18+1)))] (kE ⟨[],0,[],0⟩)<|⟨(IntKind.wrap .i64 (v17+(List.length x22:Int)),IntKind.wrap .i64 (v18+1)),h,wk ⟨[],0,[],0⟩⟩) fun h=>zJ<|zF<|zD<|⟨v17,sI h,wk ⟨[],0,[],0⟩⟩)) fun y12 h=>za<|rs [1] [(6,qi y12),(9, .sl 1 (List.map (cI .u8) ([IntKind.wrap .u8 a0]:List Int)) .exact)] (kE ⟨[],0,[],0⟩)<|za<|blE h (fun y32=>⟨83,[(1,ql 1 cS a1),(9, .sl 1 (List.map (cI .u8) y32) (.fam 0 (List.length y32)))]⟩) (fun y32=>⟨[],[List.length y32]⟩) (fun y32 h=>za<|rs [1,9] [(6,qi y12),(51,qb (decide (y12<128)))] (kE ⟨[],0,[],0⟩)<|bF h (fun h=>bE h fun x34 hx34 h=>rmN yu [1] [(9, .sl 1 (List.map (cI .u8) x34) (.fam 0 (List.length x34)))] ⟨[],[List.length x34]⟩ (kV 4 0 0 0 (ZR (T:=tyT) (c:=(cI .u8)) (e:=5) (e2:=5) (sz:=1) (bytes:=1) (b2:=1) (tok2:= .exact) (cell:=none) (by kernel_rfl) hx34)<|kE ⟨[],0,[0],1⟩)<|⟨x34,sI h,wk ⟨[],0,[0],1⟩⟩) fun h=>za<|rs [1,9] [(6,qi y12),(59,qb (decide (y12<256)))] (kE ⟨[],0,[],0⟩)<|bF h (fun h=>bE h fun x35 hx35 h=>rmN yu [1] [(9, .sl 1 (List.map (cI .u8) x35) (.fam 0 (List.length x35)))] ⟨[],[List.length x35]⟩ (kV 4 0 0 0 (ZR (T:=tyT) (c:=(cI .u8)) (e:=5) (e2:=5) (sz:=1) (bytes:=1) (b2:=1) (tok2:= .exact) (cell:=none) (by kernel_rfl) hx35)<|kE ⟨[],0,[0],1⟩)<|⟨x35,sI h,wk ⟨[],0,[0],1⟩⟩) fun h=>za<|rs [1,9] [(6,qi y12),(67,qb (decide (y12<65536)))] (kE ⟨[],0,[],0⟩)<|bF h (fun h=>bE h fun x36 hx36 h=>rmN yu [1] [(9, .sl 1 (List.map (cI .u8) x36) (.fam 0 (List.length x36)))] ⟨[],[List.length x36]⟩ (kV 7 0 0 0 (ZR (T:=tyT) (c:=(cI .u8)) (e:=5) (e2:=5) (sz:=1) (bytes:=1) (b2:=1) (tok2:= .exact) (cell:=none) (by kernel_rfl) hx36)<|kE ⟨[],0,[0],1⟩)<|⟨x36,sI h,wk ⟨[],0,[0],1⟩⟩) fun h=>bE h fun x37 hx37 h=>rmN yu [1] [(9, .sl 1 (List.map (cI .u8) x37) (.fam 0 (List.length x37)))] ⟨[],[List.length x37]⟩ (kV 10 0 0 0 (ZR (T:=tyT) (c:=(cI .u8)) (e:=5) (e2:=5) (sz:=1) (bytes:=1) (b2:=1) (tok2:= .exact) (cell:=none) (by kernel_rfl) hx37)<|kE ⟨[],0,[0],1⟩)<|⟨x37,sI h,wk ⟨[],0,[0],1⟩⟩) fun y32 h=>za<|bE h fun r38 hr38 h=>bE h fun x39 hx39 h=>zm [0,1,2,3,4,5,6] [3] [[],[0],[],[2],[0,1,2,3],[0,1,2,3,4],[0,1,2,3,4,5]] [] [(4,qs x39),(5,qi 0)] ⟨[],[]⟩ (dS [0]<|dP (BX y32)<|dS [2]<|dC (zN 1 (BX y32) yP) ⟨[],0,[],1⟩ (Us hr38)<|dP (gy (d:=(tyT 9).d) hx39)<|dS [5,6]<|dE ⟨[],0,[],1⟩)<|zk<|by cases h; exact rt ⟨[],0,[],0⟩
def jd (n:Nat) (r1:(yz×Int)):Nat→Nat→Int→(List Int)→Option (Nat×(List Int))
 |0,_,_,_=>none
 | k+1,v33,v34,v35=>
  if(decide (v34<(List.length ([r1.1.j9,r1.1.dO,r1.1.bz,r1.1.jw,r1.1.jz]:List Int):Int)))=true then((z6 ([r1.1.j9,r1.1.dO,r1.1.bz,r1.1.jw,r1.1.jz]:List Int) v34).bind fun x42=>
  (pA n v33 x42 2 v35).bind fun r43=>
  jd n r1 k r43.1 (IntKind.wrap .i64 (v34+1)) r43.2)else(some (v33,v35))
def uY (n:Nat) (a0:Int):Option ((List UInt8)×Int):=
 (pq n a0).bind fun r1=>
 if(r1.2 !=0)=true then(some (([]:List UInt8),r1.2))else((dL n (Int.tmod r1.1.po 100) 2).bind fun r2=>
 (if(decide (r1.1.po≥2050))=true then((dL n r1.1.po 4).bind fun r9=>
 some (24,r9.1,r9.2))else(some (23,r2.1,r2.2))).bind fun y7=>
 (jd n r1 n y7.2.1 0 y7.2.2).bind fun y27=>
 (Jk y27.1 y27.2).bind fun x44=>
 (xy n y7.1 ([x44,([90]:List UInt8)]:List (List UInt8))).bind fun r45=>
 some (r45.1,r45.2))
theorem Xt {n:Nat} {a0:Int} {r:((List UInt8)×Int)} (h:uY n a0=some r):AC mx 44 [qi a0] [] (.tuple [qs r.1,qi r.2]) []:=by
 delta uY at h
 exact fnc Tryz.func44 rfl<|za<|rs [] [(0,qi a0)] (kE ⟨[],0,[],0⟩)<|za<|bE h fun r1 hr1 h=>rm [] [(4,qp 0),(5,qi r1.2)] ⟨[yz.cells r1.1],[]⟩ (kC 1 ⟨[],0,[],0⟩ (Wy hr1)<|kE ⟨[0],1,[],0⟩)<|za<|za<|rs [5] [(4,qp 0),(16,qb (r1.2 !=0))] (kE ⟨[0],1,[],0⟩)<|bF h (fun h=>za<|rm [] [(2,qs ([]:List UInt8)),(3,qi r1.2)] ⟨[],[]⟩ (kE ⟨[],1,[],0⟩)<|zk<|by cases h; exact rt ⟨[],0,[],0⟩) fun h=>zi<|za<|rs [] [(4,qp 0),(6,qi 23)] (kE ⟨[0],1,[],0⟩)<|za<|bE h fun r2 hr2 h=>rm [] [(4,qp 0),(6,qi 23),(7, .own 1 r2.1 1)] ⟨[yz.cells r1.1,[.buf (List.map (vI .u8) r2.2)]],[]⟩ (kC 3 ⟨[],1,[],0⟩ (ZN hr2)<|kE ⟨[0,1],2,[],0⟩)<|za<|za<|rs [7] [(4,qp 0),(6,qi 23),(24,qb (decide (r1.1.po≥2050)))] (kE ⟨[0,1],2,[],0⟩)<|cuE h (fun y7=>⟨55,[(4,qp 0),(6,qi y7.1),(7, .own 1 y7.2.1 1)]⟩) (fun y7=>⟨[yz.cells r1.1,[.buf (List.map (vI .u8) y7.2.2)]],[]⟩) (fun y7 h=>bF h (fun h=>za<|rm [] [(4,qp 0),(6,qi 24)] ⟨[yz.cells r1.1],[]⟩ (kE ⟨[0],2,[],0⟩)<|bE h fun r9 hr9 h=>rmN zw [] [(4,qp 0),(6,qi 24),(7, .own 1 r9.1 1)] ⟨[yz.cells r1.1,[.buf (List.map (vI .u8) r9.2)]],[]⟩ (kC 2 ⟨[],1,[],0⟩ (ZN hr9)<|kE ⟨[0,1],2,[],0⟩)<|⟨(24,r9.1,r9.2),sI h,wk ⟨[0,1],2,[],0⟩⟩) fun h=>zi<|⟨(23,r2.1,r2.2),sI h,wk ⟨[0,1],2,[],0⟩⟩) fun y7 h=>za<|za<|rm [6] [(7, .own 0 y7.2.1 1),(38, .sl 1 (List.map (cI .i64) ([r1.1.j9,r1.1.dO,r1.1.bz,r1.1.jw,r1.1.jz]:List Int)) .exact),(39,qi (List.length ([r1.1.j9,r1.1.dO,r1.1.bz,r1.1.jw,r1.1.jz]:List Int):Int)),(40,qi 0)] ⟨[[.buf (List.map (vI .u8) y7.2.2)]],[]⟩ (kP 11 (ya (c:=(cI .i64)) (l:=([r1.1.j9,r1.1.dO,r1.1.bz,r1.1.jw,r1.1.jz]:List Int)) (e:=3) (sz:=1) (sz':=1) (b:=8) (tok:= .exact))<|kE ⟨[1],2,[],0⟩)<|blE h (fun y27=>⟨55,[(6,qi y7.1),(7, .own 0 y27.1 1)]⟩) (fun y27=>⟨[[.buf (List.map (vI .u8) y27.2)]],[]⟩) (fun y27 h=>zS (X:=(Nat×Int×(List Int))) (fun x=>⟨55,[(6,qi y7.1),(7, .own 0 x.1 1),(38, .sl 1 (List.map (cI .i64) ([r1.1.j9,r1.1.dO,r1.1.bz,r1.1.jw,r1.1.jz]:List Int)) .exact),(39,qi (List.length ([r1.1.j9,r1.1.dO,r1.1.bz,r1.1.jw,r1.1.jz]:List Int):Int)),(40,qi x.2.1)]⟩) (fun x=>⟨[[.buf (List.map (vI .u8) x.2.2)]],[]⟩) (fun k x=>jd n r1 k x.1 x.2.1 x.2.2=some y27) (fun _ hx=>by simp [jd]at hx) n (y7.2.1,0,y7.2.2) h (wk ⟨[0],1,[],0⟩) (fun k x h=>by obtain⟨v33,v34,v35⟩:=x; rw [jd]at h; exact za<|rs [6,7,38,39] [(40,qi v34),(41,qb (decide (v34<(List.length ([r1.1.j9,r1.1.dO,r1.1.bz,r1.1.jw,r1.1.jz]:List Int):Int))))] (kE ⟨[0],1,[],0⟩)<|za<|bF h (fun h=>zi<|za<|zB<|za<|bE h fun x42 hx42 h=>rs [6,7,38,39] [(9,qi x42),(40,qi v34)] (kP 0 (zx (c:=(cI .i64)) (e:=3) (sz:=1) (b:=8) (tok:= .exact) hx42)<|kE ⟨[0],1,[],0⟩)<|bE h fun r43 hr43 h=>rmN zR [6,38,39] [(7, .own 0 r43.1 1),(40,qi v34)] ⟨[[.buf (List.map (vI .u8) r43.2)]],[]⟩ (kC 2 ⟨[0],1,[],0⟩ (WV hr43)<|kE ⟨[1],2,[],0⟩)<|zC<|rsN zw [6,7,38,39] [(40,qi (IntKind.wrap .i64 (v34+1)))] (kE ⟨[0],1,[],0⟩)<|⟨(r43.1,IntKind.wrap .i64 (v34+1),r43.2),h,wk ⟨[0],1,[],0⟩⟩) fun h=>zJ<|zF<|zD<|⟨(v33,v35),sI h,wk ⟨[0],1,[],0⟩⟩)) fun y27 h=>za<|bE h fun x44 hx44 h=>bE h fun r45 hr45 h=>rm [] [(2,qs r45.1),(3,qi r45.2)] ⟨[],[]⟩ (kP 2 (JS hx44)<|kC 4 ⟨[],1,[],0⟩ (xA hr45)<|kE ⟨[],1,[],0⟩)<|zk<|by cases h; exact rt ⟨[],0,[],0⟩
def z1 (n:Nat) (a1:(List UInt8)) (a2:Int) (m0:zf):Option zf:=
 if(m0.f_e==0)=true then((dt m0.f_b a1).bind fun x1=>
 some (zf.mk x1 a2))else(some m0)
theorem yh {n:Nat} {a1:(List UInt8)} {a2:Int} {m0:zf} {r:zf} (h:z1 n a1 a2 m0=some r):AC mx 43 [qp 0,qs a1,qi a2] [zf.cells m0] (.tuple []) [zf.cells r]:=by
 delta z1 at h
 exact fnc Tryz.func43 rfl<|za<|rs [] [(0,qp 0),(1,qs a1),(2,qi a2),(10,qb (m0.f_e==0))] (kE ⟨[0],1,[],0⟩)<|bF h (fun h=>bE h fun x1 hx1 h=>rmN bi [] [] ⟨[[qs x1,qi a2]],[]⟩ (kP 7 (gy (d:=(tyT 9).d) hx1)<|kE ⟨[0],1,[],0⟩)<|by cases h; exact rno ⟨[0],1,[],0⟩) fun h=>zi<|by cases h; exact rno ⟨[0],1,[],0⟩
def v8 (n:Nat) (a1:Int):Nat→Int→Option Int
 |0,_=>none
 | k+1,v7=>
  (YD .i64 a1 (IntKind.wrap .u64 ((7:Int)*(IntKind.wrap .u64 v7)))).bind fun x9=>
  if(decide (x9>0))=true then(v8 n a1 k (IntKind.wrap .i64 (v7+1)))else(some v7)
def vm (n:Nat) (a1:Int):Nat→Nat→Int→(List Int)→Option (Nat×(List Int))
 |0,_,_,_=>none
 | k+1,v33,v34,v35=>
  if(decide (v34>0))=true then((YD .i64 a1 (IntKind.wrap .u64 ((7:Int)*(IntKind.wrap .u64 v34)))).bind fun x42=>
  (Wa 1 v33 v35 ([IntKind.wrap .u8 (ior .i64 (wq .i64 x42 127) 128)]:List Int)).bind fun x43=>
  vm n a1 k (v33+List.length ([IntKind.wrap .u8 (ior .i64 (wq .i64 x42 127) 128)]:List Int)) (IntKind.wrap .i64 (v34-1)) x43)else(some (v33,v35))
def gN (n:Nat) (a1:Int):Option (Nat×(List Int)):=
 (v8 n a1 n 1).bind fun y5=>
 (vm n a1 n 0 (IntKind.wrap .i64 (y5-1)) ([]:List Int)).bind fun y27=>
 (Wa 1 y27.1 y27.2 ([IntKind.wrap .u8 (wq .i64 a1 127)]:List Int)).bind fun x44=>
 some (y27.1+List.length ([IntKind.wrap .u8 (wq .i64 a1 127)]:List Int),x44)
theorem UD {n:Nat} {a1:Int} {r:(Nat×(List Int))} (h:gN n a1=some r):AC mx 117 [qn,qi a1] [] (.own 0 r.1 1) [[.buf (List.map (vI .u8) r.2)]]:=by
 delta gN at h
 exact fnc Tryz.func117 rfl<|vK (Wk.nilO 0 0 1 (by kernel_rfl))<|vK (wk (fr':=⟨38,[(0, .own 0 0 1),(1,qi a1)]⟩) (st':=⟨[[.buf (List.map (vI .u8) ([]:List Int))]],[]⟩) ⟨[0],1,[],0⟩)<|za<|rs [0] [(1,qi a1)] (kE ⟨[0],1,[],0⟩)<|za<|rs [0] [(1,qi a1),(5,qi 1)] (kE ⟨[0],1,[],0⟩)<|za<|blE h (fun y5=>⟨38,[(0, .own 0 0 1),(1,qi a1),(5,qi y5)]⟩) (fun y5=>⟨[[.buf (List.map (vI .u8) ([]:List Int))]],[]⟩) (fun y5 h=>zS (X:=Int) (fun x=>⟨38,[(0, .own 0 0 1),(1,qi a1),(5,qi x)]⟩) (fun x=>⟨[[.buf (List.map (vI .u8) ([]:List Int))]],[]⟩) (fun k x=>v8 n a1 k x=some y5) (fun _ hx=>by simp [v8]at hx) n 1 h (wk ⟨[0],1,[],0⟩) (fun k x h=>by revert h; revert x; intro v7 h; rw [v8]at h; exact za<|za<|bE h fun x9 hx9 h=>rs [0] [(1,qi a1),(5,qi v7),(12,qb (decide (x9>0)))] (kP 4 (pl (k:= .i64) (d:=(tyT 3).d) (k':= .u64) hx9)<|kE ⟨[0],1,[],0⟩)<|bF h (fun h=>zi<|zB<|rsN (qm (P:=Tryz.prog) (gl:=gl0 mx) zw) [0] [(1,qi a1),(5,qi (IntKind.wrap .i64 (v7+1)))] (kE ⟨[0],1,[],0⟩)<|zC<|⟨IntKind.wrap .i64 (v7+1),h,wk ⟨[0],1,[],0⟩⟩) fun h=>zJ<|zF<|zD<|⟨v7,sI h,wk ⟨[0],1,[],0⟩⟩)) fun y5 h=>za<|za<|rs [0] [(1,qi a1),(6,qi (IntKind.wrap .i64 (y5-1)))] (kE ⟨[0],1,[],0⟩)<|blE h (fun y27=>⟨38,[(0, .own 0 y27.1 1),(1,qi a1)]⟩) (fun y27=>⟨[[.buf (List.map (vI .u8) y27.2)]],[]⟩) (fun y27 h=>zS (X:=(Nat×Int×(List Int))) (fun x=>⟨38,[(0, .own 0 x.1 1),(1,qi a1),(6,qi x.2.1)]⟩) (fun x=>⟨[[.buf (List.map (vI .u8) x.2.2)]],[]⟩) (fun k x=>vm n a1 k x.1 x.2.1 x.2.2=some y27) (fun _ hx=>by simp [vm]at hx) n (0,IntKind.wrap .i64 (y5-1),([]:List Int)) h (wk ⟨[0],1,[],0⟩) (fun k x h=>by obtain⟨v33,v34,v35⟩:=x; rw [vm]at h; exact za<|za<|rs [0] [(1,qi a1),(6,qi v34),(18,qb (decide (v34>0)))] (kE ⟨[0],1,[],0⟩)<|bF h (fun h=>zi<|za<|zB<|bE h fun x42 hx42 h=>bE h fun x43 hx43 h=>rmN zR [] [(0, .own 0 (v33+List.length ([IntKind.wrap .u8 (ior .i64 (wq .i64 x42 127) 128)]:List Int)) 1),(1,qi a1),(6,qi v34)] ⟨[[.buf (List.map (vI .u8) x43)]],[]⟩ (kP 5 (pl (k:= .i64) (d:=(tyT 3).d) (k':= .u64) hx42)<|kV 10 1 0 0 (WR (T:=tyT) (c:=(vI .u8)) (l:=v35) (l2:=([IntKind.wrap .u8 (ior .i64 (wq .i64 x42 127) 128)]:List Int)) (n:=v33) (e:=5) (e2:=5) (bytes:=1) (b2:=1) (tok2:= .exact) (by kernel_rfl) hx43)<|kE ⟨[1],2,[],0⟩)<|zC<|rsN zw [0] [(1,qi a1),(6,qi (IntKind.wrap .i64 (v34-1)))] (kE ⟨[0],1,[],0⟩)<|⟨(v33+List.length ([IntKind.wrap .u8 (ior .i64 (wq .i64 x42 127) 128)]:List Int),IntKind.wrap .i64 (v34-1),x43),h,wk ⟨[0],1,[],0⟩⟩) fun h=>zJ<|zF<|zD<|⟨(v33,v35),sI h,wk ⟨[0],1,[],0⟩⟩)) fun y27 h=>za<|bE h fun x44 hx44 h=>rm [] [(4, .own 0 (y27.1+List.length ([IntKind.wrap .u8 (wq .i64 a1 127)]:List Int)) 1)] ⟨[[.buf (List.map (vI .u8) x44)]],[]⟩ (kV 5 1 0 0 (WR (T:=tyT) (c:=(vI .u8)) (l:=y27.2) (l2:=([IntKind.wrap .u8 (wq .i64 a1 127)]:List Int)) (n:=y27.1) (e:=5) (e2:=5) (bytes:=1) (b2:=1) (tok2:= .exact) (by kernel_rfl) hx44)<|kE ⟨[1],2,[],0⟩)<|zk<|by cases h; exact rt ⟨[0],1,[],0⟩
def ut (n:Nat) (a1:Int):Nat→Int→Option Int
 |0,_=>none
 | k+1,v7=>
  (YD .i64 a1 (IntKind.wrap .u64 ((7:Int)*(IntKind.wrap .u64 v7)))).bind fun x9=>
  if(decide (x9>0))=true then(ut n a1 k (IntKind.wrap .i64 (v7+1)))else(some v7)
def uq (n:Nat) (a1:Int):Nat→Nat→Int→(List Int)→Option (Nat×(List Int))
 |0,_,_,_=>none
 | k+1,v33,v34,v35=>
  if(decide (v34>0))=true then((YD .i64 a1 (IntKind.wrap .u64 ((7:Int)*(IntKind.wrap .u64 v34)))).bind fun x42=>
  (Wa 1 v33 v35 ([IntKind.wrap .u8 (ior .i64 (wq .i64 x42 127) 128)]:List Int)).bind fun x43=>
  uq n a1 k (v33+List.length ([IntKind.wrap .u8 (ior .i64 (wq .i64 x42 127) 128)]:List Int)) (IntKind.wrap .i64 (v34-1)) x43)else(some (v33,v35))
def kJ (n:Nat) (a0:Nat) (a1:Int) (m0:(List Int)):Option (Nat×(List Int)):=
 (ut n a1 n 1).bind fun y5=>
 (uq n a1 n a0 (IntKind.wrap .i64 (y5-1)) m0).bind fun y27=>
 (Wa 1 y27.1 y27.2 ([IntKind.wrap .u8 (wq .i64 a1 127)]:List Int)).bind fun x44=>
 some (y27.1+List.length ([IntKind.wrap .u8 (wq .i64 a1 127)]:List Int),x44)
theorem Vp {n:Nat} {a0:Nat} {a1:Int} {m0:(List Int)} {r:(Nat×(List Int))} (h:kJ n a0 a1 m0=some r):AC mx 117 [.own 0 a0 1,qi a1] [[.buf (List.map (vI .u8) m0)]] (.own 1 r.1 1) [[],[.buf (List.map (vI .u8) r.2)]]:=by
 delta kJ at h
 exact fnc Tryz.func117 rfl<|vK (Wk.mov (cells:= [.buf (List.map (vI .u8) m0)]) 0 0 a0 1 1 (by kernel_rfl))<|vK (wk (fr':=⟨38,[(0, .own 1 a0 1),(1,qi a1)]⟩) (st':=⟨[[],[.buf (List.map (vI .u8) m0)]],[]⟩) ⟨[0,1],2,[],0⟩)<|za<|rs [0] [(1,qi a1)] (kE ⟨[0,1],2,[],0⟩)<|za<|rs [0] [(1,qi a1),(5,qi 1)] (kE ⟨[0,1],2,[],0⟩)<|za<|blE h (fun y5=>⟨38,[(0, .own 1 a0 1),(1,qi a1),(5,qi y5)]⟩) (fun y5=>⟨[[],[.buf (List.map (vI .u8) m0)]],[]⟩) (fun y5 h=>zS (X:=Int) (fun x=>⟨38,[(0, .own 1 a0 1),(1,qi a1),(5,qi x)]⟩) (fun x=>⟨[[],[.buf (List.map (vI .u8) m0)]],[]⟩) (fun k x=>ut n a1 k x=some y5) (fun _ hx=>by simp [ut]at hx) n 1 h (wk ⟨[0,1],2,[],0⟩) (fun k x h=>by revert h; revert x; intro v7 h; rw [ut]at h; exact za<|za<|bE h fun x9 hx9 h=>rs [0] [(1,qi a1),(5,qi v7),(12,qb (decide (x9>0)))] (kP 4 (pl (k:= .i64) (d:=(tyT 3).d) (k':= .u64) hx9)<|kE ⟨[0,1],2,[],0⟩)<|bF h (fun h=>zi<|zB<|rsN (qm (P:=Tryz.prog) (gl:=gl0 mx) zw) [0] [(1,qi a1),(5,qi (IntKind.wrap .i64 (v7+1)))] (kE ⟨[0,1],2,[],0⟩)<|zC<|⟨IntKind.wrap .i64 (v7+1),h,wk ⟨[0,1],2,[],0⟩⟩) fun h=>zJ<|zF<|zD<|⟨v7,sI h,wk ⟨[0,1],2,[],0⟩⟩)) fun y5 h=>za<|za<|rs [0] [(1,qi a1),(6,qi (IntKind.wrap .i64 (y5-1)))] (kE ⟨[0,1],2,[],0⟩)<|blE h (fun y27=>⟨38,[(0, .own 1 y27.1 1),(1,qi a1)]⟩) (fun y27=>⟨[[],[.buf (List.map (vI .u8) y27.2)]],[]⟩) (fun y27 h=>zS (X:=(Nat×Int×(List Int))) (fun x=>⟨38,[(0, .own 1 x.1 1),(1,qi a1),(6,qi x.2.1)]⟩) (fun x=>⟨[[],[.buf (List.map (vI .u8) x.2.2)]],[]⟩) (fun k x=>uq n a1 k x.1 x.2.1 x.2.2=some y27) (fun _ hx=>by simp [uq]at hx) n (a0,IntKind.wrap .i64 (y5-1),m0) h (wk ⟨[0,1],2,[],0⟩) (fun k x h=>by obtain⟨v33,v34,v35⟩:=x; rw [uq]at h; exact za<|za<|rs [0] [(1,qi a1),(6,qi v34),(18,qb (decide (v34>0)))] (kE ⟨[0,1],2,[],0⟩)<|bF h (fun h=>zi<|za<|zB<|bE h fun x42 hx42 h=>bE h fun x43 hx43 h=>rmN zR [] [(0, .own 1 (v33+List.length ([IntKind.wrap .u8 (ior .i64 (wq .i64 x42 127) 128)]:List Int)) 1),(1,qi a1),(6,qi v34)] ⟨[[],[.buf (List.map (vI .u8) x43)]],[]⟩ (kP 5 (pl (k:= .i64) (d:=(tyT 3).d) (k':= .u64) hx42)<|kV 10 2 0 1 (WR (T:=tyT) (c:=(vI .u8)) (l:=v35) (l2:=([IntKind.wrap .u8 (ior .i64 (wq .i64 x42 127) 128)]:List Int)) (n:=v33) (e:=5) (e2:=5) (bytes:=1) (b2:=1) (tok2:= .exact) (by kernel_rfl) hx43)<|kE ⟨[0,2],3,[],0⟩)<|zC<|rsN zw [0] [(1,qi a1),(6,qi (IntKind.wrap .i64 (v34-1)))] (kE ⟨[0,1],2,[],0⟩)<|⟨(v33+List.length ([IntKind.wrap .u8 (ior .i64 (wq .i64 x42 127) 128)]:List Int),IntKind.wrap .i64 (v34-1),x43),h,wk ⟨[0,1],2,[],0⟩⟩) fun h=>zJ<|zF<|zD<|⟨(v33,v35),sI h,wk ⟨[0,1],2,[],0⟩⟩)) fun y27 h=>za<|bE h fun x44 hx44 h=>rm [] [(4, .own 1 (y27.1+List.length ([IntKind.wrap .u8 (wq .i64 a1 127)]:List Int)) 1)] ⟨[[],[.buf (List.map (vI .u8) x44)]],[]⟩ (kV 5 2 0 1 (WR (T:=tyT) (c:=(vI .u8)) (l:=y27.2) (l2:=([IntKind.wrap .u8 (wq .i64 a1 127)]:List Int)) (n:=y27.1) (e:=5) (e2:=5) (bytes:=1) (b2:=1) (tok2:= .exact) (by kernel_rfl) hx44)<|kE ⟨[0,2],3,[],0⟩)<|zk<|by cases h; exact rt ⟨[0,1],2,[],0⟩
def va (n:Nat) (x9:(List Int)):Nat→Nat→Int→(List Int)→Option (Nat×(List Int))
 |0,_,_,_=>none
 | k+1,v33,v34,v35=>
  if(decide (v34<(List.length x9:Int)))=true then((z6 x9 v34).bind fun x42=>
  (kJ n v33 x42 v35).bind fun r43=>
  va n x9 k r43.1 (IntKind.wrap .i64 (v34+1)) r43.2)else(some (v33,v35))
def vZ (n:Nat) (a0:(List UInt8)):Option ((List UInt8)×Int):=
 ((ky n a0).bind fun r1=>
 onE r1 (some ([]:List Int)) (fun l2=>some l2)).bind fun y4=>
 (lne y4).bind fun x5=>
 (z6 y4 0).bind fun x6=>
 (z6 y4 1).bind fun x7=>
 (gN n (IntKind.wrap .i64 ((IntKind.wrap .i64 ((40:Int)*x6))+x7))).bind fun r8=>
 (lsl y4 2 (List.length y4)).bind fun x9=>
 (va n x9 n r8.1 0 r8.2).bind fun y27=>
 (Jk y27.1 y27.2).bind fun x44=>
 some (x44,0)
theorem qD {n:Nat} {a0:(List UInt8)} {r:((List UInt8)×Int)} (h:vZ n a0=some r):AC mx 45 [qs a0] [] (.tuple [qs r.1,qi r.2]) []:=by
 delta vZ at h
 exact fnc Tryz.func45 rfl<|za<|rs [] [(0,qs a0)] (kE ⟨[],0,[],0⟩)<|za<|bE h fun y4 hE h=>reg ⟨34,[(4,ql 1 (cI .i64) y4)]⟩ ⟨[],[]⟩ (have h:=hE; bE h fun r1 hr1 h=>kC 1 ⟨[],0,[],0⟩ (ZV hr1)<|by cases r1 with|none=>exact(have h:=onN h; by cases h; exact kE ⟨[],0,[],0⟩)|some l2=>exact(have h:=onS h; by cases h; exact kE ⟨[],0,[],0⟩))<|za<|za<|bE h fun x5 hx5 h=>rs [4] [(11,qb false)] (kP 1 (GQ (c:=(cI .i64)) (e:=3) (sz:=1) (b:=8) (tok:= .none) hx5)<|kE ⟨[],0,[],0⟩)<|bN<|zi<|za<|bE h fun x6 hx6 h=>bE h fun x7 hx7 h=>bE h fun r8 hr8 h=>zm [0,1,2,3,4,5,6,7,8,9] [8] [[],[0],[0,1],[0,1,2],[],[4],[4,5],[0,1,2,3,4,5,6],[0,1,2,3,4,5,6,7],[0,1,2,3,4,5,6,7,8]] [4] [(5, .own 0 r8.1 1)] ⟨[[.buf (List.map (vI .u8) r8.2)]],[]⟩ (dS [0]<|dP (zx (c:=(cI .i64)) (e:=3) (sz:=1) (b:=8) (tok:= .none) hx6)<|dS [2,3,4]<|dP (zx (c:=(cI .i64)) (e:=3) (sz:=1) (b:=8) (tok:= .none) hx7)<|dS [6,7]<|dC (zN 5 (zx (c:=(cI .i64)) (e:=3) (sz:=1) (b:=8) (tok:= .none) hx7) (zN 1 (zx (c:=(cI .i64)) (e:=3) (sz:=1) (b:=8) (tok:= .none) hx6) yP)) ⟨[],0,[],0⟩ (UD hr8)<|dS [9]<|dE ⟨[0],1,[],0⟩)<|za<|za<|bE h fun x9 hx9 h=>rs [5] [(22,ql 1 (cI .i64) x9),(23,qi (List.length x9:Int)),(24,qi 0)] (kP 1 (gP (k:= .i64) (c:=(cI .i64)) (e:=3) (sz:=1) (b:=8) (tok:= .none) hx9)<|kP 2 (ya (c:=(cI .i64)) (l:=x9) (e:=3) (sz:=1) (sz':=1) (b:=8) (tok:= .none))<|kE ⟨[0],1,[],0⟩)<|blE h (fun y27=>⟨34,[(5, .own 0 y27.1 1)]⟩) (fun y27=>⟨[[.buf (List.map (vI .u8) y27.2)]],[]⟩) (fun y27 h=>zS (X:=(Nat×Int×(List Int))) (fun x=>⟨34,[(5, .own 0 x.1 1),(22,ql 1 (cI .i64) x9),(23,qi (List.length x9:Int)),(24,qi x.2.1)]⟩) (fun x=>⟨[[.buf (List.map (vI .u8) x.2.2)]],[]⟩) (fun k x=>va n x9 k x.1 x.2.1 x.2.2=some y27) (fun _ hx=>by simp [va]at hx) n (r8.1,0,r8.2) h (wk ⟨[0],1,[],0⟩) (fun k x h=>by obtain⟨v33,v34,v35⟩:=x; rw [va]at h; exact za<|rs [5,22,23] [(24,qi v34),(25,qb (decide (v34<(List.length x9:Int))))] (kE ⟨[0],1,[],0⟩)<|za<|bF h (fun h=>zi<|za<|zB<|za<|bE h fun x42 hx42 h=>rs [5,22,23] [(7,qi x42),(24,qi v34)] (kP 0 (zx (c:=(cI .i64)) (e:=3) (sz:=1) (b:=8) (tok:= .none) hx42)<|kE ⟨[0],1,[],0⟩)<|bE h fun r43 hr43 h=>rmN zR [22,23] [(5, .own 0 r43.1 1),(24,qi v34)] ⟨[[.buf (List.map (vI .u8) r43.2)]],[]⟩ (kC 2 ⟨[0],1,[],0⟩ (Vp hr43)<|kE ⟨[1],2,[],0⟩)<|zC<|rsN zw [5,22,23] [(24,qi (IntKind.wrap .i64 (v34+1)))] (kE ⟨[0],1,[],0⟩)<|⟨(r43.1,IntKind.wrap .i64 (v34+1),r43.2),h,wk ⟨[0],1,[],0⟩⟩) fun h=>zJ<|zF<|zD<|⟨(v33,v35),sI h,wk ⟨[0],1,[],0⟩⟩)) fun y27 h=>za<|bE h fun x44 hx44 h=>rm [] [(2,qs x44),(3,qi 0)] ⟨[],[]⟩ (kP 1 (JS hx44)<|kE ⟨[],1,[],0⟩)<|zk<|by cases h; exact rt ⟨[],0,[],0⟩
def zP (n:Nat) (a1:Int) (a2:(List UInt8)) (m0:zf):Option zf:=
 (xy n a1 ([a2]:List (List UInt8))).bind fun r1=>
 (z1 n r1.1 r1.2 m0).bind fun r2=>
 some r2
theorem ye {n:Nat} {a1:Int} {a2:(List UInt8)} {m0:zf} {r:zf} (h:zP n a1 a2 m0=some r):AC mx 46 [qp 0,qi a1,qs a2] [zf.cells m0] (.tuple []) [zf.cells r]:=by
 delta zP at h
 exact fnc Tryz.func46 rfl<|bE h fun r1 hr1 h=>bE h fun r2 hr2 h=>rmN bi [] [] ⟨[zf.cells r2],[]⟩ (kC 4 ⟨[],1,[],0⟩ (xA hr1)<|kC 7 ⟨[0],1,[],0⟩ (yh hr2)<|kE ⟨[0],1,[],0⟩)<|by cases h; exact rno ⟨[0],1,[],0⟩
def uv (n:Nat) (a0:Int):Nat→Int→Option Int
 |0,_=>none
 | k+1,v9=>
  (YD .i64 a0 (IntKind.wrap .u64 v9)).bind fun x11=>
  if(decide (x11>0))=true then(uv n a0 k (IntKind.wrap .i64 (v9+1)))else(some v9)
def uu (n:Nat) (y7:Int) (a0:Int) (x12:Nat):Nat→Int→(List Int)→Option (List Int)
 |0,_,_=>none
 | k+1,v98,v99=>
  if(decide (v98<y7))=true then(((YD .i64 a0 (IntKind.wrap .u64 v98)).bind fun x136=>
  if((wq .i64 x136 1)==1)=true then((kI x12 (IntKind.wrap .i64 ((1:Int)+(IntKind.wrap .i64 (Int.tdiv v98 8))))).bind fun x137=>
  ((v99)[(x137*1)]?).bind fun x138=>
  (JP .u8 1 (IntKind.wrap .u64 ((7:Int)-(IntKind.wrap .u64 (Int.tmod v98 8))))).bind fun x139=>
  (kI x12 (IntKind.wrap .i64 ((1:Int)+(IntKind.wrap .i64 (Int.tdiv v98 8))))).bind fun x140=>
  (Z5 v99 (x140*1) (ior .u8 x138 x139)).bind fun x141=>
  some x141)else(some v99)).bind fun y134=>
  uu n y7 a0 x12 k (IntKind.wrap .i64 (v98+1)) y134)else(some v99)
def w5 (n:Nat) (a0:Int):Option ((List UInt8)×Int):=
 (if(decide (a0<0))=true then(some true)else(some (decide (a0>65535)))).bind fun y2=>
 if y2=true then(some (([]:List UInt8),1))else((uv n a0 n 0).bind fun y7=>
 (Xk 1 (IntKind.wrap .i64 ((1:Int)+(IntKind.wrap .i64 (Int.tdiv (IntKind.wrap .i64 (y7+7)) 8)))) (IntKind.wrap .i64 ((1:Int)+(IntKind.wrap .i64 (Int.tdiv (IntKind.wrap .i64 (y7+7)) 8))))).bind fun x12=>
 (kI x12 0).bind fun x13=>
 (Z5 (List.replicate x12 (0:Int)) (x13*1) (IntKind.wrap .u8 (IntKind.wrap .i64 ((IntKind.wrap .i64 ((8:Int)*(IntKind.wrap .i64 (((x12:Nat):Int)-1))))-y7)))).bind fun x14=>
 (uu n y7 a0 x12 n 0 x14).bind fun y78=>
 (Jk x12 y78).bind fun x142=>
 some (x142,0))
theorem Yq {n:Nat} {a0:Int} {r:((List UInt8)×Int)} (h:w5 n a0=some r):AC mx 47 [qi a0] [] (.tuple [qs r.1,qi r.2]) []:=by
 delta w5 at h
 exact fnc Tryz.func47 rfl<|za<|rs [] [(0,qi a0)] (kE ⟨[],0,[],0⟩)<|za<|za<|bE h fun y2 hE h=>reg ⟨60,[(0,qi a0),(12,qb y2)]⟩ ⟨[],[]⟩ (have h:=hE; gF 3 9 h (fun h=>by cases h; exact kE ⟨[],0,[],0⟩) fun h=>by cases h; exact kE ⟨[],0,[],0⟩)<|bF h (fun h=>za<|rs [] [(2,qs ([]:List UInt8)),(3,qi 1)] (kE ⟨[],0,[],0⟩)<|zk<|by cases h; exact rt ⟨[],0,[],0⟩) fun h=>zi<|za<|rs [] [(0,qi a0),(4,qi 0)] (kE ⟨[],0,[],0⟩)<|za<|blE h (fun y7=>⟨60,[(0,qi a0),(4,qi y7)]⟩) (fun y7=>⟨[],[]⟩) (fun y7 h=>zS (X:=Int) (fun x=>⟨60,[(0,qi a0),(4,qi x)]⟩) (fun x=>⟨[],[]⟩) (fun k x=>uv n a0 k x=some y7) (fun _ hx=>by simp [uv]at hx) n 0 h (wk ⟨[],0,[],0⟩) (fun k x h=>by revert h; revert x; intro v9 h; rw [uv]at h; exact za<|za<|bE h fun x11 hx11 h=>rs [] [(0,qi a0),(4,qi v9),(17,qb (decide (x11>0)))] (kP 3 (pl (k:= .i64) (d:=(tyT 3).d) (k':= .u64) hx11)<|kE ⟨[],0,[],0⟩)<|bF h (fun h=>zi<|zB<|rsN (qm (P:=Tryz.prog) (gl:=gl0 mx) zw) [] [(0,qi a0),(4,qi (IntKind.wrap .i64 (v9+1)))] (kE ⟨[],0,[],0⟩)<|zC<|⟨IntKind.wrap .i64 (v9+1),h,wk ⟨[],0,[],0⟩⟩) fun h=>zJ<|zF<|zD<|⟨v9,sI h,wk ⟨[],0,[],0⟩⟩)) fun y7 h=>za<|bE h fun x12 hx12 h=>rm [] [(0,qi a0),(4,qi y7),(5, .own 0 x12 1)] ⟨[[.buf (List.map (vI .u8) (List.replicate x12 (0:Int)))]],[]⟩ (kV 4 0 0 0 (Vt (T:=tyT) (e:=5) (k1:= .i64) (k2:= .i64) (bytes:=1) (cell:=none) (c:=(vI .u8)) (uI .u8) 0 ⟨by kernel_rfl,by kernel_rfl⟩ hx12)<|kE ⟨[0],1,[],0⟩)<|za<|bE h fun x13 hx13 h=>bE h fun x14 hx14 h=>rm [5] [(0,qi a0),(4,qi y7)] ⟨[[.buf (List.map (vI .u8) x14)]],[]⟩ (kP 8 (dm (id:=0) (e:=5) (sz:=1) (b:=1) hx13)<|kV 9 1 0 0 (jW (T:=tyT) (t:=5) (c:=(vI .u8)) (l:=List.replicate x12 (0:Int)) (off:=(x13*1)) (x:=IntKind.wrap .u8 (IntKind.wrap .i64 ((IntKind.wrap .i64 ((8:Int)*(IntKind.wrap .i64 (((x12:Nat):Int)-1))))-y7))) (uI .u8) (by kernel_rfl) hx14)<|kE ⟨[0],1,[],0⟩)<|za<|za<|rs [5] [(0,qi a0),(34,qi y7),(35,qi 0)] (kE ⟨[0],1,[],0⟩)<|blE h (fun y78=>⟨60,[(5, .own 0 x12 1)]⟩) (fun y78=>⟨[[.buf (List.map (vI .u8) y78)]],[]⟩) (fun y78 h=>zS (X:=(Int×(List Int))) (fun x=>⟨60,[(0,qi a0),(5, .own 0 x12 1),(34,qi y7),(35,qi x.1)]⟩) (fun x=>⟨[[.buf (List.map (vI .u8) x.2)]],[]⟩) (fun k x=>uu n y7 a0 x12 k x.1 x.2=some y78) (fun _ hx=>by simp [uu]at hx) n (0,x14) h (wk ⟨[0],1,[],0⟩) (fun k x h=>by obtain⟨v98,v99⟩:=x; rw [uu]at h; exact za<|rs [5] [(0,qi a0),(34,qi y7),(35,qi v98),(36,qb (decide (v98<y7)))] (kE ⟨[0],1,[],0⟩)<|za<|bF h (fun h=>zi<|za<|blE h (fun y134=>⟨60,[(0,qi a0),(5, .own 0 x12 1),(34,qi y7),(35,qi v98)]⟩) (fun y134=>⟨[[.buf (List.map (vI .u8) y134)]],[]⟩) (fun y134 h=>za<|rs [5] [(0,qi a0),(6,qi v98),(34,qi y7),(35,qi v98)] (kE ⟨[0],1,[],0⟩)<|za<|bE h fun x136 hx136 h=>rs [5] [(0,qi a0),(6,qi v98),(34,qi y7),(35,qi v98),(43,qb ((wq .i64 x136 1)==1))] (kP 3 (pl (k:= .i64) (d:=(tyT 3).d) (k':= .u64) hx136)<|kE ⟨[0],1,[],0⟩)<|bF h (fun h=>bE h fun x137 hx137 h=>bE h fun x138 hx138 h=>bE h fun x139 hx139 h=>bE h fun x140 hx140 h=>bE h fun x141 hx141 h=>rmN yu [5] [(0,qi a0),(34,qi y7),(35,qi v98)] ⟨[[.buf (List.map (vI .u8) x141)]],[]⟩ (kP 4 (dm (id:=0) (e:=5) (sz:=1) (b:=1) hx137)<|kP 5 (dU (c:=(vI .u8)) (l:=v99) (off:=(x137*1)) hx138)<|kP 10 (VX (k:= .u8) (d:=(tyT 5).d) (k':= .u64) hx139)<|kP 12 (dm (id:=0) (e:=5) (sz:=1) (b:=1) hx140)<|kV 13 1 0 0 (jW (T:=tyT) (t:=5) (c:=(vI .u8)) (l:=v99) (off:=(x140*1)) (x:=ior .u8 x138 x139) (uI .u8) (by kernel_rfl) hx141)<|kE ⟨[0],1,[],0⟩)<|⟨x141,sI h,wk ⟨[0],1,[],0⟩⟩) fun h=>zi<|⟨v99,sI h,wk ⟨[0],1,[],0⟩⟩) fun y134 h=>rsN zw [5] [(0,qi a0),(34,qi y7),(35,qi (IntKind.wrap .i64 (v98+1)))] (kE ⟨[0],1,[],0⟩)<|⟨(IntKind.wrap .i64 (v98+1),y134),h,wk ⟨[0],1,[],0⟩⟩) fun h=>zJ<|zF<|zD<|⟨v99,sI h,wk ⟨[0],1,[],0⟩⟩)) fun y78 h=>za<|bE h fun x142 hx142 h=>rm [] [(2,qs x142),(3,qi 0)] ⟨[],[]⟩ (kP 1 (JS hx142)<|kE ⟨[],1,[],0⟩)<|zk<|by cases h; exact rt ⟨[],0,[],0⟩
def kQ (n:Nat) (m0:zf):Option zf:=
 some m0
theorem Vg {n:Nat} {m0:zf} {r:zf} (h:kQ n m0=some r):AC mx 49 [qp 0] [zf.cells m0] (.func (.func 118) [qp 0] []) [zf.cells r]:=by
 delta kQ at h
 exact fnc Tryz.func49 rfl<|za<|rs [] [(0,qp 0)] (kE ⟨[0],1,[],0⟩)<|za<|rs [] [(2, .func (.func 118) [qp 0] [])] (kE ⟨[0],1,[],0⟩)<|zk<|by cases h; exact rt ⟨[0],1,[],0⟩
def uX (n:Nat) (a1:(List UInt8)) (m0:zf):Option zf:=
 (vZ n a1).bind fun r1=>
 (z1 n ([]:List UInt8) r1.2 m0).bind fun r2=>
 (zP n 6 r1.1 r2).bind fun r3=>
 some r3
theorem ZI {n:Nat} {a1:(List UInt8)} {m0:zf} {r:zf} (h:uX n a1 m0=some r):AC mx 118 [qp 0,qs a1] [zf.cells m0] (.tuple []) [zf.cells r]:=by
 delta uX at h
 exact fnc Tryz.func118 rfl<|za<|bE h fun r1 hr1 h=>rs [] [(0,qp 0),(4,qs r1.1),(5,qi r1.2)] (kC 1 ⟨[],1,[],0⟩ (qD hr1)<|kE ⟨[0],1,[],0⟩)<|za<|bE h fun r2 hr2 h=>rm [4] [(0,qp 0)] ⟨[zf.cells r2],[]⟩ (kC 2 ⟨[0],1,[],0⟩ (yh hr2)<|kE ⟨[0],1,[],0⟩)<|bE h fun r3 hr3 h=>rmN bi [] [] ⟨[zf.cells r3],[]⟩ (kC 2 ⟨[0],1,[],0⟩ (ye hr3)<|kE ⟨[0],1,[],0⟩)<|by cases h; exact rno ⟨[0],1,[],0⟩
def xu (n:Nat) (a2:(List (List UInt8))):Nat→Int→(List UInt8)→Int→Option ((List UInt8)×Int)
 |0,_,_,_=>none
 | k+1,v25,v26,v27=>
  if(decide (v25<(List.length a2:Int)))=true then((z6 a2 v25).bind fun x34=>
  (uX n x34 (zf.mk v26 v27)).bind fun r35=>
  xu n a2 k (IntKind.wrap .i64 (v25+1)) r35.f_b r35.f_e)else(some (v26,v27))
def xK (n:Nat) (a1:Int) (a2:(List (List UInt8))) (m0:zf):Option zf:=
 (kQ n (zf.mk ([]:List UInt8) 0)).bind fun r1=>
 (xu n a2 n 0 r1.f_b r1.f_e).bind fun y19=>
 (z1 n ([]:List UInt8) y19.2 m0).bind fun r36=>
 (zP n a1 y19.1 r36).bind fun r37=>
 some r37
theorem be {n:Nat} {a1:Int} {a2:(List (List UInt8))} {m0:zf} {r:zf} (h:xK n a1 a2 m0=some r):AC mx 48 [qp 0,qi a1,ql 1 cS a2, .func (.func 49) [] []] [zf.cells m0] (.tuple []) [zf.cells r]:=by
 delta xK at h
 exact fnc Tryz.func48 rfl<|za<|rm [2,3] [(0,qp 0),(1,qi a1),(8,qp 1)] ⟨[zf.cells m0,[qs ([]:List UInt8),qi 0]],[]⟩ (kE ⟨[0,1],2,[],0⟩)<|za<|bE h fun r1 hr1 h=>rm [2] [(0,qp 0),(1,qi a1),(8,qp 1),(9, .func (.func 118) [qp 1] [])] ⟨[zf.cells m0,zf.cells r1],[]⟩ (kC 1 ⟨[1],2,[],0⟩ (Vg hr1)<|kE ⟨[0,1],2,[],0⟩)<|za<|za<|rs [9] [(0,qp 0),(1,qi a1),(8,qp 1),(14,ql 1 cS a2),(15,qi (List.length a2:Int)),(16,qi 0)] (kP 1 (ya (c:=cS) (l:=a2) (e:=9) (sz:=1) (sz':=1) (b:=16) (tok:= .none))<|kE ⟨[0,1],2,[],0⟩)<|blE h (fun y19=>⟨33,[(0,qp 0),(1,qi a1),(8,qp 1)]⟩) (fun y19=>⟨[zf.cells m0,[qs y19.1,qi y19.2]],[]⟩) (fun y19 h=>zS (X:=(Int×(List UInt8)×Int)) (fun x=>⟨33,[(0,qp 0),(1,qi a1),(8,qp 1),(9, .func (.func 118) [qp 1] []),(14,ql 1 cS a2),(15,qi (List.length a2:Int)),(16,qi x.1)]⟩) (fun x=>⟨[zf.cells m0,[qs x.2.1,qi x.2.2]],[]⟩) (fun k x=>xu n a2 k x.1 x.2.1 x.2.2=some y19) (fun _ hx=>by simp [xu]at hx) n (0,r1.f_b,r1.f_e) h (wk ⟨[0,1],2,[],0⟩) (fun k x h=>by obtain⟨v25,v26,v27⟩:=x; rw [xu]at h; exact za<|rs [9,14,15] [(0,qp 0),(1,qi a1),(8,qp 1),(16,qi v25),(17,qb (decide (v25<(List.length a2:Int))))] (kE ⟨[0,1],2,[],0⟩)<|za<|bF h (fun h=>zi<|za<|zB<|za<|bE h fun x34 hx34 h=>rs [9,14,15] [(0,qp 0),(1,qi a1),(8,qp 1),(11,qs x34),(16,qi v25)] (kP 0 (zx (c:=cS) (e:=9) (sz:=1) (b:=16) (tok:= .none) hx34)<|kE ⟨[0,1],2,[],0⟩)<|bE h fun r35 hr35 h=>rmN zR [9,14,15] [(0,qp 0),(1,qi a1),(8,qp 1),(16,qi v25)] ⟨[zf.cells m0,zf.cells r35],[]⟩ (kC 2 ⟨[1],2,[],0⟩ (ZI hr35)<|kE ⟨[0,1],2,[],0⟩)<|zC<|rsN zw [9,14,15] [(0,qp 0),(1,qi a1),(8,qp 1),(16,qi (IntKind.wrap .i64 (v25+1)))] (kE ⟨[0,1],2,[],0⟩)<|⟨(IntKind.wrap .i64 (v25+1),r35.f_b,r35.f_e),h,wk ⟨[0,1],2,[],0⟩⟩) fun h=>zJ<|zF<|zD<|⟨(v26,v27),sI h,wk ⟨[0,1],2,[],0⟩⟩)) fun y19 h=>za<|bE h fun r36 hr36 h=>rm [] [(0,qp 0),(1,qi a1),(8,qp 1)] ⟨[zf.cells r36,[qs y19.1,qi y19.2]],[]⟩ (kC 3 ⟨[0],2,[],0⟩ (yh hr36)<|kE ⟨[0,1],2,[],0⟩)<|bE h fun r37 hr37 h=>rmN bi [] [] ⟨[zf.cells r37],[]⟩ (kC 4 ⟨[0],2,[],0⟩ (ye hr37)<|kE ⟨[0],2,[],0⟩)<|by cases h; exact rno ⟨[0],1,[],0⟩
def jS (n:Nat) (a0:Bool):Option (List UInt8):=
 if a0=true then(some ([255]:List UInt8))else(some ([0]:List UInt8))
theorem ZM {n:Nat} {a0:Bool} {r:(List UInt8)} (h:jS n a0=some r):AC mx 119 [qb a0] [] (qs r) []:=by
 delta jS at h
 exact fnc Tryz.func119 rfl<|za<|rs [] [(0,qb a0)] (kE ⟨[],0,[],0⟩)<|za<|za<|rs [] [(3,qb a0)] (kE ⟨[],0,[],0⟩)<|bF h (fun h=>za<|rs [] [(2,qs ([255]:List UInt8))] (kE ⟨[],0,[],0⟩)<|zk<|by cases h; exact rt ⟨[],0,[],0⟩) fun h=>zi<|za<|rs [] [(2,qs ([0]:List UInt8))] (kE ⟨[],0,[],0⟩)<|zk<|by cases h; exact rt ⟨[],0,[],0⟩
def xw (n:Nat) (a1:Int) (a2:Bool) (m0:zf):Option zf:=
 if a2=true then((jS n true).bind fun r1=>
 (zP n a1 r1 m0).bind fun r2=>
 some r2)else(some m0)
theorem vG {n:Nat} {a1:Int} {a2:Bool} {m0:zf} {r:zf} (h:xw n a1 a2 m0=some r):AC mx 50 [qp 0,qi a1,qb a2] [zf.cells m0] (.tuple []) [zf.cells r]:=by
 delta xw at h
 exact fnc Tryz.func50 rfl<|za<|rs [] [(0,qp 0),(1,qi a1),(6,qb a2)] (kE ⟨[0],1,[],0⟩)<|bF h (fun h=>bE h fun r1 hr1 h=>bE h fun r2 hr2 h=>rmN bi [] [] ⟨[zf.cells r2],[]⟩ (kC 2 ⟨[],1,[],0⟩ (ZM hr1)<|kC 3 ⟨[0],1,[],0⟩ (ye hr2)<|kE ⟨[0],1,[],0⟩)<|by cases h; exact rno ⟨[0],1,[],0⟩) fun h=>zi<|by cases h; exact rno ⟨[0],1,[],0⟩
def jE (n:Nat) (a0:Int):Option Int:=
 if(a0==0)=true then(some 7)else(if(decide (a0>16))=true then(some 2)else(some 0))
theorem dT {n:Nat} {a0:Int} {r:Int} (h:jE n a0=some r):AC mx 120 [qi a0] [] (qi r) []:=by
 delta jE at h
 exact fnc Tryz.func120 rfl<|za<|rs [] [(0,qi a0)] (kE ⟨[],0,[],0⟩)<|za<|zB<|za<|rs [] [(0,qi a0),(3,qb (a0==0))] (kE ⟨[],0,[],0⟩)<|bF h (fun h=>za<|rs [] [(2,qi 7)] (kE ⟨[],0,[],0⟩)<|zk<|zU<|by cases h; exact rt ⟨[],0,[],0⟩) fun h=>za<|rs [] [(6,qb (decide (a0>16)))] (kE ⟨[],0,[],0⟩)<|bF h (fun h=>za<|rs [] [(2,qi 2)] (kE ⟨[],0,[],0⟩)<|zk<|zU<|by cases h; exact rt ⟨[],0,[],0⟩) fun h=>zi<|zC<|za<|rs [] [(2,qi 0)] (kE ⟨[],0,[],0⟩)<|zk<|by cases h; exact rt ⟨[],0,[],0⟩
def wI (n:Nat) (a0:zb):Option ((List UInt8)×Int):=
 (vZ n a0.xQ).bind fun r1=>
 if(r1.2 !=0)=true then(some (([]:List UInt8),r1.2))else((xy n 6 ([r1.1]:List (List UInt8))).bind fun r2=>
 if(r2.2 !=0)=true then(some (([]:List UInt8),r2.2))else((xy n a0.zV ([a0.wQ]:List (List UInt8))).bind fun r3=>
 if(r3.2 !=0)=true then(some (([]:List UInt8),r3.2))else((xy n 48 ([r2.1,r3.1]:List (List UInt8))).bind fun r4=>
 some (r4.1,r4.2))))
theorem gC {n:Nat} {a0:zb} {r:((List UInt8)×Int)} (h:wI n a0=some r):AC mx 214 [.agg (zb.cells a0)] [] (.tuple [qs r.1,qi r.2]) []:=by
 delta wI at h
 exact fnc Tryz.func214 rfl<|za<|rm [] [(1,qp 0)] ⟨[zb.cells a0],[]⟩ (kE ⟨[0],1,[],0⟩)<|za<|bE h fun r1 hr1 h=>rs [] [(1,qp 0),(4,qs r1.1),(5,qi r1.2)] (kC 2 ⟨[],1,[],0⟩ (qD hr1)<|kE ⟨[0],1,[],0⟩)<|za<|za<|rs [4,5] [(1,qp 0),(15,qb (r1.2 !=0))] (kE ⟨[0],1,[],0⟩)<|bF h (fun h=>za<|rm [] [(2,qs ([]:List UInt8)),(3,qi r1.2)] ⟨[],[]⟩ (kE ⟨[],1,[],0⟩)<|zk<|by cases h; exact rt ⟨[],0,[],0⟩) fun h=>zi<|za<|bE h fun r2 hr2 h=>rs [] [(1,qp 0),(5,qi r2.2),(6,qs r2.1)] (kC 2 ⟨[],1,[],0⟩ (xA hr2)<|kE ⟨[0],1,[],0⟩)<|za<|za<|rs [5,6] [(1,qp 0),(24,qb (r2.2 !=0))] (kE ⟨[0],1,[],0⟩)<|bF h (fun h=>za<|rm [] [(2,qs ([]:List UInt8)),(3,qi r2.2)] ⟨[],[]⟩ (kE ⟨[],1,[],0⟩)<|zk<|by cases h; exact rt ⟨[],0,[],0⟩) fun h=>zi<|za<|bE h fun r3 hr3 h=>rm [6] [(5,qi r3.2),(7,qs r3.1)] ⟨[],[]⟩ (kC 5 ⟨[],1,[],0⟩ (xA hr3)<|kE ⟨[],1,[],0⟩)<|za<|za<|rs [5,6,7] [(36,qb (r3.2 !=0))] (kE ⟨[],0,[],0⟩)<|bF h (fun h=>za<|rs [] [(2,qs ([]:List UInt8)),(3,qi r3.2)] (kE ⟨[],0,[],0⟩)<|zk<|by cases h; exact rt ⟨[],0,[],0⟩) fun h=>zi<|za<|bE h fun r4 hr4 h=>rs [] [(2,qs r4.1),(3,qi r4.2)] (kC 3 ⟨[],0,[],0⟩ (xA hr4)<|kE ⟨[],0,[],0⟩)<|zk<|by cases h; exact rt ⟨[],0,[],0⟩
def bt (n:Nat) (a0:(List (List UInt8))):Option (List UInt8):=
 (Qd 16 a0).bind fun x1=>
 (Xx n (List.length x1) x1).bind fun r2=>
 (ZQ n (List.length x1) ([]:List UInt8) r2).bind fun r3=>
 some r3.1
theorem Vo {n:Nat} {a0:(List (List UInt8))} {r:(List UInt8)} (h:bt n a0=some r):AC mx 215 [ql 1 cS a0] [] (qs r) []:=by
 delta bt at h
 exact fnc Tryz.func215 rfl<|za<|rs [0] [] (kE ⟨[],0,[],0⟩)<|za<|bE h fun x1 hx1 h=>rm [] [(3, .own 0 (List.length x1) 1)] ⟨[[.buf (List.map vS x1)]],[]⟩ (kV 1 0 0 0 (P0 (T:=tyT) (c:=vS) (l2:=a0) (e:=9) (e2:=9) (bytes:=16) (b2:=16) (tok2:= .none) (cell:=none) (by kernel_rfl) hx1)<|kE ⟨[0],1,[],0⟩)<|za<|bE h fun r2 hr2 h=>rm [3] [] ⟨[[.buf (List.map vS r2)]],[]⟩ (kC 1 ⟨[0],1,[],0⟩ (K2 hr2)<|kE ⟨[0],1,[],0⟩)<|za<|bE h fun r3 hr3 h=>rm [] [(2,qs r3.1)] ⟨[],[]⟩ (kC 1 ⟨[0],1,[],0⟩ (Qj hr3)<|kE ⟨[],1,[],0⟩)<|zk<|by cases h; exact rt ⟨[],0,[],0⟩
def wU (n:Nat) (x862:(List zb)):Nat→(List (List UInt8))→Int→Option (Ctl ((List UInt8)×Int) (List (List UInt8)))
 |0,_,_=>none
 | k+1,v895,v896=>
  if(decide (v896<(List.length x862:Int)))=true then((z6 x862 v896).bind fun x906=>
  (wI n x906).bind fun r907=>
  if(r907.2 !=0)=true then(some (.ret (([]:List UInt8),r907.2)))else((u4 16 v895 ([r907.1]:List (List UInt8))).bind fun x908=>
  wU n x862 k x908 (IntKind.wrap .i64 (v896+1))))else(some (.nxt v895))
def wS (n:Nat) (a0:zu):Nat→(List (List UInt8))→Int→Option (Ctl ((List UInt8)×Int) (List (List UInt8)))
 |0,_,_=>none
 | k+1,v610,v611=>
  if(decide (v611<(List.length a0.zo:Int)))=true then((z6 a0.zo v611).bind fun x862=>
  xJ (wU n x862 n ([]:List (List UInt8)) 0) (fun r=>some (.ret r)) (fun y885=>
  (bt n y885).bind fun r909=>
  (xy n 49 ([r909]:List (List UInt8))).bind fun r910=>
  if(r910.2 !=0)=true then(some (.ret (([]:List UInt8),r910.2)))else((u4 16 v610 ([r910.1]:List (List UInt8))).bind fun x911=>
  wS n a0 k x911 (IntKind.wrap .i64 (v611+1)))))else(some (.nxt v610))
def u5 (n:Nat) (a0:zu):Option ((List UInt8)×Int):=
 (wN n a0).bind fun r1=>
 if(r1 !=0)=true then(some (([]:List UInt8),r1))else(xJ (wS n a0 n ([]:List (List UInt8)) 0) (fun r=>some r) (fun y456=>
 (xy n 48 y456).bind fun r912=>
 some (r912.1,r912.2)))
theorem gY {n:Nat} {a0:zu} {r:((List UInt8)×Int)} (h:u5 n a0=some r):AC mx 164 [.agg [ql 1 (cL 3 zb.cells) a0.zo]] [] (.tuple [qs r.1,qi r.2]) []:=by
 delta u5 at h
 exact fnc Tryz.func164 rfl<|za<|rm [] [(1,qp 0)] ⟨[[ql 1 (cL 3 zb.cells) a0.zo]],[]⟩ (kE ⟨[0],1,[],0⟩)<|za<|za<|bE h fun r1 hr1 h=>rs [] [(1,qp 0),(4,qi r1)] (kC 1 ⟨[],1,[],0⟩ (jj hr1)<|kE ⟨[0],1,[],0⟩)<|za<|rs [] [(1,qp 0),(4,qi r1),(18,qb (r1 !=0))] (kE ⟨[0],1,[],0⟩)<|bF h (fun h=>za<|rm [] [(2,qs ([]:List UInt8)),(3,qi r1)] ⟨[],[]⟩ (kE ⟨[],1,[],0⟩)<|zk<|by cases h; exact rt ⟨[],0,[],0⟩) fun h=>zi<|za<|rs [] [(1,qp 0),(5,qn)] (kE ⟨[0],1,[],0⟩)<|za<|za<|rm [] [(5,qn),(21,ql 1 (cL 3 zb.cells) a0.zo),(22,qi (List.length a0.zo:Int)),(23,qi 0)] ⟨[],[]⟩ (kP 2 (ya (c:=(cL 3 zb.cells)) (l:=a0.zo) (e:=141) (sz:=1) (sz':=1) (b:=24) (tok:= .none))<|kE ⟨[],1,[],0⟩)<|blC h (fun y456=>⟨65,[(5, .sl 1 (List.map cS y456) (.fam 0 (List.length y456)))]⟩) (fun y456=>⟨[],[List.length y456]⟩) (fun o457 h hr458=>vK (wk (fr':=⟨65,[(5,qn),(21,ql 1 (cL 3 zb.cells) a0.zo),(22,qi (List.length a0.zo:Int)),(23,qi 0)]⟩) (st':=⟨[],[]⟩) ⟨[],0,[],0⟩)<|vK Wk.nilFam<|zS (X:=((List (List UInt8))×Int)) (fun x=>⟨65,[(5, .sl 1 (List.map cS x.1) (.fam 0 (List.length x.1))),(21,ql 1 (cL 3 zb.cells) a0.zo),(22,qi (List.length a0.zo:Int)),(23,qi x.2)]⟩) (fun x=>⟨[],[List.length x.1]⟩) (fun k x=>wS n a0 k x.1 x.2=some o457) (fun _ hx=>by simp [wS]at hx) n (([]:List (List UInt8)),0) h (wk ⟨[],0,[0],1⟩) (fun k x h=>by obtain⟨v610,v611⟩:=x; rw [wS]at h; exact za<|rs [5,21,22,23] [(24,qb (decide (v611<(List.length a0.zo:Int))))] (kE ⟨[],0,[0],1⟩)<|za<|bF h (fun h=>zi<|za<|zB<|za<|bE h fun x862 hx862 h=>rs [5,21,22,23] [(7,ql 3 zb.cells x862)] (kP 0 (zx (c:=(cL 3 zb.cells)) (e:=141) (sz:=1) (b:=24) (tok:= .none) hx862)<|kE ⟨[],0,[0],1⟩)<|za<|rs [5,7,21,22,23] [(8,qn)] (kE ⟨[],0,[0],1⟩)<|za<|za<|rs [5,21,22,23] [(8,qn),(27,ql 3 zb.cells x862),(28,qi (List.length x862:Int)),(29,qi 0)] (kP 1 (ya (c:=zb.cells) (l:=x862) (e:=140) (sz:=3) (sz':=3) (b:=40) (tok:= .none))<|kE ⟨[],0,[0],1⟩)<|blC h (fun y885=>⟨65,[(5, .sl 1 (List.map cS v610) (.fam 0 (List.length v610))),(8, .sl 1 (List.map cS y885) (.fam 1 (List.length y885))),(21,ql 1 (cL 3 zb.cells) a0.zo),(22,qi (List.length a0.zo:Int)),(23,qi v611)]⟩) (fun y885=>⟨[],[List.length v610,List.length y885]⟩) (fun o886 h hr887=>vK (wk (fr':=⟨65,[(5, .sl 1 (List.map cS v610) (.fam 0 (List.length v610))),(8,qn),(21,ql 1 (cL 3 zb.cells) a0.zo),(22,qi (List.length a0.zo:Int)),(23,qi v611),(27,ql 3 zb.cells x862),(28,qi (List.length x862:Int)),(29,qi 0)]⟩) (st':=⟨[],[List.length v610]⟩) ⟨[],0,[0],1⟩)<|vK Wk.nilFam<|zS (X:=((List (List UInt8))×Int)) (fun x=>⟨65,[(5, .sl 1 (List.map cS v610) (.fam 0 (List.length v610))),(8, .sl 1 (List.map cS x.1) (.fam 1 (List.length x.1))),(21,ql 1 (cL 3 zb.cells) a0.zo),(22,qi (List.length a0.zo:Int)),(23,qi v611),(27,ql 3 zb.cells x862),(28,qi (List.length x862:Int)),(29,qi x.2)]⟩) (fun x=>⟨[],[List.length v610,List.length x.1]⟩) (fun k x=>wU n x862 k x.1 x.2=some o886) (fun _ hx=>by simp [wU]at hx) n (([]:List (List UInt8)),0) h (wk ⟨[],0,[0,1],2⟩) (fun k x h=>by obtain⟨v895,v896⟩:=x; rw [wU]at h; exact za<|rs [5,8,21,22,23,27,28,29] [(30,qb (decide (v896<(List.length x862:Int))))] (kE ⟨[],0,[0,1],2⟩)<|za<|bF h (fun h=>zi<|za<|zB<|za<|bE h fun x906 hx906 h=>rm [5,8,21,22,23,27,28,29] [(10,qp 0)] ⟨[zb.cells x906],[List.length v610,List.length v895]⟩ (kP 0 (zx (c:=zb.cells) (e:=140) (sz:=3) (b:=40) (tok:= .none) hx906)<|kE ⟨[0],1,[0,1],2⟩)<|za<|bE h fun r907 hr907 h=>rm [5,8,21,22,23,27,28,29] [(11,qs r907.1),(12,qi r907.2)] ⟨[],[List.length v610,List.length v895]⟩ (kC 1 ⟨[],1,[],2⟩ (gC hr907)<|kE ⟨[],1,[0,1],2⟩)<|za<|za<|rs [5,8,11,12,21,22,23,27,28,29] [(39,qb (r907.2 !=0))] (kE ⟨[],0,[0,1],2⟩)<|bF h (fun h=>za<|rm [] [(2,qs ([]:List UInt8)),(3,qi r907.2)] ⟨[],[]⟩ (kE ⟨[],0,[],2⟩)<|zk<|zU<|ym<|have h:=hr887 _ (sI h); yj<|zU<|ym<|have h:=hr458 _ (sI h); yj<|by cases h; exact rt ⟨[],0,[],0⟩) fun h=>zi<|bE h fun x908 hx908 h=>rmN zR [5,21,22,23,27,28,29] [(8, .sl 1 (List.map cS x908) (.fam 1 (List.length x908)))] ⟨[],[List.length v610,List.length x908]⟩ (kA 3 1 cS (e:=9) (e2:=9) (sz:=1) (bytes:=16) (b2:=16) (tok2:= .exact) hx908<|kE ⟨[],0,[0,1],2⟩)<|zC<|rsN zw [5,8,21,22,23,27,28] [(29,qi (IntKind.wrap .i64 (v896+1)))] (kE ⟨[],0,[0,1],2⟩)<|⟨(x908,IntKind.wrap .i64 (v896+1)),h,wk ⟨[],0,[0,1],2⟩⟩) fun h=>zJ<|zF<|zD<|⟨v895,sI h,wk ⟨[],0,[0,1],2⟩⟩)) fun y885 h=>za<|bE h fun r909 hr909 h=>bE h fun r910 hr910 h=>rm [5,21,22,23] [(13,qs r910.1),(14,qi r910.2)] ⟨[],[List.length v610]⟩ (kC 1 ⟨[],0,[],2⟩ (Vo hr909)<|kC 3 ⟨[],0,[],2⟩ (xA hr910)<|kE ⟨[],0,[0],2⟩)<|za<|za<|rs [5,13,14,21,22,23] [(54,qb (r910.2 !=0))] (kE ⟨[],0,[0],1⟩)<|bF h (fun h=>za<|rm [] [(2,qs ([]:List UInt8)),(3,qi r910.2)] ⟨[],[]⟩ (kE ⟨[],0,[],1⟩)<|zk<|zU<|ym<|have h:=hr458 _ (sI h); yj<|by cases h; exact rt ⟨[],0,[],0⟩) fun h=>zi<|bE h fun x911 hx911 h=>rmN zR [21,22,23] [(5, .sl 1 (List.map cS x911) (.fam 0 (List.length x911)))] ⟨[],[List.length x911]⟩ (kA 3 0 cS (e:=9) (e2:=9) (sz:=1) (bytes:=16) (b2:=16) (tok2:= .exact) hx911<|kE ⟨[],0,[0],1⟩)<|zC<|rsN zw [5,21,22] [(23,qi (IntKind.wrap .i64 (v611+1)))] (kE ⟨[],0,[0],1⟩)<|⟨(x911,IntKind.wrap .i64 (v611+1)),h,wk ⟨[],0,[0],1⟩⟩) fun h=>zJ<|zF<|zD<|⟨v610,sI h,wk ⟨[],0,[0],1⟩⟩)) fun y456 h=>za<|bE h fun r912 hr912 h=>rm [] [(2,qs r912.1),(3,qi r912.2)] ⟨[],[]⟩ (kC 1 ⟨[],0,[],1⟩ (xA hr912)<|kE ⟨[],0,[],1⟩)<|zk<|by cases h; exact rt ⟨[],0,[],0⟩
def u6 (n:Nat) (a0:zc) (a1:Bool):Option ((List UInt8)×Int):=
 (yy n (zc.mk a0.zV a0.xE (zu.mk a0.zy.zo)) a1).bind fun r1=>
 if(r1 !=0)=true then(some (([]:List UInt8),r1))else(if(a0.zV !=4)=true then((xy n (IntKind.wrap .i64 ((128:Int)+a0.zV)) ([a0.xE]:List (List UInt8))).bind fun r2=>
 some (r2.1,r2.2))else((u5 n (zu.mk a0.zy.zo)).bind fun r3=>
 if(r3.2 !=0)=true then(some (([]:List UInt8),r3.2))else((xy n (IntKind.wrap .i64 ((160:Int)+a0.zV)) ([r3.1]:List (List UInt8))).bind fun r4=>
 some (r4.1,r4.2))))
theorem YF {n:Nat} {a0:zc} {a1:Bool} {r:((List UInt8)×Int)} (h:u6 n a0 a1=some r):AC mx 121 [.agg (zc.cells a0),qb a1] [] (.tuple [qs r.1,qi r.2]) []:=by
 delta u6 at h
 exact fnc Tryz.func121 rfl<|za<|rm [] [(1,qb a1),(2,qp 0)] ⟨[zc.cells a0],[]⟩ (kE ⟨[0],1,[],0⟩)<|za<|za<|bE h fun r1 hr1 h=>rs [] [(2,qp 0),(6,qi r1)] (kC 2 ⟨[],1,[],0⟩ (kT hr1)<|kE ⟨[0],1,[],0⟩)<|za<|rs [] [(2,qp 0),(6,qi r1),(13,qb (r1 !=0))] (kE ⟨[0],1,[],0⟩)<|bF h (fun h=>za<|rm [] [(4,qs ([]:List UInt8)),(5,qi r1)] ⟨[],[]⟩ (kE ⟨[],1,[],0⟩)<|zk<|by cases h; exact rt ⟨[],0,[],0⟩) fun h=>zi<|za<|za<|rs [] [(2,qp 0),(17,qb (a0.zV !=4))] (kE ⟨[0],1,[],0⟩)<|bF h (fun h=>za<|bE h fun r2 hr2 h=>rm [] [(4,qs r2.1),(5,qi r2.2)] ⟨[],[]⟩ (kC 6 ⟨[],1,[],0⟩ (xA hr2)<|kE ⟨[],1,[],0⟩)<|zk<|by cases h; exact rt ⟨[],0,[],0⟩) fun h=>zi<|za<|bE h fun r3 hr3 h=>rs [] [(2,qp 0),(7,qs r3.1),(8,qi r3.2)] (kC 2 ⟨[],1,[],0⟩ (gY hr3)<|kE ⟨[0],1,[],0⟩)<|za<|za<|rs [7,8] [(2,qp 0),(34,qb (r3.2 !=0))] (kE ⟨[0],1,[],0⟩)<|bF h (fun h=>za<|rm [] [(4,qs ([]:List UInt8)),(5,qi r3.2)] ⟨[],[]⟩ (kE ⟨[],1,[],0⟩)<|zk<|by cases h; exact rt ⟨[],0,[],0⟩) fun h=>zi<|za<|bE h fun r4 hr4 h=>rm [] [(4,qs r4.1),(5,qi r4.2)] ⟨[],[]⟩ (kC 5 ⟨[],1,[],0⟩ (xA hr4)<|kE ⟨[],1,[],0⟩)<|zk<|by cases h; exact rt ⟨[],0,[],0⟩
def xY (n:Nat) (a0:(List zc)):Nat→(List UInt8)→Int→Option (Ctl ((List UInt8)×Int) (List UInt8))
 |0,_,_=>none
 | k+1,v32,v33=>
  if(decide (v33<(List.length a0:Int)))=true then((z6 a0 v33).bind fun x43=>
  (u6 n (zc.mk x43.zV x43.xE (zu.mk x43.zy.zo)) false).bind fun r44=>
  if(r44.2 !=0)=true then(some (.ret (([]:List UInt8),r44.2)))else((dt v32 r44.1).bind fun x45=>
  xY n a0 k x45 (IntKind.wrap .i64 (v33+1))))else(some (.nxt v32))
def vD (n:Nat) (a0:(List zc)):Option ((List UInt8)×Int):=
 (jE n (List.length a0:Int)).bind fun r1=>
 if(r1 !=0)=true then(some (([]:List UInt8),r1))else(xJ (xY n a0 n ([]:List UInt8) 0) (fun r=>some r) (fun y23=>
 some (y23,0)))
theorem Zu {n:Nat} {a0:(List zc)} {r:((List UInt8)×Int)} (h:vD n a0=some r):AC mx 51 [ql 3 zc.cells a0] [] (.tuple [qs r.1,qi r.2]) []:=by
 delta vD at h
 exact fnc Tryz.func51 rfl<|za<|rs [0] [] (kE ⟨[],0,[],0⟩)<|za<|za<|bE h fun r1 hr1 h=>rs [0] [(4,qi r1)] (kP 1 (ya (c:=zc.cells) (l:=a0) (e:=59) (sz:=3) (sz':=3) (b:=48) (tok:= .none))<|kC 2 ⟨[],0,[],0⟩ (dT hr1)<|kE ⟨[],0,[],0⟩)<|za<|rs [0] [(4,qi r1),(14,qb (r1 !=0))] (kE ⟨[],0,[],0⟩)<|bF h (fun h=>za<|rs [] [(2,qs ([]:List UInt8)),(3,qi r1)] (kE ⟨[],0,[],0⟩)<|zk<|by cases h; exact rt ⟨[],0,[],0⟩) fun h=>zi<|za<|rs [0] [(5,qs ([]:List UInt8))] (kE ⟨[],0,[],0⟩)<|za<|za<|rs [5] [(16,ql 3 zc.cells a0),(17,qi (List.length a0:Int)),(18,qi 0)] (kP 1 (ya (c:=zc.cells) (l:=a0) (e:=59) (sz:=3) (sz':=3) (b:=48) (tok:= .none))<|kE ⟨[],0,[],0⟩)<|blC h (fun y23=>⟨35,[(5,qs y23)]⟩) (fun y23=>⟨[],[]⟩) (fun o24 h hr25=>zS (X:=((List UInt8)×Int)) (fun x=>⟨35,[(5,qs x.1),(16,ql 3 zc.cells a0),(17,qi (List.length a0:Int)),(18,qi x.2)]⟩) (fun x=>⟨[],[]⟩) (fun k x=>xY n a0 k x.1 x.2=some o24) (fun _ hx=>by simp [xY]at hx) n (([]:List UInt8),0) h (wk ⟨[],0,[],0⟩) (fun k x h=>by obtain⟨v32,v33⟩:=x; rw [xY]at h; exact za<|rs [16,17] [(5,qs v32),(18,qi v33),(19,qb (decide (v33<(List.length a0:Int))))] (kE ⟨[],0,[],0⟩)<|za<|bF h (fun h=>zi<|za<|zB<|za<|bE h fun x43 hx43 h=>rm [16,17] [(5,qs v32),(7,qp 0),(18,qi v33)] ⟨[zc.cells x43],[]⟩ (kP 0 (zx (c:=zc.cells) (e:=59) (sz:=3) (b:=48) (tok:= .none) hx43)<|kE ⟨[0],1,[],0⟩)<|za<|bE h fun r44 hr44 h=>rm [16,17] [(5,qs v32),(8,qs r44.1),(9,qi r44.2),(18,qi v33)] ⟨[],[]⟩ (kC 1 ⟨[],1,[],0⟩ (YF hr44)<|kE ⟨[],1,[],0⟩)<|za<|za<|rs [8,9,16,17] [(5,qs v32),(18,qi v33),(28,qb (r44.2 !=0))] (kE ⟨[],0,[],0⟩)<|bF h (fun h=>za<|rs [] [(2,qs ([]:List UInt8)),(3,qi r44.2)] (kE ⟨[],0,[],0⟩)<|zk<|zU<|ym<|have h:=hr25 _ (sI h); yj<|by cases h; exact rt ⟨[],0,[],0⟩) fun h=>zi<|bE h fun x45 hx45 h=>rsN zR [16,17] [(5,qs x45),(18,qi v33)] (kP 2 (gy (d:=(tyT 9).d) hx45)<|kE ⟨[],0,[],0⟩)<|zC<|rsN zw [16,17] [(5,qs x45),(18,qi (IntKind.wrap .i64 (v33+1)))] (kE ⟨[],0,[],0⟩)<|⟨(x45,IntKind.wrap .i64 (v33+1)),h,wk ⟨[],0,[],0⟩⟩) fun h=>zJ<|zF<|zD<|⟨v32,sI h,wk ⟨[],0,[],0⟩⟩)) fun y23 h=>za<|rs [] [(2,qs y23),(3,qi 0)] (kE ⟨[],0,[],0⟩)<|zk<|by cases h; exact rt ⟨[],0,[],0⟩
def vJ (n:Nat):Nat→Int→Int→Option Int
 |0,_,_=>none
 | k+1,v14,v15=>
  (if(decide (v15<(-128)))=true then(some true)else(some (decide (v15>127)))).bind fun y19=>
  if y19=true then(vJ n k (IntKind.wrap .i64 (v14+1)) (Int.fdiv v15 256))else(some v14)
def vQ (n:Nat) (y10:Int) (a0:Int):Nat→(List Int)→Int→Option (List Int)
 |0,_,_=>none
 | k+1,v43,v44=>
  if(decide (v44<y10))=true then((YD .i64 a0 (IntKind.wrap .u64 ((8:Int)*(IntKind.wrap .u64 (IntKind.wrap .i64 ((IntKind.wrap .i64 (y10-1))-v44)))))).bind fun x51=>
  (u4 1 v43 ([IntKind.wrap .u8 x51]:List Int)).bind fun x52=>
  vQ n y10 a0 k x52 (IntKind.wrap .i64 (v44+1)))else(some v43)
def uZ (n:Nat) (a0:Int):Option (List UInt8):=
 (vJ n  n 1 a0).bind fun y10=>
 (vQ n y10 a0 n ([]:List Int) 0).bind fun y36=>
 some (b2s y36)
theorem ZK {n:Nat} {a0:Int} {r:(List UInt8)} (h:uZ n a0=some r):AC mx 157 [qi a0] [] (qs r) []:=by
 delta uZ at h
 exact fnc Tryz.func157 rfl<|za<|rs [] [(0,qi a0)] (kE ⟨[],0,[],0⟩)<|za<|rs [] [(0,qi a0),(3,qi 1)] (kE ⟨[],0,[],0⟩)<|za<|za<|rs [] [(0,qi a0),(3,qi 1),(4,qi a0)] (kE ⟨[],0,[],0⟩)<|blE h (fun y10=>⟨37,[(0,qi a0),(3,qi y10)]⟩) (fun y10=>⟨[],[]⟩) (fun y10 h=>zS (X:=(Int×Int)) (fun x=>⟨37,[(0,qi a0),(3,qi x.1),(4,qi x.2)]⟩) (fun x=>⟨[],[]⟩) (fun k x=>vJ n  k x.1 x.2=some y10) (fun _ hx=>by simp [vJ]at hx) n (1,a0) h (wk ⟨[],0,[],0⟩) (fun k x h=>by obtain⟨v14,v15⟩:=x; rw [vJ]at h; exact za<|za<|bE h fun y19 hE h=>reg ⟨37,[(0,qi a0),(3,qi v14),(4,qi v15),(13,qb y19)]⟩ ⟨[],[]⟩ (have h:=hE; gF 3 10 h (fun h=>by cases h; exact kE ⟨[],0,[],0⟩) fun h=>by cases h; exact kE ⟨[],0,[],0⟩)<|bF h (fun h=>zi<|za<|zB<|rsN zR [] [(0,qi a0),(3,qi (IntKind.wrap .i64 (v14+1))),(4,qi v15)] (kE ⟨[],0,[],0⟩)<|zC<|rsN zw [3] [(0,qi a0),(4,qi (Int.fdiv v15 256))] (kE ⟨[],0,[],0⟩)<|⟨(IntKind.wrap .i64 (v14+1),Int.fdiv v15 256),h,wk ⟨[],0,[],0⟩⟩) fun h=>zJ<|zF<|zD<|⟨v14,sI h,wk ⟨[],0,[],0⟩⟩)) fun y10 h=>za<|rs [] [(0,qi a0),(3,qi y10),(5,qn)] (kE ⟨[],0,[],0⟩)<|za<|za<|rs [] [(0,qi a0),(3,qi y10),(5,qn),(18,qi y10),(19,qi 0)] (kE ⟨[],0,[],0⟩)<|blE h (fun y36=>⟨37,[(5, .sl 1 (List.map (cI .u8) y36) (.fam 0 (List.length y36)))]⟩) (fun y36=>⟨[],[List.length y36]⟩) (fun y36 h=>vK (wk (fr':=⟨37,[(0,qi a0),(3,qi y10),(5,qn),(18,qi y10),(19,qi 0)]⟩) (st':=⟨[],[]⟩) ⟨[],0,[],0⟩)<|vK Wk.nilFam<|zS (X:=((List Int)×Int)) (fun x=>⟨37,[(0,qi a0),(3,qi y10),(5, .sl 1 (List.map (cI .u8) x.1) (.fam 0 (List.length x.1))),(18,qi y10),(19,qi x.2)]⟩) (fun x=>⟨[],[List.length x.1]⟩) (fun k x=>vQ n y10 a0 k x.1 x.2=some y36) (fun _ hx=>by simp [vQ]at hx) n (([]:List Int),0) h (wk ⟨[],0,[0],1⟩) (fun k x h=>by obtain⟨v43,v44⟩:=x; rw [vQ]at h; exact za<|rs [5] [(0,qi a0),(3,qi y10),(18,qi y10),(19,qi v44),(20,qb (decide (v44<y10)))] (kE ⟨[],0,[0],1⟩)<|za<|bF h (fun h=>zi<|za<|zB<|za<|rs [5] [(0,qi a0),(3,qi y10),(6,qi v44),(18,qi y10),(19,qi v44)] (kE ⟨[],0,[0],1⟩)<|bE h fun x51 hx51 h=>bE h fun x52 hx52 h=>rmN zR [] [(0,qi a0),(3,qi y10),(5, .sl 1 (List.map (cI .u8) x52) (.fam 0 (List.length x52))),(18,qi y10),(19,qi v44)] ⟨[],[List.length x52]⟩ (kP 8 (pl (k:= .i64) (d:=(tyT 3).d) (k':= .u64) hx51)<|kA 11 0 (cI .u8) (e:=5) (e2:=5) (sz:=1) (bytes:=1) (b2:=1) (tok2:= .exact) hx52<|kE ⟨[],0,[0],1⟩)<|zC<|rsN zw [5] [(0,qi a0),(3,qi y10),(18,qi y10),(19,qi (IntKind.wrap .i64 (v44+1)))] (kE ⟨[],0,[0],1⟩)<|⟨(x52,IntKind.wrap .i64 (v44+1)),h,wk ⟨[],0,[0],1⟩⟩) fun h=>zJ<|zF<|zD<|⟨v43,sI h,wk ⟨[],0,[0],1⟩⟩)) fun y36 h=>za<|rm [] [(2,qs (b2s y36))] ⟨[],[]⟩ (kB 1 y36<|kE ⟨[],0,[],1⟩)<|zk<|by cases h; exact rt ⟨[],0,[],0⟩
def wx (n:Nat) (a1:Int) (a2:Int) (m0:zf):Option zf:=
 (uZ n a2).bind fun r1=>
 (zP n a1 r1 m0).bind fun r2=>
 some r2
theorem qJ {n:Nat} {a1:Int} {a2:Int} {m0:zf} {r:zf} (h:wx n a1 a2 m0=some r):AC mx 91 [qp 0,qi a1,qi a2] [zf.cells m0] (.tuple []) [zf.cells r]:=by
 delta wx at h
 exact fnc Tryz.func91 rfl<|bE h fun r1 hr1 h=>bE h fun r2 hr2 h=>rmN bi [] [] ⟨[zf.cells r2],[]⟩ (kC 3 ⟨[],1,[],0⟩ (ZK hr1)<|kC 4 ⟨[0],1,[],0⟩ (ye hr2)<|kE ⟨[0],1,[],0⟩)<|by cases h; exact rno ⟨[0],1,[],0⟩
def xI (n:Nat) (a1:Int) (m0:zf):Option zf:=
 (wx n 2 a1 m0).bind fun r1=>
 some r1
theorem vW {n:Nat} {a1:Int} {m0:zf} {r:zf} (h:xI n a1 m0=some r):AC mx 52 [qp 0,qi a1] [zf.cells m0] (.tuple []) [zf.cells r]:=by
 delta xI at h
 exact fnc Tryz.func52 rfl<|bE h fun r1 hr1 h=>rmN bi [] [] ⟨[zf.cells r1],[]⟩ (kC 2 ⟨[0],1,[],0⟩ (qJ hr1)<|kE ⟨[0],1,[],0⟩)<|by cases h; exact rno ⟨[0],1,[],0⟩
def ki (n:Nat) (m0:zf):Option zf:=
 some m0
theorem YH {n:Nat} {m0:zf} {r:zf} (h:ki n m0=some r):AC mx 54 [qp 0] [zf.cells m0] (.func (.func 104) [qp 0] []) [zf.cells r]:=by
 delta ki at h
 exact fnc Tryz.func54 rfl<|za<|rs [] [(0,qp 0)] (kE ⟨[0],1,[],0⟩)<|za<|rs [] [(2, .func (.func 104) [qp 0] [])] (kE ⟨[0],1,[],0⟩)<|zk<|by cases h; exact rt ⟨[0],1,[],0⟩
def uV (n:Nat) (a0:zv):Option (List UInt8):=
 (dt (b2s ([IntKind.wrap .u8 a0.zA]:List Int)) a0.xL).bind fun x1=>
 (dt x1 a0.zY).bind fun x2=>
 some x2
theorem ZG {n:Nat} {a0:zv} {r:(List UInt8)} (h:uV n a0=some r):AC mx 162 [.agg (zv.cells a0)] [] (qs r) []:=by
 delta uV at h
 exact fnc Tryz.func162 rfl<|za<|rm [] [(1,qp 0)] ⟨[zv.cells a0],[]⟩ (kE ⟨[0],1,[],0⟩)<|za<|bE h fun x1 hx1 h=>bE h fun x2 hx2 h=>rm [] [(2,qs x2)] ⟨[],[]⟩ (kB 4 ([IntKind.wrap .u8 a0.zA]:List Int)<|kP 7 (gy (d:=(tyT 9).d) hx1)<|kP 10 (gy (d:=(tyT 9).d) hx2)<|kE ⟨[],1,[],0⟩)<|zk<|by cases h; exact rt ⟨[],0,[],0⟩
def qQ (n:Nat) (a0:(List UInt8)) (a1:Int):Option Bool:=
 if(a1==0)=true then(some true)else((if(!(a0==([]:List UInt8)))=true then((uE a0 (IntKind.wrap .i64 ((List.length a0:Int)-1))).bind fun x1=>
 (JP .u8 1 (IntKind.wrap .u64 a1)).bind fun x2=>
 some ((wq .u8 x1 (IntKind.wrap .u8 (x2-1)))==0))else(some false)).bind fun y4=>
 some y4)
theorem pO {n:Nat} {a0:(List UInt8)} {a1:Int} {r:Bool} (h:qQ n a0 a1=some r):AC mx 213 [qs a0,qi a1] [] (qb r) []:=by
 delta qQ at h
 exact fnc Tryz.func213 rfl<|za<|rs [] [(0,qs a0),(1,qi a1)] (kE ⟨[],0,[],0⟩)<|za<|za<|rs [] [(0,qs a0),(1,qi a1),(6,qb (a1==0))] (kE ⟨[],0,[],0⟩)<|bF h (fun h=>za<|rs [] [(4,qb true)] (kE ⟨[],0,[],0⟩)<|zk<|by cases h; exact rt ⟨[],0,[],0⟩) fun h=>zi<|za<|bE h fun y4 hE h=>reg ⟨22,[(4,qb y4)]⟩ ⟨[],[]⟩ (have h:=hE; gF 3 9 h (fun h=>bE h fun x1 hx1 h=>bE h fun x2 hx2 h=>kP 7 (xB hx1)<|kP 10 (VX (k:= .u8) (d:=(tyT 5).d) (k':= .u64) hx2)<|by cases h; exact kE ⟨[],0,[],0⟩) fun h=>by cases h; exact kE ⟨[],0,[],0⟩)<|zk<|by cases h; exact rt ⟨[],0,[],0⟩
def jU (n:Nat) (a0:(List UInt8)) (a1:Int):Option ((List UInt8)×Int):=
 (if(decide (a1<0))=true then(some true)else(some (decide (a1>7)))).bind fun y2=>
 if y2=true then(some (([]:List UInt8),1))else((qQ n a0 a1).bind fun r3=>
 if(!r3)=true then(some (([]:List UInt8),7))else((dt (b2s ([IntKind.wrap .u8 a1]:List Int)) a0).bind fun x4=>
 some (x4,0)))
theorem Y2 {n:Nat} {a0:(List UInt8)} {a1:Int} {r:((List UInt8)×Int)} (h:jU n a0 a1=some r):AC mx 161 [qs a0,qi a1] [] (.tuple [qs r.1,qi r.2]) []:=by
 delta jU at h
 exact fnc Tryz.func161 rfl<|za<|rs [] [(0,qs a0),(1,qi a1)] (kE ⟨[],0,[],0⟩)<|za<|za<|bE h fun y2 hE h=>reg ⟨22,[(0,qs a0),(1,qi a1),(11,qb y2)]⟩ ⟨[],[]⟩ (have h:=hE; gF 3 8 h (fun h=>by cases h; exact kE ⟨[],0,[],0⟩) fun h=>by cases h; exact kE ⟨[],0,[],0⟩)<|bF h (fun h=>za<|rs [] [(4,qs ([]:List UInt8)),(5,qi 1)] (kE ⟨[],0,[],0⟩)<|zk<|by cases h; exact rt ⟨[],0,[],0⟩) fun h=>zi<|za<|za<|bE h fun r3 hr3 h=>rs [] [(0,qs a0),(1,qi a1),(15,qb (!r3))] (kC 2 ⟨[],0,[],0⟩ (pO hr3)<|kE ⟨[],0,[],0⟩)<|bF h (fun h=>za<|rs [] [(4,qs ([]:List UInt8)),(5,qi 7)] (kE ⟨[],0,[],0⟩)<|zk<|by cases h; exact rt ⟨[],0,[],0⟩) fun h=>zi<|za<|bE h fun x4 hx4 h=>rs [] [(4,qs x4),(5,qi 0)] (kB 3 ([IntKind.wrap .u8 a1]:List Int)<|kP 5 (gy (d:=(tyT 9).d) hx4)<|kE ⟨[],0,[],0⟩)<|zk<|by cases h; exact rt ⟨[],0,[],0⟩
def jf (n:Nat):Option (List UInt8):=
 (vZ n ([49,46,51,46,54,46,49,46,52,46,49,46,53,56,56,56,56,46,49,46,49]:List UInt8)).bind fun r1=>
 (xy n 6 ([r1.1]:List (List UInt8))).bind fun r2=>
 (xy n 48 ([r2.1]:List (List UInt8))).bind fun r3=>
 some r3.1
theorem pD {n:Nat} {r:(List UInt8)} (h:jf n  =some r):AC mx 163 [] [] (qs r) []:=by
 delta jf at h
 exact fnc Tryz.func163 rfl<|za<|rs [] [] (kE ⟨[],0,[],0⟩)<|za<|bE h fun r1 hr1 h=>rs [] [(1,qs r1.1)] (kC 0 ⟨[],0,[],0⟩ (qD hr1)<|kE ⟨[],0,[],0⟩)<|za<|bE h fun r2 hr2 h=>rs [] [(3,qs r2.1)] (kC 2 ⟨[],0,[],0⟩ (xA hr2)<|kE ⟨[],0,[],0⟩)<|za<|bE h fun r3 hr3 h=>rs [] [(5,qs r3.1)] (kC 2 ⟨[],0,[],0⟩ (xA hr3)<|kE ⟨[],0,[],0⟩)<|za<|rs [] [(0,qs r3.1)] (kE ⟨[],0,[],0⟩)<|zk<|by cases h; exact rt ⟨[],0,[],0⟩
def um (n:Nat) (a0:zv):Option ((List UInt8)×Int):=
 (uo n a0).bind fun r1=>
 if(r1 !=0)=true then(some (([]:List UInt8),r1))else((uV n a0).bind fun r2=>
 (jU n r2 0).bind fun r3=>
 if(r3.2 !=0)=true then(some (([]:List UInt8),r3.2))else((xy n 3 ([r3.1]:List (List UInt8))).bind fun r4=>
 if(r4.2 !=0)=true then(some (([]:List UInt8),r4.2))else((jf n).bind fun r5=>
 (xy n 48 ([r5,r4.1]:List (List UInt8))).bind fun r6=>
 some (r6.1,r6.2))))
theorem gf {n:Nat} {a0:zv} {r:((List UInt8)×Int)} (h:um n a0=some r):AC mx 103 [.agg (zv.cells a0)] [] (.tuple [qs r.1,qi r.2]) []:=by
 delta um at h
 exact fnc Tryz.func103 rfl<|za<|rm [] [(1,qp 0)] ⟨[zv.cells a0],[]⟩ (kE ⟨[0],1,[],0⟩)<|za<|za<|bE h fun r1 hr1 h=>rs [] [(1,qp 0),(4,qi r1)] (kC 1 ⟨[],1,[],0⟩ (ko hr1)<|kE ⟨[0],1,[],0⟩)<|za<|rs [] [(1,qp 0),(4,qi r1),(11,qb (r1 !=0))] (kE ⟨[0],1,[],0⟩)<|bF h (fun h=>za<|rm [] [(2,qs ([]:List UInt8)),(3,qi r1)] ⟨[],[]⟩ (kE ⟨[],1,[],0⟩)<|zk<|by cases h; exact rt ⟨[],0,[],0⟩) fun h=>zi<|za<|bE h fun r2 hr2 h=>bE h fun r3 hr3 h=>rm [] [(5,qs r3.1),(6,qi r3.2)] ⟨[],[]⟩ (kC 1 ⟨[],1,[],0⟩ (ZG hr2)<|kC 2 ⟨[],1,[],0⟩ (Y2 hr3)<|kE ⟨[],1,[],0⟩)<|za<|za<|rs [5,6] [(20,qb (r3.2 !=0))] (kE ⟨[],0,[],0⟩)<|bF h (fun h=>za<|rs [] [(2,qs ([]:List UInt8)),(3,qi r3.2)] (kE ⟨[],0,[],0⟩)<|zk<|by cases h; exact rt ⟨[],0,[],0⟩) fun h=>zi<|za<|bE h fun r4 hr4 h=>rs [] [(6,qi r4.2),(7,qs r4.1)] (kC 2 ⟨[],0,[],0⟩ (xA hr4)<|kE ⟨[],0,[],0⟩)<|za<|za<|rs [6,7] [(29,qb (r4.2 !=0))] (kE ⟨[],0,[],0⟩)<|bF h (fun h=>za<|rs [] [(2,qs ([]:List UInt8)),(3,qi r4.2)] (kE ⟨[],0,[],0⟩)<|zk<|by cases h; exact rt ⟨[],0,[],0⟩) fun h=>zi<|za<|bE h fun r5 hr5 h=>bE h fun r6 hr6 h=>rs [] [(2,qs r6.1),(3,qi r6.2)] (kC 0 ⟨[],0,[],0⟩ (pD hr5)<|kC 3 ⟨[],0,[],0⟩ (xA hr6)<|kE ⟨[],0,[],0⟩)<|zk<|by cases h; exact rt ⟨[],0,[],0⟩
def wl (n:Nat) (a1:ze) (m0:zf):Option zf:=
 (u5 n (zu.mk a1.zy.zo)).bind fun r1=>
 (z1 n r1.1 r1.2 (zf.mk ([]:List UInt8) 0)).bind fun r2=>
 (um n (zv.mk a1.zE.zA a1.zE.xL a1.zE.zY)).bind fun r3=>
 (z1 n r3.1 r3.2 r2).bind fun r4=>
 (z1 n ([]:List UInt8) r4.f_e m0).bind fun r5=>
 (zP n 48 r4.f_b r5).bind fun r6=>
 some r6
theorem qX {n:Nat} {a1:ze} {m0:zf} {r:zf} (h:wl n a1 m0=some r):AC mx 104 [qp 0, .agg [ql 1 (cL 3 zb.cells) a1.zy.zo,qi a1.zE.zA,qs a1.zE.xL,qs a1.zE.zY]] [zf.cells m0] (.tuple []) [zf.cells r]:=by
 delta wl at h
 exact fnc Tryz.func104 rfl<|za<|rm [] [(0,qp 0),(3,qp 1)] ⟨[zf.cells m0,[ql 1 (cL 3 zb.cells) a1.zy.zo,qi a1.zE.zA,qs a1.zE.xL,qs a1.zE.zY]],[]⟩ (kE ⟨[0,1],2,[],0⟩)<|za<|rm [] [(0,qp 0),(3,qp 1),(4,qp 2)] ⟨[zf.cells m0,[ql 1 (cL 3 zb.cells) a1.zy.zo,qi a1.zE.zA,qs a1.zE.xL,qs a1.zE.zY],[qs ([]:List UInt8),qi 0]],[]⟩ (kE ⟨[0,1,2],3,[],0⟩)<|za<|bE h fun r1 hr1 h=>bE h fun r2 hr2 h=>rm [] [(0,qp 0),(3,qp 1),(4,qp 2)] ⟨[zf.cells m0,[ql 1 (cL 3 zb.cells) a1.zy.zo,qi a1.zE.zA,qs a1.zE.xL,qs a1.zE.zY],zf.cells r2],[]⟩ (kC 2 ⟨[],3,[],0⟩ (gY hr1)<|kC 5 ⟨[2],3,[],0⟩ (yh hr2)<|kE ⟨[0,1,2],3,[],0⟩)<|za<|bE h fun r3 hr3 h=>bE h fun r4 hr4 h=>rm [] [(0,qp 0),(4,qp 1)] ⟨[zf.cells m0,zf.cells r4],[]⟩ (kC 2 ⟨[],3,[],0⟩ (gf hr3)<|kC 5 ⟨[2],3,[],0⟩ (yh hr4)<|kE ⟨[0,2],3,[],0⟩)<|za<|bE h fun r5 hr5 h=>rm [] [(0,qp 0),(4,qp 1)] ⟨[zf.cells r5,zf.cells r4],[]⟩ (kC 3 ⟨[0],2,[],0⟩ (yh hr5)<|kE ⟨[0,1],2,[],0⟩)<|bE h fun r6 hr6 h=>rmN bi [] [] ⟨[zf.cells r6],[]⟩ (kC 3 ⟨[0],2,[],0⟩ (ye hr6)<|kE ⟨[0],2,[],0⟩)<|by cases h; exact rno ⟨[0],1,[],0⟩
def xd (n:Nat) (a2:(List ze)):Nat→Int→(List UInt8)→Int→Option ((List UInt8)×Int)
 |0,_,_,_=>none
 | k+1,v25,v26,v27=>
  if(decide (v25<(List.length a2:Int)))=true then((z6 a2 v25).bind fun x34=>
  (wl n (ze.mk (zu.mk x34.zy.zo) (zv.mk x34.zE.zA x34.zE.xL x34.zE.zY)) (zf.mk v26 v27)).bind fun r35=>
  xd n a2 k (IntKind.wrap .i64 (v25+1)) r35.f_b r35.f_e)else(some (v26,v27))
def w7 (n:Nat) (a1:Int) (a2:(List ze)) (m0:zf):Option zf:=
 (ki n (zf.mk ([]:List UInt8) 0)).bind fun r1=>
 (xd n a2 n 0 r1.f_b r1.f_e).bind fun y19=>
 (z1 n ([]:List UInt8) y19.2 m0).bind fun r36=>
 (zP n a1 y19.1 r36).bind fun r37=>
 some r37
theorem dn {n:Nat} {a1:Int} {a2:(List ze)} {m0:zf} {r:zf} (h:w7 n a1 a2 m0=some r):AC mx 53 [qp 0,qi a1,ql 4 ze.cells a2, .func (.func 54) [] []] [zf.cells m0] (.tuple []) [zf.cells r]:=by
 delta w7 at h
 exact fnc Tryz.func53 rfl<|za<|rm [2,3] [(0,qp 0),(1,qi a1),(8,qp 1)] ⟨[zf.cells m0,[qs ([]:List UInt8),qi 0]],[]⟩ (kE ⟨[0,1],2,[],0⟩)<|za<|bE h fun r1 hr1 h=>rm [2] [(0,qp 0),(1,qi a1),(8,qp 1),(9, .func (.func 104) [qp 1] [])] ⟨[zf.cells m0,zf.cells r1],[]⟩ (kC 1 ⟨[1],2,[],0⟩ (YH hr1)<|kE ⟨[0,1],2,[],0⟩)<|za<|za<|rs [9] [(0,qp 0),(1,qi a1),(8,qp 1),(14,ql 4 ze.cells a2),(15,qi (List.length a2:Int)),(16,qi 0)] (kP 1 (ya (c:=ze.cells) (l:=a2) (e:=68) (sz:=4) (sz':=4) (b:=64) (tok:= .none))<|kE ⟨[0,1],2,[],0⟩)<|blE h (fun y19=>⟨33,[(0,qp 0),(1,qi a1),(8,qp 1)]⟩) (fun y19=>⟨[zf.cells m0,[qs y19.1,qi y19.2]],[]⟩) (fun y19 h=>zS (X:=(Int×(List UInt8)×Int)) (fun x=>⟨33,[(0,qp 0),(1,qi a1),(8,qp 1),(9, .func (.func 104) [qp 1] []),(14,ql 4 ze.cells a2),(15,qi (List.length a2:Int)),(16,qi x.1)]⟩) (fun x=>⟨[zf.cells m0,[qs x.2.1,qi x.2.2]],[]⟩) (fun k x=>xd n a2 k x.1 x.2.1 x.2.2=some y19) (fun _ hx=>by simp [xd]at hx) n (0,r1.f_b,r1.f_e) h (wk ⟨[0,1],2,[],0⟩) (fun k x h=>by obtain⟨v25,v26,v27⟩:=x; rw [xd]at h; exact za<|rs [9,14,15] [(0,qp 0),(1,qi a1),(8,qp 1),(16,qi v25),(17,qb (decide (v25<(List.length a2:Int))))] (kE ⟨[0,1],2,[],0⟩)<|za<|bF h (fun h=>zi<|za<|zB<|za<|bE h fun x34 hx34 h=>rm [9,14,15] [(0,qp 0),(1,qi a1),(8,qp 1),(11,qp 2),(16,qi v25)] ⟨[zf.cells m0,[qs v26,qi v27],[ql 1 (cL 3 zb.cells) x34.zy.zo,qi x34.zE.zA,qs x34.zE.xL,qs x34.zE.zY]],[]⟩ (kP 0 (zx (c:=ze.cells) (e:=68) (sz:=4) (b:=64) (tok:= .none) hx34)<|kE ⟨[0,1,2],3,[],0⟩)<|bE h fun r35 hr35 h=>rmN zR [9,14,15] [(0,qp 0),(1,qi a1),(8,qp 1),(16,qi v25)] ⟨[zf.cells m0,zf.cells r35],[]⟩ (kC 2 ⟨[1],3,[],0⟩ (qX hr35)<|kE ⟨[0,1],3,[],0⟩)<|zC<|rsN zw [9,14,15] [(0,qp 0),(1,qi a1),(8,qp 1),(16,qi (IntKind.wrap .i64 (v25+1)))] (kE ⟨[0,1],2,[],0⟩)<|⟨(IntKind.wrap .i64 (v25+1),r35.f_b,r35.f_e),h,wk ⟨[0,1],2,[],0⟩⟩) fun h=>zJ<|zF<|zD<|⟨(v26,v27),sI h,wk ⟨[0,1],2,[],0⟩⟩)) fun y19 h=>za<|bE h fun r36 hr36 h=>rm [] [(0,qp 0),(1,qi a1),(8,qp 1)] ⟨[zf.cells r36,[qs y19.1,qi y19.2]],[]⟩ (kC 3 ⟨[0],2,[],0⟩ (yh hr36)<|kE ⟨[0,1],2,[],0⟩)<|bE h fun r37 hr37 h=>rmN bi [] [] ⟨[zf.cells r37],[]⟩ (kC 4 ⟨[0],2,[],0⟩ (ye hr37)<|kE ⟨[0],2,[],0⟩)<|by cases h; exact rno ⟨[0],1,[],0⟩
def yV (n:Nat) (m0:zf):Option ((List UInt8)×Int×zf):=
 (xy n 48 ([m0.f_b]:List (List UInt8))).bind fun r1=>
 (if(m0.f_e !=0)=true then(some true)else(some (r1.2 !=0))).bind fun y3=>
 if y3=true then(some (([]:List UInt8),2,m0))else(some (r1.1,0,m0))
theorem un {n:Nat} {m0:zf} {r:((List UInt8)×Int×zf)} (h:yV n m0=some r):AC mx 55 [qp 0] [zf.cells m0] (.tuple [qs r.1,qi r.2.1]) [zf.cells r.2.2]:=by
 delta yV at h
 exact fnc Tryz.func55 rfl<|za<|rs [] [(0,qp 0)] (kE ⟨[0],1,[],0⟩)<|za<|bE h fun r1 hr1 h=>rs [] [(0,qp 0),(4,qs r1.1),(5,qi r1.2)] (kC 5 ⟨[],1,[],0⟩ (xA hr1)<|kE ⟨[0],1,[],0⟩)<|za<|za<|bE h fun y3 hE h=>reg ⟨25,[(4,qs r1.1),(23,qb y3)]⟩ ⟨[zf.cells m0],[]⟩ (have h:=hE; gF 6 20 h (fun h=>by cases h; exact kE ⟨[0],1,[],0⟩) fun h=>by cases h; exact kE ⟨[0],1,[],0⟩)<|bF h (fun h=>za<|rs [] [(2,qs ([]:List UInt8)),(3,qi 2)] (kE ⟨[0],1,[],0⟩)<|zk<|by cases h; exact rt ⟨[0],1,[],0⟩) fun h=>zi<|za<|rs [] [(2,qs r1.1),(3,qi 0)] (kE ⟨[0],1,[],0⟩)<|zk<|by cases h; exact rt ⟨[0],1,[],0⟩
def yv (n:Nat) (a0:zt):Option ((List UInt8)×Int):=
 (xt n a0).bind fun r1=>
 if(r1 !=0)=true then(some (([]:List UInt8),r1))else((uY n a0.qq).bind fun r2=>
 (z1 n r2.1 r2.2 (zf.mk ([]:List UInt8) 0)).bind fun r3=>
 (if(!(a0.zQ==([]:List UInt8)))=true then((vZ n a0.zQ).bind fun r11=>
 (z1 n ([]:List UInt8) r11.2 r3).bind fun r12=>
 (zP n 128 r11.1 r12).bind fun r13=>
 some (r13.f_b,r13.f_e))else(some (r3.f_b,r3.f_e))).bind fun y9=>
 (if(a0.wa !=0)=true then((w5 n a0.wa).bind fun r21=>
 (z1 n ([]:List UInt8) r21.2 (zf.mk y9.1 y9.2)).bind fun r22=>
 (zP n 129 r21.1 r22).bind fun r23=>
 some (r23.f_b,r23.f_e))else(some (y9.1,y9.2))).bind fun y19=>
 (if(decide ((List.length a0.zl:Int)>0))=true then((xK n 162 a0.zl (zf.mk y19.1 y19.2)).bind fun r29=>
 some (r29.f_b,r29.f_e))else(some (y19.1,y19.2))).bind fun y27=>
 (xw n 131 a0.uL (zf.mk y27.1 y27.2)).bind fun r30=>
 (xw n 132 a0.ue r30).bind fun r31=>
 (xw n 133 a0.br r31).bind fun r32=>
 (if(decide ((List.length a0.zK:Int)>0))=true then((vD n a0.zK).bind fun r40=>
 (z1 n ([]:List UInt8) r40.2 r32).bind fun r41=>
 (zP n 166 r40.1 r41).bind fun r42=>
 some (r42.f_b,r42.f_e))else(some (r32.f_b,r32.f_e))).bind fun y38=>
 (xI n a0.xl (zf.mk y38.1 y38.2)).bind fun r43=>
 (xw n 135 a0.qk r43).bind fun r44=>
 if(decide ((List.length a0.zz:Int)>0))=true then((w7 n 168 a0.zz r44).bind fun r45=>
 (yV n r45).bind fun r46=>
 some (r46.1,r46.2.1))else((yV n r44).bind fun r47=>
 some (r47.1,r47.2.1)))
theorem uy {n:Nat} {a0:zt} {r:((List UInt8)×Int)} (h:yv n a0=some r):AC mx 14 [.agg (zt.cells a0)] [] (.tuple [qs r.1,qi r.2]) []:=by
 delta yv at h
 exact fnc Tryz.func14 rfl<|za<|rm [] [(1,qp 0)] ⟨[zt.cells a0],[]⟩ (kE ⟨[0],1,[],0⟩)<|za<|za<|bE h fun r1 hr1 h=>rs [] [(1,qp 0),(4,qi r1)] (kC 1 ⟨[],1,[],0⟩ (ZS hr1)<|kE ⟨[0],1,[],0⟩)<|za<|rs [] [(1,qp 0),(4,qi r1),(15,qb (r1 !=0))] (kE ⟨[0],1,[],0⟩)<|bF h (fun h=>za<|rm [] [(2,qs ([]:List UInt8)),(3,qi r1)] ⟨[],[]⟩ (kE ⟨[],1,[],0⟩)<|zk<|by cases h; exact rt ⟨[],0,[],0⟩) fun h=>zi<|za<|rm [] [(1,qp 0),(5,qp 1)] ⟨[zt.cells a0,[qs ([]:List UInt8),qi 0]],[]⟩ (kE ⟨[0,1],2,[],0⟩)<|za<|bE h fun r2 hr2 h=>bE h fun r3 hr3 h=>rm [] [(1,qp 0),(5,qp 1)] ⟨[zt.cells a0,zf.cells r3],[]⟩ (kC 2 ⟨[],2,[],0⟩ (Xt hr2)<|kC 5 ⟨[1],2,[],0⟩ (yh hr3)<|kE ⟨[0,1],2,[],0⟩)<|za<|za<|rs [] [(1,qp 0),(5,qp 1),(25,qb (!(a0.zQ==([]:List UInt8))))] (kE ⟨[0,1],2,[],0⟩)<|cuE h (fun y9=>⟨95,[(1,qp 0),(5,qp 1)]⟩) (fun y9=>⟨[zt.cells a0,[qs y9.1,qi y9.2]],[]⟩) (fun y9 h=>bF h (fun h=>za<|bE h fun r11 hr11 h=>rs [] [(1,qp 0),(5,qp 1),(6,qs r11.1),(7,qi r11.2)] (kC 2 ⟨[],2,[],0⟩ (qD hr11)<|kE ⟨[0,1],2,[],0⟩)<|za<|bE h fun r12 hr12 h=>rm [6] [(1,qp 0),(5,qp 1)] ⟨[zt.cells a0,zf.cells r12],[]⟩ (kC 1 ⟨[1],2,[],0⟩ (yh hr12)<|kE ⟨[0,1],2,[],0⟩)<|bE h fun r13 hr13 h=>rmN zw [] [(1,qp 0),(5,qp 1)] ⟨[zt.cells a0,zf.cells r13],[]⟩ (kC 1 ⟨[1],2,[],0⟩ (ye hr13)<|kE ⟨[0,1],2,[],0⟩)<|⟨(r13.f_b,r13.f_e),sI h,wk ⟨[0,1],2,[],0⟩⟩) fun h=>zi<|⟨(r3.f_b,r3.f_e),sI h,wk ⟨[0,1],2,[],0⟩⟩) fun y9 h=>za<|za<|rs [] [(1,qp 0),(5,qp 1),(38,qb (a0.wa !=0))] (kE ⟨[0,1],2,[],0⟩)<|cuE h (fun y19=>⟨95,[(1,qp 0),(5,qp 1)]⟩) (fun y19=>⟨[zt.cells a0,[qs y19.1,qi y19.2]],[]⟩) (fun y19 h=>bF h (fun h=>za<|bE h fun r21 hr21 h=>rs [] [(1,qp 0),(5,qp 1),(8,qs r21.1),(9,qi r21.2)] (kC 2 ⟨[],2,[],0⟩ (Yq hr21)<|kE ⟨[0,1],2,[],0⟩)<|za<|bE h fun r22 hr22 h=>rm [8] [(1,qp 0),(5,qp 1)] ⟨[zt.cells a0,zf.cells r22],[]⟩ (kC 1 ⟨[1],2,[],0⟩ (yh hr22)<|kE ⟨[0,1],2,[],0⟩)<|bE h fun r23 hr23 h=>rmN zw [] [(1,qp 0),(5,qp 1)] ⟨[zt.cells a0,zf.cells r23],[]⟩ (kC 1 ⟨[1],2,[],0⟩ (ye hr23)<|kE ⟨[0,1],2,[],0⟩)<|⟨(r23.f_b,r23.f_e),sI h,wk ⟨[0,1],2,[],0⟩⟩) fun h=>zi<|⟨(y9.1,y9.2),sI h,wk ⟨[0,1],2,[],0⟩⟩) fun y19 h=>za<|za<|rs [] [(1,qp 0),(5,qp 1),(52,qb (decide ((List.length a0.zl:Int)>0)))] (kP 2 (ya (c:=cS) (l:=a0.zl) (e:=9) (sz:=1) (sz':=1) (b:=16) (tok:= .none))<|kE ⟨[0,1],2,[],0⟩)<|cuE h (fun y27=>⟨95,[(1,qp 0),(5,qp 1)]⟩) (fun y27=>⟨[zt.cells a0,[qs y27.1,qi y27.2]],[]⟩) (fun y27 h=>bF h (fun h=>bE h fun r29 hr29 h=>rmN zw [] [(1,qp 0),(5,qp 1)] ⟨[zt.cells a0,zf.cells r29],[]⟩ (kC 2 ⟨[1],2,[],0⟩ (be hr29)<|kE ⟨[0,1],2,[],0⟩)<|⟨(r29.f_b,r29.f_e),sI h,wk ⟨[0,1],2,[],0⟩⟩) fun h=>zi<|⟨(y19.1,y19.2),sI h,wk ⟨[0,1],2,[],0⟩⟩) fun y27 h=>za<|bE h fun r30 hr30 h=>rm [] [(1,qp 0),(5,qp 1)] ⟨[zt.cells a0,zf.cells r30],[]⟩ (kC 2 ⟨[1],2,[],0⟩ (vG hr30)<|kE ⟨[0,1],2,[],0⟩)<|za<|bE h fun r31 hr31 h=>rm [] [(1,qp 0),(5,qp 1)] ⟨[zt.cells a0,zf.cells r31],[]⟩ (kC 2 ⟨[1],2,[],0⟩ (vG hr31)<|kE ⟨[0,1],2,[],0⟩)<|za<|bE h fun r32 hr32 h=>rm [] [(1,qp 0),(5,qp 1)] ⟨[zt.cells a0,zf.cells r32],[]⟩ (kC 2 ⟨[1],2,[],0⟩ (vG hr32)<|kE ⟨[0,1],2,[],0⟩)<|za<|za<|rs [] [(1,qp 0),(5,qp 1),(68,qb (decide ((List.length a0.zK:Int)>0)))] (kP 2 (ya (c:=zc.cells) (l:=a0.zK) (e:=59) (sz:=3) (sz':=3) (b:=48) (tok:= .none))<|kE ⟨[0,1],2,[],0⟩)<|cuE h (fun y38=>⟨95,[(1,qp 0),(5,qp 1)]⟩) (fun y38=>⟨[zt.cells a0,[qs y38.1,qi y38.2]],[]⟩) (fun y38 h=>bF h (fun h=>za<|bE h fun r40 hr40 h=>rs [] [(1,qp 0),(5,qp 1),(10,qs r40.1),(11,qi r40.2)] (kC 2 ⟨[],2,[],0⟩ (Zu hr40)<|kE ⟨[0,1],2,[],0⟩)<|za<|bE h fun r41 hr41 h=>rm [10] [(1,qp 0),(5,qp 1)] ⟨[zt.cells a0,zf.cells r41],[]⟩ (kC 1 ⟨[1],2,[],0⟩ (yh hr41)<|kE ⟨[0,1],2,[],0⟩)<|bE h fun r42 hr42 h=>rmN zw [] [(1,qp 0),(5,qp 1)] ⟨[zt.cells a0,zf.cells r42],[]⟩ (kC 1 ⟨[1],2,[],0⟩ (ye hr42)<|kE ⟨[0,1],2,[],0⟩)<|⟨(r42.f_b,r42.f_e),sI h,wk ⟨[0,1],2,[],0⟩⟩) fun h=>zi<|⟨(r32.f_b,r32.f_e),sI h,wk ⟨[0,1],2,[],0⟩⟩) fun y38 h=>za<|bE h fun r43 hr43 h=>rm [] [(1,qp 0),(5,qp 1)] ⟨[zt.cells a0,zf.cells r43],[]⟩ (kC 2 ⟨[1],2,[],0⟩ (vW hr43)<|kE ⟨[0,1],2,[],0⟩)<|za<|bE h fun r44 hr44 h=>rm [] [(1,qp 0),(5,qp 1)] ⟨[zt.cells a0,zf.cells r44],[]⟩ (kC 2 ⟨[1],2,[],0⟩ (vG hr44)<|kE ⟨[0,1],2,[],0⟩)<|za<|za<|rs [] [(1,qp 0),(5,qp 1),(88,qb (decide ((List.length a0.zz:Int)>0)))] (kP 2 (ya (c:=ze.cells) (l:=a0.zz) (e:=68) (sz:=4) (sz':=4) (b:=64) (tok:= .none))<|kE ⟨[0,1],2,[],0⟩)<|bF h (fun h=>bE h fun r45 hr45 h=>rm [] [(5,qp 0)] ⟨[zf.cells r45],[]⟩ (kC 2 ⟨[1],2,[],0⟩ (dn hr45)<|kE ⟨[1],2,[],0⟩)<|za<|bE h fun r46 hr46 h=>rm [] [(2,qs r46.1),(3,qi r46.2.1)] ⟨[],[]⟩ (kC 0 ⟨[0],1,[],0⟩ (un hr46)<|kE ⟨[],1,[],0⟩)<|zk<|by cases h; exact rt ⟨[],0,[],0⟩) fun h=>zi<|za<|bE h fun r47 hr47 h=>rm [] [(2,qs r47.1),(3,qi r47.2.1)] ⟨[],[]⟩ (kC 0 ⟨[1],2,[],0⟩ (un hr47)<|kE ⟨[],2,[],0⟩)<|zk<|by cases h; exact rt ⟨[],0,[],0⟩
def gJ (n:Nat) (a0:Int):Option Int:=
 if(a0==1)=true then(some 128)else((JP .i64 1 (IntKind.wrap .u64 ((8:Int)*(IntKind.wrap .u64 (IntKind.wrap .i64 (a0-1)))))).bind fun x1=>
 some x1)
theorem Vi {n:Nat} {a0:Int} {r:Int} (h:gJ n a0=some r):AC mx 238 [qi a0] [] (qi r) []:=by
 delta gJ at h
 exact fnc Tryz.func238 rfl<|za<|rs [] [(0,qi a0)] (kE ⟨[],0,[],0⟩)<|za<|za<|rs [] [(0,qi a0),(4,qb (a0==1))] (kE ⟨[],0,[],0⟩)<|bF h (fun h=>za<|rs [] [(2,qi 128)] (kE ⟨[],0,[],0⟩)<|zk<|by cases h; exact rt ⟨[],0,[],0⟩) fun h=>zi<|za<|bE h fun x1 hx1 h=>rs [] [(2,qi x1)] (kP 4 (VX (k:= .i64) (d:=(tyT 3).d) (k':= .u64) hx1)<|kE ⟨[],0,[],0⟩)<|zk<|by cases h; exact rt ⟨[],0,[],0⟩
def uQ (n:Nat) (x33:(List UInt8)):Nat→Int→Int→Option Int
 |0,_,_=>none
 | k+1,v47,v48=>
  if(decide (v48<(List.length (s2b x33):Int)))=true then((z6 (s2b x33) v48).bind fun x52=>
  uQ n x33 k (ior .i64 (IntKind.wrap .i64 (v47*256)) (IntKind.wrap .i64 x52)) (IntKind.wrap .i64 (v48+1)))else(some v47)
def qc (n:Nat) (a0:(List UInt8)):Option (zd×(List UInt8)×Int):=
 if(a0==([]:List UInt8))=true then(some ((zd.mk 0 ([]:List UInt8) ([]:List UInt8)),([]:List UInt8),3))else((uE a0 0).bind fun x1=>
 if((wq .i64 (IntKind.wrap .i64 x1) 31)==31)=true then(some ((zd.mk 0 ([]:List UInt8) ([]:List UInt8)),([]:List UInt8),5))else(if(decide ((List.length a0:Int)<2))=true then(some ((zd.mk 0 ([]:List UInt8) ([]:List UInt8)),([]:List UInt8),3))else((uE a0 1).bind fun x2=>
 (if((IntKind.wrap .i64 x2)==128)=true then(some true)else(some (decide ((IntKind.wrap .i64 x2)>131)))).bind fun y4=>
 if y4=true then(some ((zd.mk 0 ([]:List UInt8) ([]:List UInt8)),([]:List UInt8),6))else(xJ (if(decide ((IntKind.wrap .i64 x2)>128))=true then(if(decide ((List.length a0:Int)<(IntKind.wrap .i64 ((2:Int)+(IntKind.wrap .i64 ((IntKind.wrap .i64 x2)-128))))))=true then(some (.ret ((zd.mk 0 ([]:List UInt8) ([]:List UInt8)),([]:List UInt8),3)))else((ssl a0 2 (IntKind.wrap .i64 ((2:Int)+(IntKind.wrap .i64 ((IntKind.wrap .i64 x2)-128))))).bind fun x33=>
 (uQ n x33 n 0 0).bind fun y43=>
 ((gJ n (IntKind.wrap .i64 ((IntKind.wrap .i64 x2)-128))).bind fun r53=>
 if(decide (y43<r53))=true then(some true)else(some (decide (y43>131072)))).bind fun y55=>
 if y55=true then(some (.ret ((zd.mk 0 ([]:List UInt8) ([]:List UInt8)),([]:List UInt8),6)))else(some (.nxt (y43,IntKind.wrap .i64 ((2:Int)+(IntKind.wrap .i64 ((IntKind.wrap .i64 x2)-128))))))))else(some (.nxt (IntKind.wrap .i64 x2,2)))) (fun r=>some r) (fun y30=>
 if(decide ((IntKind.wrap .i64 ((List.length a0:Int)-y30.2))<y30.1))=true then(some ((zd.mk 0 ([]:List UInt8) ([]:List UInt8)),([]:List UInt8),3))else((ssl a0 y30.2 (IntKind.wrap .i64 (y30.2+y30.1))).bind fun x56=>
 (ssl a0 0 (IntKind.wrap .i64 (y30.2+y30.1))).bind fun x57=>
 (ssl a0 (IntKind.wrap .i64 (y30.2+y30.1)) (List.length a0)).bind fun x58=>
 some ((zd.mk (IntKind.wrap .i64 x1) x56 x57),x58,0)))))))
theorem gW {n:Nat} {a0:(List UInt8)} {r:(zd×(List UInt8)×Int)} (h:qc n a0=some r):AC mx 192 [qs a0] [] (.tuple [.agg (zd.cells r.1),qs r.2.1,qi r.2.2]) []:=by
 delta qc at h
 exact fnc Tryz.func192 rfl<|za<|rm [] [(0,qs a0),(2,qp 0)] ⟨[[qi 0,qs ([]:List UInt8),qs ([]:List UInt8)]],[]⟩ (kE ⟨[0],1,[],0⟩)<|za<|rm [] [(0,qs a0),(2,qp 0),(5,qp 1)] ⟨[[qi 0,qs ([]:List UInt8),qs ([]:List UInt8)],[qi 0,qs ([]:List UInt8),qs ([]:List UInt8)]],[]⟩ (kE ⟨[0,1],2,[],0⟩)<|za<|za<|rs [] [(0,qs a0),(2,qp 0),(5,qp 1),(13,qb (a0==([]:List UInt8)))] (kE ⟨[0,1],2,[],0⟩)<|bF h (fun h=>za<|rm [] [(2,qp 0),(3,qs ([]:List UInt8)),(4,qi 3)] ⟨[[qi 0,qs ([]:List UInt8),qs ([]:List UInt8)]],[]⟩ (kE ⟨[0],2,[],0⟩)<|zk<|by cases h; exact rt ⟨[],1,[],0⟩) fun h=>zi<|za<|bE h fun x1 hx1 h=>rs [] [(0,qs a0),(2,qp 0),(5,qp 1),(6,qi (IntKind.wrap .i64 x1))] (kP 1 (xB hx1)<|kE ⟨[0,1],2,[],0⟩)<|za<|za<|rs [6] [(0,qs a0),(2,qp 0),(5,qp 1),(20,qb ((wq .i64 (IntKind.wrap .i64 x1) 31)==31))] (kE ⟨[0,1],2,[],0⟩)<|bF h (fun h=>za<|rm [] [(2,qp 0),(3,qs ([]:List UInt8)),(4,qi 5)] ⟨[[qi 0,qs ([]:List UInt8),qs ([]:List UInt8)]],[]⟩ (kE ⟨[0],2,[],0⟩)<|zk<|by cases h; exact rt ⟨[],1,[],0⟩) fun h=>zi<|za<|za<|rs [6] [(0,qs a0),(2,qp 0),(5,qp 1),(24,qb (decide ((List.length a0:Int)<2)))] (kE ⟨[0,1],2,[],0⟩)<|bF h (fun h=>za<|rm [] [(2,qp 0),(3,qs ([]:List UInt8)),(4,qi 3)] ⟨[[qi 0,qs ([]:List UInt8),qs ([]:List UInt8)]],[]⟩ (kE ⟨[0],2,[],0⟩)<|zk<|by cases h; exact rt ⟨[],1,[],0⟩) fun h=>zi<|za<|bE h fun x2 hx2 h=>rs [6] [(0,qs a0),(2,qp 0),(5,qp 1),(7,qi (IntKind.wrap .i64 x2)),(8,qi 2)] (kP 1 (xB hx2)<|kE ⟨[0,1],2,[],0⟩)<|za<|za<|bE h fun y4 hE h=>reg ⟨99,[(0,qs a0),(2,qp 0),(5,qp 1),(6,qi (IntKind.wrap .i64 x1)),(7,qi (IntKind.wrap .i64 x2)),(8,qi 2),(34,qb y4)]⟩ ⟨[[qi 0,qs ([]:List UInt8),qs ([]:List UInt8)],[qi 0,qs ([]:List UInt8),qs ([]:List UInt8)]],[]⟩ (have h:=hE; gF 3 31 h (fun h=>by cases h; exact kE ⟨[0,1],2,[],0⟩) fun h=>by cases h; exact kE ⟨[0,1],2,[],0⟩)<|bF h (fun h=>za<|rm [] [(2,qp 0),(3,qs ([]:List UInt8)),(4,qi 6)] ⟨[[qi 0,qs ([]:List UInt8),qs ([]:List UInt8)]],[]⟩ (kE ⟨[0],2,[],0⟩)<|zk<|by cases h; exact rt ⟨[],1,[],0⟩) fun h=>zi<|za<|za<|rs [6,7] [(0,qs a0),(2,qp 0),(5,qp 1),(8,qi 2),(37,qb (decide ((IntKind.wrap .i64 x2)>128)))] (kE ⟨[0,1],2,[],0⟩)<|cuC h (fun y30=>⟨99,[(0,qs a0),(2,qp 0),(5,qp 1),(6,qi (IntKind.wrap .i64 x1)),(7,qi y30.1),(8,qi y30.2)]⟩) (fun y30=>⟨[[qi 0,qs ([]:List UInt8),qs ([]:List UInt8)],[qi 0,qs ([]:List UInt8),qs ([]:List UInt8)]],[]⟩) (fun o31 h hr32=>bF h (fun h=>za<|rs [6] [(0,qs a0),(2,qp 0),(5,qp 1),(8,qi 2),(9,qi (IntKind.wrap .i64 ((IntKind.wrap .i64 x2)-128)))] (kE ⟨[0,1],2,[],0⟩)<|za<|za<|rs [6,9] [(0,qs a0),(2,qp 0),(5,qp 1),(8,qi 2),(44,qb (decide ((List.length a0:Int)<(IntKind.wrap .i64 ((2:Int)+(IntKind.wrap .i64 ((IntKind.wrap .i64 x2)-128)))))))] (kE ⟨[0,1],2,[],0⟩)<|bF h (fun h=>za<|rm [] [(2,qp 0),(3,qs ([]:List UInt8)),(4,qi 3)] ⟨[[qi 0,qs ([]:List UInt8),qs ([]:List UInt8)]],[]⟩ (kE ⟨[0],2,[],0⟩)<|zk<|have h:=hr32 _ (sI h); ym<|by cases h; exact rt ⟨[],1,[],0⟩) fun h=>zi<|za<|rs [6,9] [(0,qs a0),(2,qp 0),(5,qp 1),(7,qi 0),(8,qi 2)] (kE ⟨[0,1],2,[],0⟩)<|za<|za<|bE h fun x33 hx33 h=>rs [6,9] [(0,qs a0),(2,qp 0),(5,qp 1),(7,qi 0),(8,qi 2),(50,ql 1 (cI .u8) (s2b x33)),(51,qi (List.length (s2b x33):Int)),(52,qi 0)] (kP 3 (uj (k:= .i64) (k':= .i64) hx33)<|kS 4 x33<|kP 5 (ya (c:=(cI .u8)) (l:=s2b x33) (e:=5) (sz:=1) (sz':=1) (b:=1) (tok:= .none))<|kE ⟨[0,1],2,[],0⟩)<|blE h (fun y43=>⟨99,[(0,qs a0),(2,qp 0),(5,qp 1),(6,qi (IntKind.wrap .i64 x1)),(7,qi y43),(8,qi 2),(9,qi (IntKind.wrap .i64 ((IntKind.wrap .i64 x2)-128)))]⟩) (fun y43=>⟨[[qi 0,qs ([]:List UInt8),qs ([]:List UInt8)],[qi 0,qs ([]:List UInt8),qs ([]:List UInt8)]],[]⟩) (fun y43 h=>zS (X:=(Int×Int)) (fun x=>⟨99,[(0,qs a0),(2,qp 0),(5,qp 1),(6,qi (IntKind.wrap .i64 x1)),(7,qi x.1),(8,qi 2),(9,qi (IntKind.wrap .i64 ((IntKind.wrap .i64 x2)-128))),(50,ql 1 (cI .u8) (s2b x33)),(51,qi (List.length (s2b x33):Int)),(52,qi x.2)]⟩) (fun x=>⟨[[qi 0,qs ([]:List UInt8),qs ([]:List UInt8)],[qi 0,qs ([]:List UInt8),qs ([]:List UInt8)]],[]⟩) (fun k x=>uQ n x33 k x.1 x.2=some y43) (fun _ hx=>by simp [uQ]at hx) n (0,0) h (wk ⟨[0,1],2,[],0⟩) (fun k x h=>by obtain⟨v47,v48⟩:=x; rw [uQ]at h; exact za<|rs [6,9,50,51] [(0,qs a0),(2,qp 0),(5,qp 1),(7,qi v47),(8,qi 2),(52,qi v48),(53,qb (decide (v48<(List.length (s2b x33):Int))))] (kE ⟨[0,1],2,[],0⟩)<|za<|bF h (fun h=>zi<|za<|zB<|za<|bE h fun x52 hx52 h=>rs [6,9,50,51] [(0,qs a0),(2,qp 0),(5,qp 1),(7,qi v47),(8,qi 2),(11,qu x52),(52,qi v48)] (kP 0 (zx (c:=(cI .u8)) (e:=5) (sz:=1) (b:=1) (tok:= .none) hx52)<|kE ⟨[0,1],2,[],0⟩)<|rsN zR [6,9,50,51] [(0,qs a0),(2,qp 0),(5,qp 1),(7,qi (ior .i64 (IntKind.wrap .i64 (v47*256)) (IntKind.wrap .i64 x52))),(8,qi 2),(52,qi v48)] (kE ⟨[0,1],2,[],0⟩)<|zC<|rsN zw [6,7,9,50,51] [(0,qs a0),(2,qp 0),(5,qp 1),(8,qi 2),(52,qi (IntKind.wrap .i64 (v48+1)))] (kE ⟨[0,1],2,[],0⟩)<|⟨(ior .i64 (IntKind.wrap .i64 (v47*256)) (IntKind.wrap .i64 x52),IntKind.wrap .i64 (v48+1)),h,wk ⟨[0,1],2,[],0⟩⟩) fun h=>zJ<|zF<|zD<|⟨v47,sI h,wk ⟨[0,1],2,[],0⟩⟩)) fun y43 h=>za<|rs [6,9] [(0,qs a0),(2,qp 0),(5,qp 1),(7,qi y43),(8,qi (IntKind.wrap .i64 ((2:Int)+(IntKind.wrap .i64 ((IntKind.wrap .i64 x2)-128)))))] (kE ⟨[0,1],2,[],0⟩)<|za<|bE h fun y55 hE h=>reg ⟨99,[(0,qs a0),(2,qp 0),(5,qp 1),(6,qi (IntKind.wrap .i64 x1)),(7,qi y43),(8,qi (IntKind.wrap .i64 ((2:Int)+(IntKind.wrap .i64 ((IntKind.wrap .i64 x2)-128))))),(72,qb y55)]⟩ ⟨[[qi 0,qs ([]:List UInt8),qs ([]:List UInt8)],[qi 0,qs ([]:List UInt8),qs ([]:List UInt8)]],[]⟩ (have h:=hE; bE h fun r53 hr53 h=>kC 2 ⟨[],2,[],0⟩ (Vi hr53)<|gF 5 69 h (fun h=>by cases h; exact kE ⟨[0,1],2,[],0⟩) fun h=>by cases h; exact kE ⟨[0,1],2,[],0⟩)<|bF h (fun h=>za<|rm [] [(2,qp 0),(3,qs ([]:List UInt8)),(4,qi 6)] ⟨[[qi 0,qs ([]:List UInt8),qs ([]:List UInt8)]],[]⟩ (kE ⟨[0],2,[],0⟩)<|zk<|have h:=hr32 _ (sI h); ym<|by cases h; exact rt ⟨[],1,[],0⟩) fun h=>zi<|⟨(y43,IntKind.wrap .i64 ((2:Int)+(IntKind.wrap .i64 ((IntKind.wrap .i64 x2)-128)))),sI h,wk ⟨[0,1],2,[],0⟩⟩) fun h=>zi<|⟨(IntKind.wrap .i64 x2,2),sI h,wk ⟨[0,1],2,[],0⟩⟩) fun y30 h=>za<|za<|rs [6,7,8] [(0,qs a0),(2,qp 0),(5,qp 1),(79,qb (decide ((IntKind.wrap .i64 ((List.length a0:Int)-y30.2))<y30.1)))] (kE ⟨[0,1],2,[],0⟩)<|bF h (fun h=>za<|rm [] [(2,qp 0),(3,qs ([]:List UInt8)),(4,qi 3)] ⟨[[qi 0,qs ([]:List UInt8),qs ([]:List UInt8)]],[]⟩ (kE ⟨[0],2,[],0⟩)<|zk<|by cases h; exact rt ⟨[],1,[],0⟩) fun h=>zi<|za<|bE h fun x56 hx56 h=>bE h fun x57 hx57 h=>bE h fun x58 hx58 h=>zm [0,1,2,3,4,5,6,7,8,9,10,11,12,13,14,15,16,17,18,19,20] [18] [[],[],[],[],[],[3,4],[1,2,3,4,5],[],[],[],[8,9],[7,8,9,10],[0,1,2,3,4,5,6,7,8,9,10,11],[],[],[],[14,15],[13,14,15,16],[0,1,2,3,4,5,6,7,8,9,10,11,12],[0,1,2,3,4,5,6,7,8,9,10,11,12,13,14,15,16,17,18],[0,1,2,3,4,5,6,7,8,9,10,11,12,13,14,15,16,17,18,19]] [] [(2,qp 0),(3,qs x58),(4,qi 0)] ⟨[[qi (IntKind.wrap .i64 x1),qs x56,qs x57]],[]⟩ (dS [0,1,2,3,4,5]<|dP (uj (k:= .i64) (k':= .i64) hx56)<|dS [7,8,9,10]<|dP (vn (k:= .i64) hx57)<|dS [12,13,14,15,16]<|dP (vH (k:= .i64) hx58)<|dF (zN 17 (vH (k:= .i64) hx58) (zN 11 (vn (k:= .i64) hx57) (zN 6 (uj (k:= .i64) (k':= .i64) hx56) yP)))<|dS [19,20]<|dE ⟨[0],2,[],0⟩)<|zk<|by cases h; exact rt ⟨[],1,[],0⟩
def jR (n:Nat) (a0:(List UInt8)):Option (zd×Int):=
 (qc n a0).bind fun r1=>
 if(r1.2.2 !=0)=true then(some ((zd.mk 0 ([]:List UInt8) ([]:List UInt8)),r1.2.2))else(if(!(r1.2.1==([]:List UInt8)))=true then(some ((zd.mk 0 ([]:List UInt8) ([]:List UInt8)),4))else(some (r1.1,0)))
theorem qZ {n:Nat} {a0:(List UInt8)} {r:(zd×Int)} (h:jR n a0=some r):AC mx 136 [qs a0] [] (.tuple [.agg (zd.cells r.1),qi r.2]) []:=by
 delta jR at h
 exact fnc Tryz.func136 rfl<|za<|rm [] [(0,qs a0),(2,qp 0)] ⟨[[qi 0,qs ([]:List UInt8),qs ([]:List UInt8)]],[]⟩ (kE ⟨[0],1,[],0⟩)<|za<|bE h fun r1 hr1 h=>rm [] [(2,qp 0),(4,qp 1),(5,qs r1.2.1),(6,qi r1.2.2)] ⟨[[qi 0,qs ([]:List UInt8),qs ([]:List UInt8)],zd.cells r1.1],[]⟩ (kC 1 ⟨[],1,[],0⟩ (gW hr1)<|kE ⟨[0,1],2,[],0⟩)<|za<|za<|rs [5,6] [(2,qp 0),(4,qp 1),(14,qb (r1.2.2 !=0))] (kE ⟨[0,1],2,[],0⟩)<|bF h (fun h=>za<|rm [] [(2,qp 0),(3,qi r1.2.2)] ⟨[[qi 0,qs ([]:List UInt8),qs ([]:List UInt8)]],[]⟩ (kE ⟨[0],2,[],0⟩)<|zk<|by cases h; exact rt ⟨[],1,[],0⟩) fun h=>zi<|za<|za<|rs [] [(2,qp 0),(4,qp 1),(18,qb (!(r1.2.1==([]:List UInt8))))] (kE ⟨[0,1],2,[],0⟩)<|bF h (fun h=>za<|rm [] [(2,qp 0),(3,qi 4)] ⟨[[qi 0,qs ([]:List UInt8),qs ([]:List UInt8)]],[]⟩ (kE ⟨[0],2,[],0⟩)<|zk<|by cases h; exact rt ⟨[],1,[],0⟩) fun h=>zi<|za<|rm [] [(2,qp 0),(3,qi 0)] ⟨[zd.cells r1.1],[]⟩ (kE ⟨[0],2,[],0⟩)<|zk<|by cases h; exact rt ⟨[],1,[],0⟩
def w3 (n:Nat) (rc:zd→Int→Option Int) (a1:Int):Nat→(List UInt8)→Option (Ctl Int Unit)
 |0,_=>none
 | k+1,v21=>
  if(!(v21==([]:List UInt8)))=true then((qc n v21).bind fun r28=>
  if(r28.2.2 !=0)=true then(some (.ret r28.2.2))else(if(decide (a1≥16))=true then(some (.ret 8))else((rc r28.1 (IntKind.wrap .i64 (a1+1))).bind fun r29=>
  if(r29 !=0)=true then(some (.ret r29))else(w3 n rc a1 k r28.2.1))))else(some (.nxt ()))
def vX (n:Nat):Nat→zd→Int→Option Int
 |0,_,_=>none
 | kk+1,a0,a1=>
  if((wq .i64 a0.zT 32)==0)=true then(some 0)else(xJ (w3 n (vX n kk) a1 n a0.zq) (fun r=>some r) (fun y14=>
  some 0))
theorem WO {n:Nat}:∀(kk:Nat) {a0:zd} {a1:Int} {r:Int} (_:vX n kk a0 a1=some r),AC mx 191 [.agg (zd.cells a0),qi a1] [] (qi r) []:=by
 intro kk
 induction kk with
 |zero=>intro a0 a1 r h; simp [vX]at h
 | succ kk ih=>
  intro a0 a1 r h
  rw [vX]at h
  exact fnc Tryz.func191 rfl<|za<|rm [] [(1,qi a1),(2,qp 0)] ⟨[zd.cells a0],[]⟩ (kE ⟨[0],1,[],0⟩)<|za<|za<|rs [] [(1,qi a1),(2,qp 0),(13,qb ((wq .i64 a0.zT 32)==0))] (kE ⟨[0],1,[],0⟩)<|bF h (fun h=>za<|rm [] [(4,qi 0)] ⟨[],[]⟩ (kE ⟨[],1,[],0⟩)<|zk<|by cases h; exact rt ⟨[],0,[],0⟩) fun h=>zi<|za<|za<|rm [] [(1,qi a1),(5,qs a0.zq)] ⟨[],[]⟩ (kE ⟨[],1,[],0⟩)<|blC h (fun _=>⟨37,[]⟩) (fun _=>⟨[],[]⟩) (fun o15 h hr16=>zS (X:=(List UInt8)) (fun x=>⟨37,[(1,qi a1),(5,qs x)]⟩) (fun x=>⟨[],[]⟩) (fun k x=>w3 n (vX n kk) a1 k x=some o15) (fun _ hx=>by simp [w3]at hx) n a0.zq h (wk ⟨[],0,[],0⟩) (fun k x h=>by revert h; revert x; intro v21 h; rw [w3]at h; exact za<|za<|rs [] [(1,qi a1),(5,qs v21),(17,qb (!(v21==([]:List UInt8))))] (kE ⟨[],0,[],0⟩)<|bF h (fun h=>zi<|zB<|za<|bE h fun r28 hr28 h=>rm [] [(1,qi a1),(6,qp 0),(7,qs r28.2.1),(8,qi r28.2.2)] ⟨[zd.cells r28.1],[]⟩ (kC 1 ⟨[],0,[],0⟩ (gW hr28)<|kE ⟨[0],1,[],0⟩)<|za<|za<|rs [7,8] [(1,qi a1),(6,qp 0),(25,qb (r28.2.2 !=0))] (kE ⟨[0],1,[],0⟩)<|bF h (fun h=>za<|rm [] [(4,qi r28.2.2)] ⟨[],[]⟩ (kE ⟨[],1,[],0⟩)<|zk<|zU<|ym<|have h:=hr16 _ (sI h); yj<|by cases h; exact rt ⟨[],0,[],0⟩) fun h=>zi<|za<|za<|rs [7] [(1,qi a1),(6,qp 0),(28,qb (decide (a1≥16)))] (kE ⟨[0],1,[],0⟩)<|bF h (fun h=>za<|rm [] [(4,qi 8)] ⟨[],[]⟩ (kE ⟨[],1,[],0⟩)<|zk<|zU<|ym<|have h:=hr16 _ (sI h); yj<|by cases h; exact rt ⟨[],0,[],0⟩) fun h=>zi<|za<|za<|bE h fun r29 hr29 h=>rm [7] [(1,qi a1),(9,qi r29)] ⟨[],[]⟩ (kC 3 ⟨[],1,[],0⟩ (ih hr29)<|kE ⟨[],1,[],0⟩)<|za<|rs [7] [(1,qi a1),(9,qi r29),(34,qb (r29 !=0))] (kE ⟨[],0,[],0⟩)<|bF h (fun h=>za<|rs [] [(4,qi r29)] (kE ⟨[],0,[],0⟩)<|zk<|zU<|ym<|have h:=hr16 _ (sI h); yj<|by cases h; exact rt ⟨[],0,[],0⟩) fun h=>zi<|rsN (qm (P:=Tryz.prog) (gl:=gl0 mx) zw) [] [(1,qi a1),(5,qs r28.2.1)] (kE ⟨[],0,[],0⟩)<|zC<|⟨r28.2.1,h,wk ⟨[],0,[],0⟩⟩) fun h=>zJ<|zF<|zD<|⟨(),sI h,wk ⟨[],0,[],0⟩⟩)) fun y14 h=>za<|rs [] [(4,qi 0)] (kE ⟨[],0,[],0⟩)<|zk<|by cases h; exact rt ⟨[],0,[],0⟩
def jm (n:Nat) (a0:(List UInt8)):Option Int:=
 (jR n a0).bind fun r1=>
 if(r1.2 !=0)=true then(some r1.2)else((vX n n r1.1 1).bind fun r2=>
 some r2)
theorem Zx {n:Nat} {a0:(List UInt8)} {r:Int} (h:jm n a0=some r):AC mx 135 [qs a0] [] (qi r) []:=by
 delta jm at h
 exact fnc Tryz.func135 rfl<|za<|rs [] [(0,qs a0)] (kE ⟨[],0,[],0⟩)<|za<|bE h fun r1 hr1 h=>rm [] [(3,qp 0),(4,qi r1.2)] ⟨[zd.cells r1.1],[]⟩ (kC 1 ⟨[],0,[],0⟩ (qZ hr1)<|kE ⟨[0],1,[],0⟩)<|za<|za<|rs [4] [(3,qp 0),(11,qb (r1.2 !=0))] (kE ⟨[0],1,[],0⟩)<|bF h (fun h=>za<|rm [] [(2,qi r1.2)] ⟨[],[]⟩ (kE ⟨[],1,[],0⟩)<|zk<|by cases h; exact rt ⟨[],0,[],0⟩) fun h=>zi<|za<|bE h fun r2 hr2 h=>rm [] [(2,qi r2)] ⟨[],[]⟩ (kC 1 ⟨[],1,[],0⟩ (WO _ hr2)<|kE ⟨[],1,[],0⟩)<|zk<|by cases h; exact rt ⟨[],0,[],0⟩
def uT (n:Nat):Nat→(List UInt8)→(List zd)→Option (Ctl ((List zd)×Int) (List zd))
 |0,_,_=>none
 | k+1,v25,v26=>
  if(!(v25==([]:List UInt8)))=true then((qc n v25).bind fun r33=>
  if(r33.2.2 !=0)=true then(some (.ret (([]:(List zd)),r33.2.2)))else((u4 40 v26 ([r33.1]:List zd)).bind fun x34=>
  uT n k r33.2.1 x34))else(some (.nxt v26))
def ui (n:Nat) (a0:(List UInt8)):Option ((List zd)×Int):=
 xJ (uT n  n a0 ([]:List zd)) (fun r=>some r) (fun y17=>
 some (y17,0))
theorem uM {n:Nat} {a0:(List UInt8)} {r:((List zd)×Int)} (h:ui n a0=some r):AC mx 201 [qs a0] [] (.tuple [ql 3 zd.cells r.1,qi r.2]) []:=by
 delta ui at h
 exact fnc Tryz.func201 rfl<|za<|rs [] [(0,qs a0)] (kE ⟨[],0,[],0⟩)<|za<|rs [] [(0,qs a0),(4,qn)] (kE ⟨[],0,[],0⟩)<|za<|blC h (fun y17=>⟨25,[(4, .sl 3 (List.map zd.cells y17) (.fam 0 (List.length y17)))]⟩) (fun y17=>⟨[],[List.length y17]⟩) (fun o18 h hr19=>vK (wk (fr':=⟨25,[(0,qs a0),(4,qn)]⟩) (st':=⟨[],[]⟩) ⟨[],0,[],0⟩)<|vK Wk.nilFam<|zS (X:=((List UInt8)×(List zd))) (fun x=>⟨25,[(0,qs x.1),(4, .sl 3 (List.map zd.cells x.2) (.fam 0 (List.length x.2)))]⟩) (fun x=>⟨[],[List.length x.2]⟩) (fun k x=>uT n  k x.1 x.2=some o18) (fun _ hx=>by simp [uT]at hx) n (a0,([]:List zd)) h (wk ⟨[],0,[0],1⟩) (fun k x h=>by obtain⟨v25,v26⟩:=x; rw [uT]at h; exact za<|za<|rs [4] [(0,qs v25),(9,qb (!(v25==([]:List UInt8))))] (kE ⟨[],0,[0],1⟩)<|bF h (fun h=>zi<|zB<|za<|bE h fun r33 hr33 h=>rm [4] [(5,qp 0),(6,qs r33.2.1),(7,qi r33.2.2)] ⟨[zd.cells r33.1],[List.length v26]⟩ (kC 1 ⟨[],0,[],1⟩ (gW hr33)<|kE ⟨[0],1,[0],1⟩)<|za<|za<|rs [4,6,7] [(5,qp 0),(17,qb (r33.2.2 !=0))] (kE ⟨[0],1,[0],1⟩)<|bF h (fun h=>za<|rm [] [(2,qn),(3,qi r33.2.2)] ⟨[],[]⟩ (kE ⟨[],1,[],1⟩)<|zk<|zU<|ym<|have h:=hr19 _ (sI h); yj<|by cases h; exact rt ⟨[],0,[],0⟩) fun h=>zi<|za<|bE h fun x34 hx34 h=>rm [6] [(4, .sl 3 (List.map zd.cells x34) (.fam 0 (List.length x34)))] ⟨[],[List.length x34]⟩ (kA 3 0 zd.cells (e:=103) (e2:=103) (sz:=3) (bytes:=40) (b2:=40) (tok2:= .exact) hx34<|kE ⟨[],1,[0],1⟩)<|rsN (qm (P:=Tryz.prog) (gl:=gl0 mx) zw) [4] [(0,qs r33.2.1)] (kE ⟨[],0,[0],1⟩)<|zC<|⟨(r33.2.1,x34),h,wk ⟨[],0,[0],1⟩⟩) fun h=>zJ<|zF<|zD<|⟨v26,sI h,wk ⟨[],0,[0],1⟩⟩)) fun y17 h=>za<|rs [] [(2, .sl 3 (List.map zd.cells y17) (.fam 0 (List.length y17))),(3,qi 0)] (kE ⟨[],0,[0],1⟩)<|zk<|by cases h; exact rt ⟨[],0,[],1⟩
def wy (n:Nat) (a0:(List UInt8)):Option zg:=
 (ui n a0).bind fun r1=>
 some (zg.mk r1.1 (r1.2 !=0))
theorem qO {n:Nat} {a0:(List UInt8)} {r:zg} (h:wy n a0=some r):AC mx 165 [qs a0] [] (qp 0) [zg.cells r]:=by
 delta wy at h
 exact fnc Tryz.func165 rfl<|za<|rs [] [(0,qs a0)] (kE ⟨[],0,[],0⟩)<|za<|bE h fun r1 hr1 h=>rs [] [(3,ql 3 zd.cells r1.1),(4,qi r1.2)] (kC 1 ⟨[],0,[],0⟩ (uM hr1)<|kE ⟨[],0,[],0⟩)<|za<|rm [] [(2,qp 0)] ⟨[[ql 3 zd.cells r1.1,qb (r1.2 !=0)]],[]⟩ (kE ⟨[0],1,[],0⟩)<|zk<|by cases h; exact rt ⟨[0],1,[],0⟩
def wZ (n:Nat) (a0:zd):Option zg:=
 (wy n a0.zq).bind fun r1=>
 (if r1.zX=true then(some true)else(some (a0.zT !=48))).bind fun y3=>
 some (zg.mk r1.f_l y3)
theorem jp {n:Nat} {a0:zd} {r:zg} (h:wZ n a0=some r):AC mx 137 [.agg (zd.cells a0)] [] (qp 0) [zg.cells r]:=by
 delta wZ at h
 exact fnc Tryz.func137 rfl<|za<|rm [] [(1,qp 0)] ⟨[zd.cells a0],[]⟩ (kE ⟨[0],1,[],0⟩)<|za<|bE h fun r1 hr1 h=>rm [] [(1,qp 0),(3,qp 1)] ⟨[zd.cells a0,zg.cells r1],[]⟩ (kC 2 ⟨[],1,[],0⟩ (qO hr1)<|kE ⟨[0,1],2,[],0⟩)<|za<|bE h fun y3 hE h=>reg ⟨20,[(3,qp 0)]⟩ ⟨[[ql 3 zd.cells r1.f_l,qb y3]],[]⟩ (have h:=hE; gF 6 12 h (fun h=>by cases h; exact kE ⟨[1],2,[],0⟩) fun h=>by cases h; exact kE ⟨[1],2,[],0⟩)<|za<|rs [] [(2,qp 0)] (kE ⟨[0],1,[],0⟩)<|zk<|by cases h; exact rt ⟨[0],1,[],0⟩
def yb (n:Nat) (m0:zg):Option (zd×zg):=
 if((List.length m0.f_l:Int)==0)=true then(some ((zd.mk 0 ([]:List UInt8) ([]:List UInt8)),(zg.mk m0.f_l true)))else((z6 m0.f_l 0).bind fun x1=>
 (lsl m0.f_l 1 (List.length m0.f_l)).bind fun x2=>
 some (x1,(zg.mk x2 m0.zX)))
theorem yT {n:Nat} {m0:zg} {r:(zd×zg)} (h:yb n m0=some r):AC mx 138 [qp 0] [zg.cells m0] (.agg (zd.cells r.1)) [zg.cells r.2]:=by
 delta yb at h
 exact fnc Tryz.func138 rfl<|za<|rm [] [(0,qp 0),(2,qp 1)] ⟨[zg.cells m0,[qi 0,qs ([]:List UInt8),qs ([]:List UInt8)]],[]⟩ (kE ⟨[0,1],2,[],0⟩)<|za<|za<|rs [] [(0,qp 0),(2,qp 1),(9,qb ((List.length m0.f_l:Int)==0))] (kP 4 (ya (c:=zd.cells) (l:=m0.f_l) (e:=103) (sz:=3) (sz':=3) (b:=40) (tok:= .none))<|kE ⟨[0,1],2,[],0⟩)<|bF h (fun h=>za<|rm [] [(2,qp 1)] ⟨[[ql 3 zd.cells m0.f_l,qb true],[qi 0,qs ([]:List UInt8),qs ([]:List UInt8)]],[]⟩ (kE ⟨[0,1],2,[],0⟩)<|za<|rs [] [(2,qp 1)] (kE ⟨[0,1],2,[],0⟩)<|zk<|by cases h; exact rt ⟨[0],2,[],0⟩) fun h=>zi<|za<|bE h fun x1 hx1 h=>rm [] [(0,qp 0),(2,qp 1),(3,qp 2)] ⟨[zg.cells m0,[qi 0,qs ([]:List UInt8),qs ([]:List UInt8)],zd.cells x1],[]⟩ (kP 4 (zx (c:=zd.cells) (e:=103) (sz:=3) (b:=40) (tok:= .none) hx1)<|kE ⟨[0,1,2],3,[],0⟩)<|za<|bE h fun x2 hx2 h=>rm [] [(2,qp 1),(3,qp 2)] ⟨[[ql 3 zd.cells x2,qb m0.zX],[qi 0,qs ([]:List UInt8),qs ([]:List UInt8)],zd.cells x1],[]⟩ (kP 5 (gP (k:= .i64) (c:=zd.cells) (e:=103) (sz:=3) (b:=40) (tok:= .none) hx2)<|kE ⟨[0,1,2],3,[],0⟩)<|za<|rm [] [(2,qp 1)] ⟨[[ql 3 zd.cells x2,qb m0.zX],zd.cells x1],[]⟩ (kE ⟨[0,1],3,[],0⟩)<|zk<|by cases h; exact rt ⟨[0],2,[],0⟩
def jk (n:Nat) (a0:(List UInt8)):Nat→Int→Int→Option (Ctl Int Int)
 |0,_,_=>none
 | k+1,v31,v32=>
  if(decide (v32<(List.length (s2b a0):Int)))=true then((z6 (s2b a0) v32).bind fun x42=>
  (if(decide (x42<48))=true then(some true)else(some (decide (x42>57)))).bind fun y44=>
  if y44=true then(some (.ret (-1)))else(jk n a0 k (IntKind.wrap .i64 ((IntKind.wrap .i64 ((10:Int)*v31))+(IntKind.wrap .i64 (IntKind.wrap .u8 (x42-48))))) (IntKind.wrap .i64 (v32+1))))else(some (.nxt v31))
def ub (n:Nat) (a0:(List UInt8)):Option Int:=
 xJ (jk n a0 n 0 0) (fun r=>some r) (fun y22=>
 some y22)
theorem uk {n:Nat} {a0:(List UInt8)} {r:Int} (h:ub n a0=some r):AC mx 193 [qs a0] [] (qi r) []:=by
 delta ub at h
 exact fnc Tryz.func193 rfl<|za<|rs [] [(0,qs a0)] (kE ⟨[],0,[],0⟩)<|za<|rs [] [(0,qs a0),(3,qi 0)] (kE ⟨[],0,[],0⟩)<|za<|za<|rs [] [(3,qi 0),(7,ql 1 (cI .u8) (s2b a0)),(8,qi (List.length (s2b a0):Int)),(9,qi 0)] (kS 1 a0<|kP 2 (ya (c:=(cI .u8)) (l:=s2b a0) (e:=5) (sz:=1) (sz':=1) (b:=1) (tok:= .none))<|kE ⟨[],0,[],0⟩)<|blC h (fun y22=>⟨27,[(3,qi y22)]⟩) (fun y22=>⟨[],[]⟩) (fun o23 h hr24=>zS (X:=(Int×Int)) (fun x=>⟨27,[(3,qi x.1),(7,ql 1 (cI .u8) (s2b a0)),(8,qi (List.length (s2b a0):Int)),(9,qi x.2)]⟩) (fun x=>⟨[],[]⟩) (fun k x=>jk n a0 k x.1 x.2=some o23) (fun _ hx=>by simp [jk]at hx) n (0,0) h (wk ⟨[],0,[],0⟩) (fun k x h=>by obtain⟨v31,v32⟩:=x; rw [jk]at h; exact za<|rs [7,8] [(3,qi v31),(9,qi v32),(10,qb (decide (v32<(List.length (s2b a0):Int))))] (kE ⟨[],0,[],0⟩)<|za<|bF h (fun h=>zi<|za<|zB<|za<|bE h fun x42 hx42 h=>rs [7,8] [(3,qi v31),(5,qu x42),(9,qi v32)] (kP 0 (zx (c:=(cI .u8)) (e:=5) (sz:=1) (b:=1) (tok:= .none) hx42)<|kE ⟨[],0,[],0⟩)<|za<|za<|bE h fun y44 hE h=>reg ⟨27,[(3,qi v31),(5,qu x42),(7,ql 1 (cI .u8) (s2b a0)),(8,qi (List.length (s2b a0):Int)),(9,qi v32),(18,qb y44)]⟩ ⟨[],[]⟩ (have h:=hE; gF 3 15 h (fun h=>by cases h; exact kE ⟨[],0,[],0⟩) fun h=>by cases h; exact kE ⟨[],0,[],0⟩)<|bF h (fun h=>za<|rs [] [(2,qi (-1))] (kE ⟨[],0,[],0⟩)<|zk<|zU<|ym<|have h:=hr24 _ (sI h); yj<|by cases h; exact rt ⟨[],0,[],0⟩) fun h=>zi<|rsN zR [7,8] [(3,qi (IntKind.wrap .i64 ((IntKind.wrap .i64 ((10:Int)*v31))+(IntKind.wrap .i64 (IntKind.wrap .u8 (x42-48)))))),(9,qi v32)] (kE ⟨[],0,[],0⟩)<|zC<|rsN zw [3,7,8] [(9,qi (IntKind.wrap .i64 (v32+1)))] (kE ⟨[],0,[],0⟩)<|⟨(IntKind.wrap .i64 ((IntKind.wrap .i64 ((10:Int)*v31))+(IntKind.wrap .i64 (IntKind.wrap .u8 (x42-48)))),IntKind.wrap .i64 (v32+1)),h,wk ⟨[],0,[],0⟩⟩) fun h=>zJ<|zF<|zD<|⟨v31,sI h,wk ⟨[],0,[],0⟩⟩)) fun y22 h=>za<|rs [] [(2,qi y22)] (kE ⟨[],0,[],0⟩)<|zk<|by cases h; exact rt ⟨[],0,[],0⟩
def pt (n:Nat) (a0:Int) (a1:(List UInt8)):Option yz:=
 (ssl a1 0 2).bind fun x1=>
 (ssl a1 2 4).bind fun x2=>
 (ssl a1 4 6).bind fun x3=>
 (ssl a1 6 8).bind fun x4=>
 (ssl a1 8 10).bind fun x5=>
 (ub n x1).bind fun r6=>
 (ub n x2).bind fun r7=>
 (ub n x3).bind fun r8=>
 (ub n x4).bind fun r9=>
 (ub n x5).bind fun r10=>
 some (yz.mk a0 r6 r7 r8 r9 r10)
theorem Ww {n:Nat} {a0:Int} {a1:(List UInt8)} {r:yz} (h:pt n a0 a1=some r):AC mx 195 [qi a0,qs a1] [] (.agg (yz.cells r)) []:=by
 delta pt at h
 exact fnc Tryz.func195 rfl<|za<|rm [] [(0,qi a0),(1,qs a1),(4,qp 0)] ⟨[[qi 0,qi 0,qi 0,qi 0,qi 0,qi 0]],[]⟩ (kE ⟨[0],1,[],0⟩)<|za<|bE h fun x1 hx1 h=>bE h fun x2 hx2 h=>bE h fun x3 hx3 h=>bE h fun x4 hx4 h=>bE h fun x5 hx5 h=>bE h fun r6 hr6 h=>bE h fun r7 hr7 h=>bE h fun r8 hr8 h=>bE h fun r9 hr9 h=>bE h fun r10 hr10 h=>zm [0,1,2,4,5,7,8,10,11,13,14,3,6,9,12,15,16,17] [3,6,9,12,15,17] [[],[],[1],[1,2],[],[4],[1,2,3,4,5],[],[7],[1,2,3,4,5,6,7,8],[],[10],[1,2,3,4,5,6,7,8,9,10,11],[],[13],[1,2,3,4,5,6,7,8,9,10,11,12,13,14],[0,1,2,3,4,5,6,7,8,9,10,11,12,13,14,15],[0,1,2,3,4,5,6,7,8,9,10,11,12,13,14,15,16]] [] [(4,qp 0)] ⟨[[qi a0,qi r6,qi r7,qi r8,qi r9,qi r10]],[]⟩ (dS [0,1]<|dP (vn (k:= .i64) hx1)<|dS [4]<|dP (uj (k:= .i64) (k':= .i64) hx2)<|dS [7]<|dP (uj (k:= .i64) (k':= .i64) hx3)<|dS [10]<|dP (uj (k:= .i64) (k':= .i64) hx4)<|dS [13]<|dP (uj (k:= .i64) (k':= .i64) hx5)<|dC (zN 14 (uj (k:= .i64) (k':= .i64) hx5) (zN 11 (uj (k:= .i64) (k':= .i64) hx4) (zN 8 (uj (k:= .i64) (k':= .i64) hx3) (zN 5 (uj (k:= .i64) (k':= .i64) hx2) (zN 2 (vn (k:= .i64) hx1) yP))))) ⟨[],1,[],0⟩ (uk hr6)<|dC (zN 14 (uj (k:= .i64) (k':= .i64) hx5) (zN 11 (uj (k:= .i64) (k':= .i64) hx4) (zN 8 (uj (k:= .i64) (k':= .i64) hx3) (zN 5 (uj (k:= .i64) (k':= .i64) hx2) (zN 2 (vn (k:= .i64) hx1) yP))))) ⟨[],1,[],0⟩ (uk hr7)<|dC (zN 14 (uj (k:= .i64) (k':= .i64) hx5) (zN 11 (uj (k:= .i64) (k':= .i64) hx4) (zN 8 (uj (k:= .i64) (k':= .i64) hx3) (zN 5 (uj (k:= .i64) (k':= .i64) hx2) (zN 2 (vn (k:= .i64) hx1) yP))))) ⟨[],1,[],0⟩ (uk hr8)<|dC (zN 14 (uj (k:= .i64) (k':= .i64) hx5) (zN 11 (uj (k:= .i64) (k':= .i64) hx4) (zN 8 (uj (k:= .i64) (k':= .i64) hx3) (zN 5 (uj (k:= .i64) (k':= .i64) hx2) (zN 2 (vn (k:= .i64) hx1) yP))))) ⟨[],1,[],0⟩ (uk hr9)<|dC (zN 14 (uj (k:= .i64) (k':= .i64) hx5) (zN 11 (uj (k:= .i64) (k':= .i64) hx4) (zN 8 (uj (k:= .i64) (k':= .i64) hx3) (zN 5 (uj (k:= .i64) (k':= .i64) hx2) (zN 2 (vn (k:= .i64) hx1) yP))))) ⟨[],1,[],0⟩ (uk hr10)<|dS [16]<|dF (zN 14 (uj (k:= .i64) (k':= .i64) hx5) (zN 11 (uj (k:= .i64) (k':= .i64) hx4) (zN 8 (uj (k:= .i64) (k':= .i64) hx3) (zN 5 (uj (k:= .i64) (k':= .i64) hx2) (zN 2 (vn (k:= .i64) hx1) yP)))))<|dE ⟨[0],1,[],0⟩)<|zk<|by cases h; exact rt ⟨[],1,[],0⟩
def uR (n:Nat) (a0:yz):Nat→Int→Int→Option Int
 |0,_,_=>none
 | k+1,v20,v21=>
  if(decide (v21<a0.j9))=true then((jv n a0.po v21).bind fun r25=>
  uR n a0 k (IntKind.wrap .i64 (v20+r25)) (IntKind.wrap .i64 (v21+1)))else(some v20)
def gw (n:Nat) (a0:yz):Option (Int×Int):=
 (if(decide (a0.po<1950))=true then(some true)else(if(decide (a0.po>9999))=true then(some true)else(if(decide (a0.j9<1))=true then(some true)else(if(decide (a0.j9>12))=true then(some true)else(if(decide (a0.dO<1))=true then(some true)else((jv n a0.po a0.j9).bind fun r1=>
 some (decide (a0.dO>r1)))))))).bind fun y3=>
 if y3=true then(some (0,12))else((if(decide (a0.bz<0))=true then(some true)else(if(decide (a0.bz>23))=true then(some true)else(if(decide (a0.jw<0))=true then(some true)else(if(decide (a0.jw>59))=true then(some true)else(if(decide (a0.jz<0))=true then(some true)else(some (decide (a0.jz>59)))))))).bind fun y5=>
 if y5=true then(some (0,12))else((qy n a0.po).bind fun r6=>
 (uR n a0 n (IntKind.wrap .i64 ((IntKind.wrap .i64 (r6+a0.dO))-1)) 1).bind fun y16=>
 some (IntKind.wrap .i64 ((IntKind.wrap .i64 ((IntKind.wrap .i64 ((IntKind.wrap .i64 ((86400:Int)*y16))+(IntKind.wrap .i64 ((3600:Int)*a0.bz))))+(IntKind.wrap .i64 ((60:Int)*a0.jw))))+a0.jz),0)))
theorem YL {n:Nat} {a0:yz} {r:(Int×Int)} (h:gw n a0=some r):AC mx 194 [.agg (yz.cells a0)] [] (.tuple [qi r.1,qi r.2]) []:=by
 delta gw at h
 exact fnc Tryz.func194 rfl<|za<|rm [] [(1,qp 0)] ⟨[yz.cells a0],[]⟩ (kE ⟨[0],1,[],0⟩)<|za<|za<|bE h fun y3 hE h=>drw [0,1,2,3,4,5,6,7,8,9,10,11,12,13,14,15,16,17,18,19,20,21,22,23,24,25,26,27,28,29,30,31,32] [30] [[],[0],[0,1],[0,1,2],[0,1,2,3],[0,1,2,3,4],[0,1,2,3,4,5],[0,1,2,3,4,5,6],[0,1,2,3,4,5,6,7],[0,1,2,3,4,5,6,7,8],[0,1,2,3,4,5,6,7,8,9],[0,1,2,3,4,5,6,7,8,9,10],[0,1,2,3,4,5,6,7,8,9,10,11],[0,1,2,3,4,5,6,7,8,9,10,11,12],[0,1,2,3,4,5,6,7,8,9,10,11,12,13],[0,1,2,3,4,5,6,7,8,9,10,11,12,13,14],[0,1,2,3,4,5,6,7,8,9,10,11,12,13,14,15],[0,1,2,3,4,5,6,7,8,9,10,11,12,13,14,15,16],[0,1,2,3,4,5,6,7,8,9,10,11,12,13,14,15,16,17],[0,1,2,3,4,5,6,7,8,9,10,11,12,13,14,15,16,17,18],[0,1,2,3,4,5,6,7,8,9,10,11,12,13,14,15,16,17,18,19],[0,1,2,3,4,5,6,7,8,9,10,11,12,13,14,15,16,17,18,19,20],[0,1,2,3,4,5,6,7,8,9,10,11,12,13,14,15,16,17,18,19,20,21],[0,1,2,3,4,5,6,7,8,9,10,11,12,13,14,15,16,17,18,19,20,21,22],[0,1,2,3,4,5,6,7,8,9,10,11,12,13,14,15,16,17,18,19,20,21,22,23],[0,1,2,3,4,5,6,7,8,9,10,11,12,13,14,15,16,17,18,19,20,21,22,23,24],[0,1,2,3,4,5,6,7,8,9,10,11,12,13,14,15,16,17,18,19,20,21,22,23],[0,1,2,3,4,5,6,7,8,9,10,11,12,13,14,15,16,17,18,19,20,21,22,23,26],[0,1,2,3,4,5,6,7,8,9,10,11,12,13,14,15,16,17,18,19,20,21,22,23],[0,1,2,3,4,5,6,7,8,9,10,11,12,13,14,15,16,17,18,19,20,21,22,23,28],[0,1,2,3,4,5,6,7,8,9,10,11,12,13,14,15,16,17,18,19,20,21,22,23,26,27,28,29],[0,1,2,3,4,5,6,7,8,9,10,11,12,13,14,15,16,17,18,19,20,21,22,23,24,25,26,27,28,29,30],[0,1,2,3,4,5,6,7,8,9,10,11,12,13,14,15,16,17,18,19,20,21,22,23,24,25,26,27,28,29,30,31]] ⟨99,[(1,qp 0),(38,qb y3)]⟩ ⟨[yz.cells a0],[]⟩ (have h:=hE; dS [0,1,2,3]<|hF 9 h (fun h=>dS [4,5,6,7,8,9,10,11,12,13,14,15,16,17,18,19,20,21,22,23,24,25,26,27,28,29]<|dF yP<|dS [31,32]<|by cases h; exact dE ⟨[0],1,[],0⟩) fun h=>dS [4,5,6,7,8]<|hF 14 h (fun h=>dS [9,10,11,12,13,14,15,16,17,18,19,20,21,22,23,24,25,26,27,28,29]<|dF yP<|dS [31,32]<|by cases h; exact dE ⟨[0],1,[],0⟩) fun h=>dS [9,10,11,12,13]<|hF 19 h (fun h=>dS [14,15,16,17,18,19,20,21,22,23,24,25,26,27,28,29]<|dF yP<|dS [31,32]<|by cases h; exact dE ⟨[0],1,[],0⟩) fun h=>dS [14,15,16,17,18]<|hF 24 h (fun h=>dS [19,20,21,22,23,24,25,26,27,28,29]<|dF yP<|dS [31,32]<|by cases h; exact dE ⟨[0],1,[],0⟩) fun h=>dS [19,20,21,22,23]<|hF 29 h (fun h=>dS [24,25,26,27,28,29]<|dF yP<|dS [31,32]<|by cases h; exact dE ⟨[0],1,[],0⟩) fun h=>bE h fun r1 hr1 h=>dS [24,25,26,27,28,29]<|dC yP ⟨[],1,[],0⟩ (qa hr1)<|dS [31,32]<|by cases h; exact dE ⟨[0],1,[],0⟩)<|bF h (fun h=>za<|rm [] [(2,qi 0),(3,qi 12)] ⟨[],[]⟩ (kE ⟨[],1,[],0⟩)<|zk<|by cases h; exact rt ⟨[],0,[],0⟩) fun h=>zi<|za<|za<|bE h fun y5 hE h=>reg ⟨99,[(1,qp 0),(66,qb y5)]⟩ ⟨[yz.cells a0],[]⟩ (have h:=hE; gF 4 42 h (fun h=>by cases h; exact kE ⟨[0],1,[],0⟩) fun h=>gF 9 47 h (fun h=>by cases h; exact kE ⟨[0],1,[],0⟩) fun h=>gF 14 52 h (fun h=>by cases h; exact kE ⟨[0],1,[],0⟩) fun h=>gF 19 57 h (fun h=>by cases h; exact kE ⟨[0],1,[],0⟩) fun h=>gF 24 62 h (fun h=>by cases h; exact kE ⟨[0],1,[],0⟩) fun h=>by cases h; exact kE ⟨[0],1,[],0⟩)<|bF h (fun h=>za<|rm [] [(2,qi 0),(3,qi 12)] ⟨[],[]⟩ (kE ⟨[],1,[],0⟩)<|zk<|by cases h; exact rt ⟨[],0,[],0⟩) fun h=>zi<|za<|bE h fun r6 hr6 h=>zs [0,1,3,4,2,5,6,7] [2] [[],[0],[0,1],[],[3],[0,1,2,3,4],[0,1,2,3,4,5],[0,1,2,3,4,5,6]] [] [(1,qp 0),(4,qi (IntKind.wrap .i64 ((IntKind.wrap .i64 (r6+a0.dO))-1)))] (dS [0,1,3,4]<|dC yP ⟨[],1,[],0⟩ (kK hr6)<|dS [5,6,7]<|dE ⟨[0],1,[],0⟩)<|za<|za<|rs [4] [(1,qp 0),(5,qi 1)] (kE ⟨[0],1,[],0⟩)<|blE h (fun y16=>⟨99,[(1,qp 0),(4,qi y16)]⟩) (fun y16=>⟨[yz.cells a0],[]⟩) (fun y16 h=>zS (X:=(Int×Int)) (fun x=>⟨99,[(1,qp 0),(4,qi x.1),(5,qi x.2)]⟩) (fun x=>⟨[yz.cells a0],[]⟩) (fun k x=>uR n a0 k x.1 x.2=some y16) (fun _ hx=>by simp [uR]at hx) n (IntKind.wrap .i64 ((IntKind.wrap .i64 (r6+a0.dO))-1),1) h (wk ⟨[0],1,[],0⟩) (fun k x h=>by obtain⟨v20,v21⟩:=x; rw [uR]at h; exact za<|za<|rs [] [(1,qp 0),(4,qi v20),(5,qi v21),(77,qb (decide (v21<a0.j9)))] (kE ⟨[0],1,[],0⟩)<|bF h (fun h=>zi<|za<|zB<|bE h fun r25 hr25 h=>rsN zR [] [(1,qp 0),(4,qi (IntKind.wrap .i64 (v20+r25))),(5,qi v21)] (kC 4 ⟨[],1,[],0⟩ (qa hr25)<|kE ⟨[0],1,[],0⟩)<|zC<|rsN zw [4] [(1,qp 0),(5,qi (IntKind.wrap .i64 (v21+1)))] (kE ⟨[0],1,[],0⟩)<|⟨(IntKind.wrap .i64 (v20+r25),IntKind.wrap .i64 (v21+1)),h,wk ⟨[0],1,[],0⟩⟩) fun h=>zJ<|zF<|zD<|⟨v20,sI h,wk ⟨[0],1,[],0⟩⟩)) fun y16 h=>za<|rm [] [(2,qi (IntKind.wrap .i64 ((IntKind.wrap .i64 ((IntKind.wrap .i64 ((IntKind.wrap .i64 ((86400:Int)*y16))+(IntKind.wrap .i64 ((3600:Int)*a0.bz))))+(IntKind.wrap .i64 ((60:Int)*a0.jw))))+a0.jz))),(3,qi 0)] ⟨[],[]⟩ (kE ⟨[],1,[],0⟩)<|zk<|by cases h; exact rt ⟨[],0,[],0⟩
def uO (n:Nat) (a0:Int) (a1:(List UInt8)):Option (Int×Int):=
 xJ (if(a0==23)=true then(some (.nxt 2))else(if(a0==24)=true then(some (.nxt 4))else(some (.ret (0,5))))) (fun r=>some r) (fun y2=>
 (if((List.length a1:Int) !=(IntKind.wrap .i64 (y2+11)))=true then(some true)else((uE a1 (IntKind.wrap .i64 (y2+10))).bind fun x5=>
 some (x5 !=90))).bind fun y7=>
 if y7=true then(some (0,12))else((ssl a1 0 y2).bind fun x8=>
 (ub n x8).bind fun r9=>
 xJ ((if(decide (r9<0))=true then(some true)else(if(y2==4)=true then(some (decide (r9<2050)))else(some false))).bind fun y23=>
 if y23=true then(some (.ret (0,12)))else((if(y2==2)=true then(some (decide (r9≥50)))else(some false)).bind fun y25=>
 if y25=true then(some (.nxt (IntKind.wrap .i64 (r9+1900))))else(if(y2==2)=true then(some (.nxt (IntKind.wrap .i64 (r9+2000))))else(some (.nxt r9))))) (fun r=>some r) (fun y19=>
 (ssl a1 y2 (List.length a1)).bind fun x26=>
 (pt n y19 x26).bind fun r27=>
 (gw n r27).bind fun r28=>
 some (r28.1,r28.2))))
theorem XK {n:Nat} {a0:Int} {a1:(List UInt8)} {r:(Int×Int)} (h:uO n a0 a1=some r):AC mx 139 [qi a0,qs a1] [] (.tuple [qi r.1,qi r.2]) []:=by
 delta uO at h
 exact fnc Tryz.func139 rfl<|za<|rs [] [(0,qi a0),(1,qs a1)] (kE ⟨[],0,[],0⟩)<|za<|rs [] [(0,qi a0),(1,qs a1)] (kE ⟨[],0,[],0⟩)<|za<|za<|rs [] [(1,qs a1),(8,qi a0)] (kE ⟨[],0,[],0⟩)<|blC h (fun y2=>⟨62,[(1,qs a1),(6,qi y2)]⟩) (fun y2=>⟨[],[]⟩) (fun o3 h hr4=>za<|rs [] [(1,qs a1),(8,qi a0),(9,qb (a0==23))] (kE ⟨[],0,[],0⟩)<|bF h (fun h=>rsN yu [] [(1,qs a1),(6,qi 2)] (kE ⟨[],0,[],0⟩)<|⟨2,sI h,wk ⟨[],0,[],0⟩⟩) fun h=>za<|rs [] [(1,qs a1),(11,qb (a0==24))] (kE ⟨[],0,[],0⟩)<|bF h (fun h=>rsN yu [] [(1,qs a1),(6,qi 4)] (kE ⟨[],0,[],0⟩)<|⟨4,sI h,wk ⟨[],0,[],0⟩⟩) fun h=>za<|rs [] [(4,qi 0),(5,qi 5)] (kE ⟨[],0,[],0⟩)<|zk<|have h:=hr4 _ (sI h); yj<|by cases h; exact rt ⟨[],0,[],0⟩) fun y2 h=>za<|za<|bE h fun y7 hE h=>reg ⟨62,[(1,qs a1),(6,qi y2),(24,qb y7)]⟩ ⟨[],[]⟩ (have h:=hE; gF 6 18 h (fun h=>by cases h; exact kE ⟨[],0,[],0⟩) fun h=>bE h fun x5 hx5 h=>kP 9 (xB hx5)<|by cases h; exact kE ⟨[],0,[],0⟩)<|bF h (fun h=>za<|rs [] [(4,qi 0),(5,qi 12)] (kE ⟨[],0,[],0⟩)<|zk<|by cases h; exact rt ⟨[],0,[],0⟩) fun h=>zi<|za<|bE h fun x8 hx8 h=>bE h fun r9 hr9 h=>rs [] [(1,qs a1),(6,qi y2),(7,qi r9)] (kP 2 (vn (k:= .i64) hx8)<|kC 3 ⟨[],0,[],0⟩ (uk hr9)<|kE ⟨[],0,[],0⟩)<|za<|blC h (fun y19=>⟨62,[(1,qs a1),(6,qi y2),(7,qi y19)]⟩) (fun y19=>⟨[],[]⟩) (fun o20 h hr21=>za<|bE h fun y23 hE h=>reg ⟨62,[(1,qs a1),(6,qi y2),(7,qi r9),(29,qb y23)]⟩ ⟨[],[]⟩ (have h:=hE; gF 3 32 h (fun h=>by cases h; exact kE ⟨[],0,[],0⟩) fun h=>gF 6 35 h (fun h=>by cases h; exact kE ⟨[],0,[],0⟩) fun h=>by cases h; exact kE ⟨[],0,[],0⟩)<|bF h (fun h=>za<|rs [] [(4,qi 0),(5,qi 12)] (kE ⟨[],0,[],0⟩)<|zk<|have h:=hr21 _ (sI h); yj<|by cases h; exact rt ⟨[],0,[],0⟩) fun h=>za<|bE h fun y25 hE h=>reg ⟨62,[(1,qs a1),(6,qi y2),(7,qi r9),(40,qb y25)]⟩ ⟨[],[]⟩ (have h:=hE; gF 3 43 h (fun h=>by cases h; exact kE ⟨[],0,[],0⟩) fun h=>by cases h; exact kE ⟨[],0,[],0⟩)<|bF h (fun h=>rsN yu [] [(1,qs a1),(6,qi y2),(7,qi (IntKind.wrap .i64 (r9+1900)))] (kE ⟨[],0,[],0⟩)<|⟨IntKind.wrap .i64 (r9+1900),sI h,wk ⟨[],0,[],0⟩⟩) fun h=>za<|rs [] [(1,qs a1),(6,qi y2),(7,qi r9),(49,qb (y2==2))] (kE ⟨[],0,[],0⟩)<|bF h (fun h=>rsN yu [] [(1,qs a1),(6,qi y2),(7,qi (IntKind.wrap .i64 (r9+2000)))] (kE ⟨[],0,[],0⟩)<|⟨IntKind.wrap .i64 (r9+2000),sI h,wk ⟨[],0,[],0⟩⟩) fun h=>zi<|⟨r9,sI h,wk ⟨[],0,[],0⟩⟩) fun y19 h=>za<|bE h fun x26 hx26 h=>bE h fun r27 hr27 h=>bE h fun r28 hr28 h=>rs [] [(4,qi r28.1),(5,qi r28.2)] (kP 3 (vH (k:= .i64) hx26)<|kC 4 ⟨[],0,[],0⟩ (Ww hr27)<|kC 5 ⟨[],0,[],0⟩ (YL hr28)<|kE ⟨[],0,[],0⟩)<|zk<|by cases h; exact rt ⟨[],0,[],0⟩
def zM (n:Nat) (a1:Int) (m0:zg):Option zg:=
 (if m0.zX=true then(some true)else(some (a1 !=0))).bind fun y2=>
 some (zg.mk m0.f_l y2)
theorem yB {n:Nat} {a1:Int} {m0:zg} {r:zg} (h:zM n a1 m0=some r):AC mx 140 [qp 0,qi a1] [zg.cells m0] (.tuple []) [zg.cells r]:=by
 delta zM at h
 exact fnc Tryz.func140 rfl<|bE h fun y2 hE h=>DY ⟨15,[]⟩ ⟨[[ql 3 zd.cells m0.f_l,qb y2]],[]⟩ bi (have h:=hE; gF 6 9 h (fun h=>by cases h; exact kE ⟨[0],1,[],0⟩) fun h=>by cases h; exact kE ⟨[0],1,[],0⟩)<|by cases h; exact rno ⟨[0],1,[],0⟩
def yq (n:Nat) (a1:Int) (m0:zg):Option (zd×Bool×zg):=
 (if((List.length m0.f_l:Int)==0)=true then(some true)else((z6 m0.f_l 0).bind fun x1=>
 some (x1.zT !=a1))).bind fun y3=>
 if y3=true then(some ((zd.mk 0 ([]:List UInt8) ([]:List UInt8)),false,m0))else((yb n m0).bind fun r4=>
 some (r4.1,true,r4.2))
theorem xP {n:Nat} {a1:Int} {m0:zg} {r:(zd×Bool×zg)} (h:yq n a1 m0=some r):AC mx 141 [qp 0,qi a1] [zg.cells m0] (.tuple [.agg (zd.cells r.1),qb r.2.1]) [zg.cells r.2.2]:=by
 delta yq at h
 exact fnc Tryz.func141 rfl<|za<|rm [] [(0,qp 0),(1,qi a1),(4,qp 1)] ⟨[zg.cells m0,[qi 0,qs ([]:List UInt8),qs ([]:List UInt8)]],[]⟩ (kE ⟨[0,1],2,[],0⟩)<|za<|za<|bE h fun y3 hE h=>reg ⟨26,[(0,qp 0),(4,qp 1),(22,qb y3)]⟩ ⟨[zg.cells m0,[qi 0,qs ([]:List UInt8),qs ([]:List UInt8)]],[]⟩ (have h:=hE; kP 4 (ya (c:=zd.cells) (l:=m0.f_l) (e:=103) (sz:=3) (sz':=3) (b:=40) (tok:= .none))<|gF 7 12 h (fun h=>by cases h; exact kE ⟨[0,1],2,[],0⟩) fun h=>bE h fun x1 hx1 h=>kP 11 (zx (c:=zd.cells) (e:=103) (sz:=3) (b:=40) (tok:= .none) hx1)<|by cases h; exact kE ⟨[0,1],2,[],0⟩)<|bF h (fun h=>za<|rs [] [(4,qp 1),(5,qb false)] (kE ⟨[0,1],2,[],0⟩)<|zk<|by cases h; exact rt ⟨[0],2,[],0⟩) fun h=>zi<|za<|bE h fun r4 hr4 h=>rm [] [(4,qp 1),(5,qb true)] ⟨[zg.cells r4.2,zd.cells r4.1],[]⟩ (kC 1 ⟨[0],2,[],0⟩ (yT hr4)<|kE ⟨[0,1],2,[],0⟩)<|zk<|by cases h; exact rt ⟨[0],2,[],0⟩
end Go.Abs
end
