/- For each Go function: if its typed Lean form gives some result, the call returns that result (printed by a program of this hand). Condition: the typed form gives some result. -/
import Derived.Test.YtbggpcnbbhjiaaaGreatDoorT3
set_option linter.unusedVariables false
set_option linter.unusedSimpArgs false
set_option linter.unnecessarySimpa false
section
set_option maxRecDepth 100000
set_option maxHeartbeats 0
namespace Go.Abs
open Go Go.Proofs
variable {mx:Int}
def yy (n:Nat) (x720:(List zb)):Nat→Int→Option (Ctl Bool Unit)
 |0,_=>none
 | k+1,v749=>
  if(decide (v749<(List.length x720:Int)))=true then((zX x720 v749).bind fun x759=>
  (if(decide ((List.length x759.yA:Int)>200))=true then(some true)else(some (decide ((List.length x759.xo:Int)>200)))).bind fun y761=>
  if y761=true then(some (.ret false))else(yy n x720 k (IntKind.wrap .i64 (v749+1))))else(some (.nxt ()))
def yv (n:Nat) (a0:zt):Nat→Int→Option (Ctl Bool Unit)
 |0,_=>none
 | k+1,v509=>
  if(decide (v509<(List.length a0.zl:Int)))=true then((zX a0.zl v509).bind fun x720=>
  if(decide ((List.length x720:Int)>8))=true then(some (.ret false))else(ym (yy n x720 n 0) (fun r=>some (.ret r)) (fun y740=>
  yv n a0 k (IntKind.wrap .i64 (v509+1)))))else(some (.nxt ()))
def w7 (n:Nat) (a0:zt):Option Bool:=
 if(decide ((List.length a0.zl:Int)>12))=true then(some false)else(ym (yv n a0 n 0) (fun r=>some r) (fun y380=>
 some true))
theorem gS {n:Nat} {a0:zt} {r:Bool} (h:w7 n a0=some r):AC mx 98 [.agg [ql 1 (cL 3 zb.cells) a0.zl]] [] (qb r) []:=by
 delta w7 at h
 exact fnc Tryz.func98 rfl<|za<|rm [] [(1,qp 0)] ⟨[[ql 1 (cL 3 zb.cells) a0.zl]],[]⟩ (kE ⟨[0],1,[],0⟩)<|za<|za<|rs [] [(1,qp 0),(10,qb (decide ((List.length a0.zl:Int)>12)))] (kP 2 (zU (c:=(cL 3 zb.cells)) (l:=a0.zl) (e:=141) (sz:=1) (sz':=1) (b:=24) (tok:= .none))<|kE ⟨[0],1,[],0⟩)<|bF h (fun h=>za<|rm [] [(2,qb false)] ⟨[],[]⟩ (kE ⟨[],1,[],0⟩)<|zh<|by cases h; exact rt ⟨[],0,[],0⟩) fun h=>zg<|za<|za<|rm [] [(12,ql 1 (cL 3 zb.cells) a0.zl),(13,qi (List.length a0.zl:Int)),(14,qi 0)] ⟨[],[]⟩ (kP 2 (zU (c:=(cL 3 zb.cells)) (l:=a0.zl) (e:=141) (sz:=1) (sz':=1) (b:=24) (tok:= .none))<|kE ⟨[],1,[],0⟩)<|blC h (fun _=>⟨39,[]⟩) (fun _=>⟨[],[]⟩) (fun o381 h hr382=>zN (X:=Int) (fun x=>⟨39,[(12,ql 1 (cL 3 zb.cells) a0.zl),(13,qi (List.length a0.zl:Int)),(14,qi x)]⟩) (fun x=>⟨[],[]⟩) (fun k x=>yv n a0 k x=some o381) (fun _ hx=>by simp [yv]at hx) n 0 h (wk ⟨[],0,[],0⟩) (fun k x h=>by revert h; revert x; intro v509 h; rw [yv]at h; exact za<|rs [12,13,14] [(15,qb (decide (v509<(List.length a0.zl:Int))))] (kE ⟨[],0,[],0⟩)<|za<|bF h (fun h=>zg<|za<|zx<|za<|bE h fun x720 hx720 h=>rs [12,13,14] [(4,ql 3 zb.cells x720)] (kP 0 (zz (c:=(cL 3 zb.cells)) (e:=141) (sz:=1) (b:=24) (tok:= .none) hx720)<|kE ⟨[],0,[],0⟩)<|za<|za<|rs [4,12,13,14] [(20,qb (decide ((List.length x720:Int)>8)))] (kP 1 (zU (c:=zb.cells) (l:=x720) (e:=140) (sz:=3) (sz':=3) (b:=40) (tok:= .none))<|kE ⟨[],0,[],0⟩)<|bF h (fun h=>za<|rs [] [(2,qb false)] (kE ⟨[],0,[],0⟩)<|zh<|zO<|zQ<|have h:=hr382 _ (sI h); zH<|by cases h; exact rt ⟨[],0,[],0⟩) fun h=>zg<|za<|rs [12,13,14] [(21,ql 3 zb.cells x720),(22,qi (List.length x720:Int)),(23,qi 0)] (kP 1 (zU (c:=zb.cells) (l:=x720) (e:=140) (sz:=3) (sz':=3) (b:=40) (tok:= .none))<|kE ⟨[],0,[],0⟩)<|GG h zP (fun _=>⟨39,[(12,ql 1 (cL 3 zb.cells) a0.zl),(13,qi (List.length a0.zl:Int)),(14,qi v509)]⟩) (fun _=>⟨[],[]⟩) (fun o741 h hr742=>zN (X:=Int) (fun x=>⟨39,[(12,ql 1 (cL 3 zb.cells) a0.zl),(13,qi (List.length a0.zl:Int)),(14,qi v509),(21,ql 3 zb.cells x720),(22,qi (List.length x720:Int)),(23,qi x)]⟩) (fun x=>⟨[],[]⟩) (fun k x=>yy n x720 k x=some o741) (fun _ hx=>by simp [yy]at hx) n 0 h (wk ⟨[],0,[],0⟩) (fun k x h=>by revert h; revert x; intro v749 h; rw [yy]at h; exact za<|rs [12,13,14,21,22,23] [(24,qb (decide (v749<(List.length x720:Int))))] (kE ⟨[],0,[],0⟩)<|za<|bF h (fun h=>zg<|za<|zx<|za<|bE h fun x759 hx759 h=>rm [12,13,14,21,22,23] [(6,qp 0)] ⟨[zb.cells x759],[]⟩ (kP 0 (zz (c:=zb.cells) (e:=140) (sz:=3) (b:=40) (tok:= .none) hx759)<|kE ⟨[0],1,[],0⟩)<|za<|bE h fun y761 hE h=>reg ⟨39,[(12,ql 1 (cL 3 zb.cells) a0.zl),(13,qi (List.length a0.zl:Int)),(14,qi v509),(21,ql 3 zb.cells x720),(22,qi (List.length x720:Int)),(23,qi v749),(36,qb y761)]⟩ ⟨[],[]⟩ (have h:=hE; gF 5 31 h (fun h=>by cases h; exact kE ⟨[],1,[],0⟩) fun h=>by cases h; exact kE ⟨[],1,[],0⟩)<|bF h (fun h=>za<|rs [] [(2,qb false)] (kE ⟨[],0,[],0⟩)<|zh<|zO<|zQ<|have h:=hr742 _ (sI h); zH<|zO<|zQ<|have h:=hr382 _ (sI h); zH<|by cases h; exact rt ⟨[],0,[],0⟩) fun h=>zg<|zy<|rsN zp [12,13,14,21,22] [(23,qi (IntKind.wrap .i64 (v749+1)))] (kE ⟨[],0,[],0⟩)<|⟨IntKind.wrap .i64 (v749+1),h,wk ⟨[],0,[],0⟩⟩) fun h=>zL<|zw<|zv<|⟨(),sI h,wk ⟨[],0,[],0⟩⟩)) fun y740 h=>zy<|rsN zp [12,13] [(14,qi (IntKind.wrap .i64 (v509+1)))] (kE ⟨[],0,[],0⟩)<|⟨IntKind.wrap .i64 (v509+1),h,wk ⟨[],0,[],0⟩⟩) fun h=>zL<|zw<|zv<|⟨(),sI h,wk ⟨[],0,[],0⟩⟩)) fun y380 h=>za<|rs [] [(2,qb true)] (kE ⟨[],0,[],0⟩)<|zh<|by cases h; exact rt ⟨[],0,[],0⟩
def xr (n:Nat) (a0:(List zd)):Nat→Int→Option (Ctl Bool Unit)
 |0,_=>none
 | k+1,v53=>
  if(decide (v53<(List.length a0:Int)))=true then(((zX a0 v53).bind fun x72=>
  (w7 n (zt.mk x72.zS.zl)).bind fun r73=>
  if(!r73)=true then(some true)else((zX a0 v53).bind fun x74=>
  if(decide ((List.length x74.zJ.xM:Int)>100))=true then(some true)else((zX a0 v53).bind fun x75=>
  some (decide ((List.length x75.zJ.zR:Int)>100))))).bind fun y77=>
  if y77=true then(some (.ret false))else(xr n a0 k (IntKind.wrap .i64 (v53+1))))else(some (.nxt ()))
def uH (n:Nat) (a0:(List zd)):Option Bool:=
 ym (xr n a0 n 0) (fun r=>some r) (fun y38=>
 some (decide ((List.length a0:Int)≤6)))
theorem pR {n:Nat} {a0:(List zd)} {r:Bool} (h:uH n a0=some r):AC mx 31 [ql 4 zd.cells a0] [] (qb r) []:=by
 delta uH at h
 exact fnc Tryz.func31 rfl<|za<|rs [0] [] (kE ⟨[],0,[],0⟩)<|za<|za<|rs [0] [(3,qi 0)] (kE ⟨[],0,[],0⟩)<|blC h (fun _=>⟨40,[(0,ql 4 zd.cells a0)]⟩) (fun _=>⟨[],[]⟩) (fun o39 h hr40=>zN (X:=Int) (fun x=>⟨40,[(0,ql 4 zd.cells a0),(3,qi x)]⟩) (fun x=>⟨[],[]⟩) (fun k x=>xr n a0 k x=some o39) (fun _ hx=>by simp [xr]at hx) n 0 h (wk ⟨[],0,[],0⟩) (fun k x h=>by revert h; revert x; intro v53 h; rw [xr]at h; exact za<|za<|rs [0] [(3,qi v53),(7,qb (decide (v53<(List.length a0:Int))))] (kP 2 (zU (c:=zd.cells) (l:=a0) (e:=68) (sz:=4) (sz':=4) (b:=64) (tok:= .none))<|kE ⟨[],0,[],0⟩)<|bF h (fun h=>zg<|za<|zx<|za<|bE h fun y77 hE h=>reg ⟨40,[(0,ql 4 zd.cells a0),(3,qi v53),(36,qb y77)]⟩ ⟨[],[]⟩ (have h:=hE; bE h fun x72 hx72 h=>bE h fun r73 hr73 h=>kP 2 (zz (c:=zd.cells) (e:=68) (sz:=4) (b:=64) (tok:= .none) hx72)<|kC 5 ⟨[],0,[],0⟩ (gS hr73)<|gF 8 17 h (fun h=>by cases h; exact kE ⟨[],0,[],0⟩) fun h=>bE h fun x74 hx74 h=>kP 10 (zz (c:=zd.cells) (e:=68) (sz:=4) (b:=64) (tok:= .none) hx74)<|gF 18 27 h (fun h=>by cases h; exact kE ⟨[],0,[],0⟩) fun h=>bE h fun x75 hx75 h=>kP 20 (zz (c:=zd.cells) (e:=68) (sz:=4) (b:=64) (tok:= .none) hx75)<|by cases h; exact kE ⟨[],0,[],0⟩)<|bF h (fun h=>za<|rs [] [(2,qb false)] (kE ⟨[],0,[],0⟩)<|zh<|zO<|zQ<|have h:=hr40 _ (sI h); zH<|by cases h; exact rt ⟨[],0,[],0⟩) fun h=>zg<|zy<|rsN zp [0] [(3,qi (IntKind.wrap .i64 (v53+1)))] (kE ⟨[],0,[],0⟩)<|⟨IntKind.wrap .i64 (v53+1),h,wk ⟨[],0,[],0⟩⟩) fun h=>zL<|zw<|zv<|⟨(),sI h,wk ⟨[],0,[],0⟩⟩)) fun y38 h=>za<|rs [] [(2,qb (decide ((List.length a0:Int)≤6)))] (kP 1 (zU (c:=zd.cells) (l:=a0) (e:=68) (sz:=4) (sz':=4) (b:=64) (tok:= .none))<|kE ⟨[],0,[],0⟩)<|zh<|by cases h; exact rt ⟨[],0,[],0⟩
def wg (n:Nat) (a0:(List UInt8)) (y3:Int) (a1:(List UInt8)) (a2:Int) (x6:Nat):Nat→(List UInt8)→Int→(List (List UInt8))→Option ((List UInt8)×Int×(List (List UInt8)))
 |0,_,_,_=>none
 | k+1,v35,v36,v37=>
  if(decide (v36<(IntKind.wrap .i64 ((if(IntKind.wrap .i64 ((List.length a0:Int)+1))<y3 then IntKind.wrap .i64 ((List.length a0:Int)+1)else y3)-1))))=true then((Z3 n v35 a1).bind fun r43=>
  if(decide (r43<0))=true then(some (v35,v36,v37))else((ssl v35 0 (IntKind.wrap .i64 (r43+a2))).bind fun x44=>
  (qZ x6 v36).bind fun x45=>
  (YN v37 (x45*1) x44).bind fun x46=>
  (ssl v35 (IntKind.wrap .i64 (r43+(List.length a1:Int))) (List.length v35)).bind fun x47=>
  wg n a0 y3 a1 a2 x6 k x47 (IntKind.wrap .i64 (v36+1)) x46))else(some (v35,v36,v37))
def jU (n:Nat) (a0:(List UInt8)) (a1:(List UInt8)) (a2:Int) (a3:Int):Option (List (List UInt8)):=
 if(a3==0)=true then(some ([]:(List (List UInt8))))else(if(a1==([]:List UInt8))=true then(none)else((if(decide (a3<0))=true then((Xv n a0 a1).bind fun r5=>
 some (IntKind.wrap .i64 (r5+1)))else(some a3)).bind fun y3=>
 (UR 16 (if(IntKind.wrap .i64 ((List.length a0:Int)+1))<y3 then IntKind.wrap .i64 ((List.length a0:Int)+1)else y3) (if(IntKind.wrap .i64 ((List.length a0:Int)+1))<y3 then IntKind.wrap .i64 ((List.length a0:Int)+1)else y3)).bind fun x6=>
 (wg n a0 y3 a1 a2 x6 n a0 0 (List.replicate x6 (([]:List UInt8):(List UInt8)))).bind fun y28=>
 (qZ x6 y28.2.1).bind fun x48=>
 (YN y28.2.2 (x48*1) y28.1).bind fun x49=>
 (osl x6 (IntKind.wrap .i64 (y28.2.1+1))).bind fun x50=>
 (Xq x50 x49).bind fun x51=>
 some x51))
theorem Zr {n:Nat} {a0:(List UInt8)} {a1:(List UInt8)} {a2:Int} {a3:Int} {r:(List (List UInt8))} (h:jU n a0 a1 a2 a3=some r):AC mx 232 [qs a0,qs a1,qi a2,qi a3] [] (ql 1 cS r) []:=by
 delta jU at h
 exact fnc Tryz.func232 rfl<|za<|rs [] [(0,qs a0),(1,qs a1),(2,qi a2),(3,qi a3)] (kE ⟨[],0,[],0⟩)<|za<|za<|rs [] [(0,qs a0),(1,qs a1),(2,qi a2),(3,qi a3),(13,qb (a3==0))] (kE ⟨[],0,[],0⟩)<|bF h (fun h=>za<|rs [] [(8,qn)] (kE ⟨[],0,[],0⟩)<|zh<|by cases h; exact rt ⟨[],0,[],0⟩) fun h=>zg<|za<|za<|rs [] [(0,qs a0),(1,qs a1),(2,qi a2),(3,qi a3),(15,qb (a1==([]:List UInt8)))] (kE ⟨[],0,[],0⟩)<|bF h (fun h=>nE h) fun h=>zg<|za<|za<|rs [] [(0,qs a0),(1,qs a1),(2,qi a2),(3,qi a3),(20,qb (decide (a3<0)))] (kE ⟨[],0,[],0⟩)<|cuE h (fun y3=>⟨66,[(0,qs a0),(1,qs a1),(2,qi a2),(3,qi y3)]⟩) (fun y3=>⟨[],[]⟩) (fun y3 h=>bF h (fun h=>bE h fun r5 hr5 h=>rsN zp [] [(0,qs a0),(1,qs a1),(2,qi a2),(3,qi (IntKind.wrap .i64 (r5+1)))] (kC 2 ⟨[],0,[],0⟩ (Qd hr5)<|kE ⟨[],0,[],0⟩)<|⟨IntKind.wrap .i64 (r5+1),sI h,wk ⟨[],0,[],0⟩⟩) fun h=>zg<|⟨a3,sI h,wk ⟨[],0,[],0⟩⟩) fun y3 h=>za<|rs [] [(0,qs a0),(1,qs a1),(2,qi a2),(3,qi (if(IntKind.wrap .i64 ((List.length a0:Int)+1))<y3 then IntKind.wrap .i64 ((List.length a0:Int)+1)else y3))] (kE ⟨[],0,[],0⟩)<|za<|bE h fun x6 hx6 h=>rm [3] [(0,qs a0),(1,qs a1),(2,qi a2),(9,.own 0 x6 1)] ⟨[[.buf (List.map vS (List.replicate x6 (([]:List UInt8):(List UInt8))))]],[]⟩ (kV 1 0 0 0 (BD (T:=tyT) (e:=9) (k1:= .i64) (k2:= .i64) (bytes:=16) (cell:=none) (c:=vS) uS ([]:List UInt8) ⟨by kernel_rfl,by kernel_rfl⟩ hx6)<|kE ⟨[0],1,[],0⟩)<|za<|rs [9] [(0,qs a0),(1,qs a1),(2,qi a2),(3,qi (IntKind.wrap .i64 ((if(IntKind.wrap .i64 ((List.length a0:Int)+1))<y3 then IntKind.wrap .i64 ((List.length a0:Int)+1)else y3)-1)))] (kE ⟨[0],1,[],0⟩)<|za<|rs [3,9] [(0,qs a0),(1,qs a1),(2,qi a2),(10,qi 0)] (kE ⟨[0],1,[],0⟩)<|za<|blE h (fun y28=>⟨66,[(0,qs y28.1),(9,.own 0 x6 1),(10,qi y28.2.1)]⟩) (fun y28=>⟨[[.buf (List.map vS y28.2.2)]],[]⟩) (fun y28 h=>zN (X:=((List UInt8)×Int×(List (List UInt8)))) (fun x=>⟨66,[(0,qs x.1),(1,qs a1),(2,qi a2),(3,qi (IntKind.wrap .i64 ((if(IntKind.wrap .i64 ((List.length a0:Int)+1))<y3 then IntKind.wrap .i64 ((List.length a0:Int)+1)else y3)-1))),(9,.own 0 x6 1),(10,qi x.2.1)]⟩) (fun x=>⟨[[.buf (List.map vS x.2.2)]],[]⟩) (fun k x=>wg n a0 y3 a1 a2 x6 k x.1 x.2.1 x.2.2=some y28) (fun _ hx=>by simp [wg]at hx) n (a0,0,List.replicate x6 (([]:List UInt8):(List UInt8))) h (wk ⟨[0],1,[],0⟩) (fun k x h=>by obtain⟨v35,v36,v37⟩:=x; rw [wg]at h; exact za<|za<|rs [3,9] [(0,qs v35),(1,qs a1),(2,qi a2),(10,qi v36),(36,qb (decide (v36<(IntKind.wrap .i64 ((if(IntKind.wrap .i64 ((List.length a0:Int)+1))<y3 then IntKind.wrap .i64 ((List.length a0:Int)+1)else y3)-1)))))] (kE ⟨[0],1,[],0⟩)<|bF h (fun h=>zg<|zx<|za<|bE h fun r43 hr43 h=>rs [3,9] [(0,qs v35),(1,qs a1),(2,qi a2),(10,qi v36),(11,qi r43)] (kC 2 ⟨[],1,[],0⟩ (JH hr43)<|kE ⟨[0],1,[],0⟩)<|za<|za<|rs [3,9] [(0,qs v35),(1,qs a1),(2,qi a2),(10,qi v36),(11,qi r43),(41,qb (decide (r43<0)))] (kE ⟨[0],1,[],0⟩)<|bF h (fun h=>zL<|pN (by kernel_rfl)<|zw<|zv<|⟨(v35,v36,v37),sI h,wk ⟨[0],1,[],0⟩⟩) fun h=>zg<|za<|bE h fun x44 hx44 h=>bE h fun x45 hx45 h=>bE h fun x46 hx46 h=>rm [3,9] [(0,qs v35),(1,qs a1),(2,qi a2),(10,qi v36),(11,qi r43)] ⟨[[.buf (List.map vS x46)]],[]⟩ (kP 6 (ve (k:= .i64) hx44)<|kP 7 (po (id:=0) (e:=9) (sz:=1) (b:=16) hx45)<|kV 8 1 0 0 (br (T:=tyT) (t:=9) (c:=vS) (l:=v37) (off:=(x45*1)) (x:=x44) uS (by kernel_rfl) hx46)<|kE ⟨[0],1,[],0⟩)<|za<|bE h fun x47 hx47 h=>rs [3,9] [(0,qs x47),(1,qs a1),(2,qi a2),(10,qi v36)] (kP 5 (wM (k:= .i64) hx47)<|kE ⟨[0],1,[],0⟩)<|rsN (ju (P:=Tryz.prog) (gl:=gl0 mx) zp) [3,9] [(0,qs x47),(1,qs a1),(2,qi a2),(10,qi (IntKind.wrap .i64 (v36+1)))] (kE ⟨[0],1,[],0⟩)<|zy<|⟨(x47,IntKind.wrap .i64 (v36+1),x46),h,wk ⟨[0],1,[],0⟩⟩) fun h=>zL<|zw<|zv<|⟨(v35,v36,v37),sI h,wk ⟨[0],1,[],0⟩⟩)) fun y28 h=>za<|bE h fun x48 hx48 h=>bE h fun x49 hx49 h=>rm [9,10] [] ⟨[[.buf (List.map vS x49)]],[]⟩ (kP 3 (po (id:=0) (e:=9) (sz:=1) (b:=16) hx48)<|kV 4 1 0 0 (br (T:=tyT) (t:=9) (c:=vS) (l:=y28.2.2) (off:=(x48*1)) (x:=y28.1) uS (by kernel_rfl) hx49)<|kE ⟨[0],1,[],0⟩)<|za<|bE h fun x50 hx50 h=>rs [] [(8,.own 0 x50 1)] (kP 3 (Dc (id:=0) (k:= .i64) (e:=9) (sz:=1) (b:=16) hx50)<|kE ⟨[0],1,[],0⟩)<|bE h fun x51 hx51 h=>vF (Wk.frz (c:=vS) (l:=x49) 8 0 x50 hx51 (by kernel_rfl))<|zh<|by cases h; exact rt ⟨[],1,[],0⟩
def j5 (n:Nat) (a0:(List UInt8)) (a1:(List UInt8)):Option (List (List UInt8)):=
 (jU n a0 a1 0 (-1)).bind fun r1=>
 some r1
theorem Yn {n:Nat} {a0:(List UInt8)} {a1:(List UInt8)} {r:(List (List UInt8))} (h:j5 n a0 a1=some r):AC mx 175 [qs a0,qs a1] [] (ql 1 cS r) []:=by
 delta j5 at h
 exact fnc Tryz.func175 rfl<|za<|rs [] [(0,qs a0),(1,qs a1)] (kE ⟨[],0,[],0⟩)<|za<|bE h fun r1 hr1 h=>rs [] [(4,ql 1 cS r1)] (kC 2 ⟨[],0,[],0⟩ (Zr hr1)<|kE ⟨[],0,[],0⟩)<|zh<|by cases h; exact rt ⟨[],0,[],0⟩
def jI (n:Nat) (a0:(List UInt8)):Nat→Int→Int→Option (Ctl Int Int)
 |0,_,_=>none
 | k+1,v50,v51=>
  if(decide (v51<(List.length a0:Int)))=true then(((xD a0 v51).bind fun x67=>
  if(decide (x67<48))=true then(some true)else((xD a0 v51).bind fun x68=>
  some (decide (x68>57)))).bind fun y70=>
  if y70=true then(some (.ret (-1)))else((xD a0 v51).bind fun x71=>
  jI n a0 k (IntKind.wrap .i64 ((IntKind.wrap .i64 ((10:Int)*v50))+(IntKind.wrap .i64 (IntKind.wrap .u8 (x71-48))))) (IntKind.wrap .i64 (v51+1))))else(some (.nxt v50))
def dn (n:Nat) (a0:(List UInt8)):Option Int:=
 (if(a0==([]:List UInt8))=true then(some true)else(if(decide ((List.length a0:Int)>10))=true then(some true)else((xD a0 0).bind fun x1=>
 if(x1==48)=true then(some (decide ((List.length a0:Int)>1)))else(some false)))).bind fun y3=>
 if y3=true then(some (-1))else(ym (jI n a0 n 0 0) (fun r=>some r) (fun y37=>
 if(decide (y37>2147483647))=true then(some (-1))else(some y37)))
theorem Uh {n:Nat} {a0:(List UInt8)} {r:Int} (h:dn n a0=some r):AC mx 176 [qs a0] [] (qi r) []:=by
 delta dn at h
 exact fnc Tryz.func176 rfl<|za<|rs [] [(0,qs a0)] (kE ⟨[],0,[],0⟩)<|za<|za<|bE h fun y3 hE h=>reg ⟨49,[(0,qs a0),(21,qb y3)]⟩ ⟨[],[]⟩ (have h:=hE; gF 3 7 h (fun h=>by cases h; exact kE ⟨[],0,[],0⟩) fun h=>gF 8 12 h (fun h=>by cases h; exact kE ⟨[],0,[],0⟩) fun h=>bE h fun x1 hx1 h=>kP 9 (z7 hx1)<|gF 12 16 h (fun h=>by cases h; exact kE ⟨[],0,[],0⟩) fun h=>by cases h; exact kE ⟨[],0,[],0⟩)<|bF h (fun h=>za<|rs [] [(2,qi (-1))] (kE ⟨[],0,[],0⟩)<|zh<|by cases h; exact rt ⟨[],0,[],0⟩) fun h=>zg<|za<|rs [] [(0,qs a0),(3,qi 0)] (kE ⟨[],0,[],0⟩)<|za<|za<|rs [] [(0,qs a0),(3,qi 0),(4,qi 0)] (kE ⟨[],0,[],0⟩)<|blC h (fun y37=>⟨49,[(3,qi y37)]⟩) (fun y37=>⟨[],[]⟩) (fun o38 h hr39=>zN (X:=(Int×Int)) (fun x=>⟨49,[(0,qs a0),(3,qi x.1),(4,qi x.2)]⟩) (fun x=>⟨[],[]⟩) (fun k x=>jI n a0 k x.1 x.2=some o38) (fun _ hx=>by simp [jI]at hx) n (0,0) h (wk ⟨[],0,[],0⟩) (fun k x h=>by obtain⟨v50,v51⟩:=x; rw [jI]at h; exact za<|za<|rs [] [(0,qs a0),(3,qi v50),(4,qi v51),(25,qb (decide (v51<(List.length a0:Int))))] (kE ⟨[],0,[],0⟩)<|bF h (fun h=>zg<|za<|zx<|za<|za<|bE h fun y70 hE h=>reg ⟨49,[(0,qs a0),(3,qi v50),(4,qi v51),(37,qb y70)]⟩ ⟨[],[]⟩ (have h:=hE; bE h fun x67 hx67 h=>kP 2 (z7 hx67)<|gF 5 32 h (fun h=>by cases h; exact kE ⟨[],0,[],0⟩) fun h=>bE h fun x68 hx68 h=>kP 7 (z7 hx68)<|by cases h; exact kE ⟨[],0,[],0⟩)<|bF h (fun h=>za<|rs [] [(2,qi (-1))] (kE ⟨[],0,[],0⟩)<|zh<|zO<|zQ<|have h:=hr39 _ (sI h); zH<|by cases h; exact rt ⟨[],0,[],0⟩) fun h=>zg<|bE h fun x71 hx71 h=>rsN zP [] [(0,qs a0),(3,qi (IntKind.wrap .i64 ((IntKind.wrap .i64 ((10:Int)*v50))+(IntKind.wrap .i64 (IntKind.wrap .u8 (x71-48)))))),(4,qi v51)] (kP 4 (z7 hx71)<|kE ⟨[],0,[],0⟩)<|zy<|rsN zp [3] [(0,qs a0),(4,qi (IntKind.wrap .i64 (v51+1)))] (kE ⟨[],0,[],0⟩)<|⟨(IntKind.wrap .i64 ((IntKind.wrap .i64 ((10:Int)*v50))+(IntKind.wrap .i64 (IntKind.wrap .u8 (x71-48)))),IntKind.wrap .i64 (v51+1)),h,wk ⟨[],0,[],0⟩⟩) fun h=>zL<|zw<|zv<|⟨v50,sI h,wk ⟨[],0,[],0⟩⟩)) fun y37 h=>za<|za<|rs [] [(3,qi y37),(47,qb (decide (y37>2147483647)))] (kE ⟨[],0,[],0⟩)<|bF h (fun h=>za<|rs [] [(2,qi (-1))] (kE ⟨[],0,[],0⟩)<|zh<|by cases h; exact rt ⟨[],0,[],0⟩) fun h=>zg<|za<|rs [] [(2,qi y37)] (kE ⟨[],0,[],0⟩)<|zh<|by cases h; exact rt ⟨[],0,[],0⟩
def gx (n:Nat) (a0:Int) (a1:Int):Option Bool:=
 (if(decide (a0≤1))=true then(if(decide (a1≤39))=true then(some true)else(some (a0==2)))else(some (a0==2))).bind fun y2=>
 some y2
theorem Vy {n:Nat} {a0:Int} {a1:Int} {r:Bool} (h:gx n a0 a1=some r):AC mx 177 [qi a0,qi a1] [] (qb r) []:=by
 delta gx at h
 exact fnc Tryz.func177 rfl<|za<|rs [] [(0,qi a0),(1,qi a1)] (kE ⟨[],0,[],0⟩)<|za<|bE h fun y2 hE h=>reg ⟨15,[(4,qb y2)]⟩ ⟨[],[]⟩ (have h:=hE; gF 3 7 h (fun h=>gF 7 11 h (fun h=>by cases h; exact kE ⟨[],0,[],0⟩) fun h=>by cases h; exact kE ⟨[],0,[],0⟩) fun h=>by cases h; exact kE ⟨[],0,[],0⟩)<|zh<|by cases h; exact rt ⟨[],0,[],0⟩
def uK (n:Nat) (r1:(List (List UInt8))):Nat→(List Int)→Int→Option (Ctl (Option (List Int)) (List Int))
 |0,_,_=>none
 | k+1,v36,v37=>
  if(decide (v37<(List.length r1:Int)))=true then((zX r1 v37).bind fun x47=>
  (dn n x47).bind fun r48=>
  if(decide (r48<0))=true then(some (.ret none))else((q7 8 v36 ([r48]:List Int)).bind fun x49=>
  uK n r1 k x49 (IntKind.wrap .i64 (v37+1))))else(some (.nxt v36))
def be (n:Nat) (a0:(List UInt8)):Option (Option (List Int)):=
 (j5 n a0 ([46]:List UInt8)).bind fun r1=>
 (if(decide ((List.length r1:Int)<2))=true then(some true)else(some (decide ((List.length r1:Int)>12)))).bind fun y3=>
 if y3=true then(some none)else(ym (uK n r1 n ([]:List Int) 0) (fun r=>some r) (fun y26=>
 (zX y26 0).bind fun x50=>
 (zX y26 1).bind fun x51=>
 (gx n x50 x51).bind fun r52=>
 if(!r52)=true then(some none)else((lne y26).bind fun x53=>
 some (some y26))))
theorem ZJ {n:Nat} {a0:(List UInt8)} {r:(Option (List Int))} (h:be n a0=some r):AC mx 116 [qs a0] [] (onl 1 (cI .i64) r) []:=by
 delta be at h
 exact fnc Tryz.func116 rfl<|za<|rs [] [(0,qs a0)] (kE ⟨[],0,[],0⟩)<|za<|bE h fun r1 hr1 h=>rs [] [(3,ql 1 cS r1)] (kC 1 ⟨[],0,[],0⟩ (Yn hr1)<|kE ⟨[],0,[],0⟩)<|za<|za<|bE h fun y3 hE h=>reg ⟨42,[(3,ql 1 cS r1),(17,qb y3)]⟩ ⟨[],[]⟩ (have h:=hE; kP 1 (zU (c:=cS) (l:=r1) (e:=9) (sz:=1) (sz':=1) (b:=16) (tok:= .none))<|gF 4 13 h (fun h=>by cases h; exact kE ⟨[],0,[],0⟩) fun h=>kP 5 (zU (c:=cS) (l:=r1) (e:=9) (sz:=1) (sz':=1) (b:=16) (tok:= .none))<|by cases h; exact kE ⟨[],0,[],0⟩)<|bF h (fun h=>za<|rs [] [(2,qn)] (kE ⟨[],0,[],0⟩)<|zh<|by cases h; exact rt ⟨[],0,[],0⟩) fun h=>zg<|za<|rs [3] [(4,qn)] (kE ⟨[],0,[],0⟩)<|za<|za<|rs [] [(4,qn),(18,ql 1 cS r1),(19,qi (List.length r1:Int)),(20,qi 0)] (kP 1 (zU (c:=cS) (l:=r1) (e:=9) (sz:=1) (sz':=1) (b:=16) (tok:= .none))<|kE ⟨[],0,[],0⟩)<|blC h (fun y26=>⟨42,[(4,.sl 1 (List.map (cI .i64) y26) (.fam 0 (List.length y26)))]⟩) (fun y26=>⟨[],[List.length y26]⟩) (fun o27 h hr28=>vF (wk (fr':=⟨42,[(4,qn),(18,ql 1 cS r1),(19,qi (List.length r1:Int)),(20,qi 0)]⟩) (st':=⟨[],[]⟩) ⟨[],0,[],0⟩)<|vF Wk.nilFam<|zN (X:=((List Int)×Int)) (fun x=>⟨42,[(4,.sl 1 (List.map (cI .i64) x.1) (.fam 0 (List.length x.1))),(18,ql 1 cS r1),(19,qi (List.length r1:Int)),(20,qi x.2)]⟩) (fun x=>⟨[],[List.length x.1]⟩) (fun k x=>uK n r1 k x.1 x.2=some o27) (fun _ hx=>by simp [uK]at hx) n (([]:List Int),0) h (wk ⟨[],0,[0],1⟩) (fun k x h=>by obtain⟨v36,v37⟩:=x; rw [uK]at h; exact za<|rs [4,18,19] [(20,qi v37),(21,qb (decide (v37<(List.length r1:Int))))] (kE ⟨[],0,[0],1⟩)<|za<|bF h (fun h=>zg<|za<|zx<|za<|bE h fun x47 hx47 h=>rs [4,18,19] [(6,qs x47),(20,qi v37)] (kP 0 (zz (c:=cS) (e:=9) (sz:=1) (b:=16) (tok:= .none) hx47)<|kE ⟨[],0,[0],1⟩)<|za<|bE h fun r48 hr48 h=>rs [4,18,19] [(7,qi r48),(20,qi v37)] (kC 1 ⟨[],0,[],1⟩ (Uh hr48)<|kE ⟨[],0,[0],1⟩)<|za<|za<|rs [4,18,19] [(7,qi r48),(20,qi v37),(27,qb (decide (r48<0)))] (kE ⟨[],0,[0],1⟩)<|bF h (fun h=>za<|rm [] [(2,qn)] ⟨[],[]⟩ (kE ⟨[],0,[],1⟩)<|zh<|zO<|zQ<|have h:=hr28 _ (sI h); zH<|by cases h; exact rt ⟨[],0,[],0⟩) fun h=>zg<|bE h fun x49 hx49 h=>rmN zP [18,19] [(4,.sl 1 (List.map (cI .i64) x49) (.fam 0 (List.length x49))),(20,qi v37)] ⟨[],[List.length x49]⟩ (kA 3 0 (cI .i64) (e:=3) (e2:=3) (sz:=1) (bytes:=8) (b2:=8) (tok2:= .exact) hx49<|kE ⟨[],0,[0],1⟩)<|zy<|rsN zp [4,18,19] [(20,qi (IntKind.wrap .i64 (v37+1)))] (kE ⟨[],0,[0],1⟩)<|⟨(x49,IntKind.wrap .i64 (v37+1)),h,wk ⟨[],0,[0],1⟩⟩) fun h=>zL<|zw<|zv<|⟨v36,sI h,wk ⟨[],0,[0],1⟩⟩)) fun y26 h=>za<|za<|bE h fun x50 hx50 h=>bE h fun x51 hx51 h=>bE h fun r52 hr52 h=>zs [0,1,2,3,4,5,6,7] [6] [[],[0],[0,1],[],[3],[3,4],[0,1,2,3,4,5],[0,1,2,3,4,5,6]] [4] [(40,qb (!r52))] (dS [0]<|dP (zz (c:=(cI .i64)) (e:=3) (sz:=1) (b:=8) (tok:=(.fam 0 (List.length y26))) hx50)<|dS [2,3]<|dP (zz (c:=(cI .i64)) (e:=3) (sz:=1) (b:=8) (tok:=(.fam 0 (List.length y26))) hx51)<|dS [5]<|dC (zF 4 (zz (c:=(cI .i64)) (e:=3) (sz:=1) (b:=8) (tok:=(.fam 0 (List.length y26))) hx51) (zF 1 (zz (c:=(cI .i64)) (e:=3) (sz:=1) (b:=8) (tok:=(.fam 0 (List.length y26))) hx50) xI)) ⟨[],0,[],1⟩ (Vy hr52)<|dS [7]<|dE ⟨[],0,[0],1⟩)<|bF h (fun h=>za<|rm [] [(2,qn)] ⟨[],[]⟩ (kE ⟨[],0,[],1⟩)<|zh<|by cases h; exact rt ⟨[],0,[],0⟩) fun h=>zg<|za<|rs [] [(2,.sl 1 (List.map (cI .i64) y26) (.fam 0 (List.length y26)))] (kE ⟨[],0,[0],1⟩)<|bE h fun x53 hx53 h=>zh<|by cases h; exact rt ⟨[],0,[],1⟩
def jC (n:Nat) (a0:(List UInt8)):Option Bool:=
 ((be n a0).bind fun r1=>
 onE r1 (some false) (fun l2=>(lne l2).bind fun x3=>
 some true)).bind fun y5=>
 some y5
theorem kQ {n:Nat} {a0:(List UInt8)} {r:Bool} (h:jC n a0=some r):AC mx 88 [qs a0] [] (qb r) []:=by
 delta jC at h
 exact fnc Tryz.func88 rfl<|za<|rs [] [(0,qs a0)] (kE ⟨[],0,[],0⟩)<|za<|bE h fun y5 hE h=>reg ⟨6,[(2,qb y5)]⟩ ⟨[],[]⟩ (have h:=hE; bE h fun r1 hr1 h=>kC 1 ⟨[],0,[],0⟩ (ZJ hr1)<|by cases r1 with|none=>exact(have h:=onN h; by cases h; exact kE ⟨[],0,[],0⟩)|some l2=>exact(have h:=onS h; bE h fun x3 hx3 h=>kP 2 (GW (c:=(cI .i64)) (e:=3) (sz:=1) (b:=8) (tok:= .none) hx3)<|by cases h; exact kE ⟨[],0,[],0⟩))<|zh<|by cases h; exact rt ⟨[],0,[],0⟩
def wo (n:Nat) (a0:(List UInt8)) (a1:(List UInt8)):Option Bool:=
 (if(decide ((List.length a0:Int)≥(List.length a1:Int)))=true then((ssl a0 0 (List.length a1:Int)).bind fun x1=>
 some (x1==a1))else(some false)).bind fun y3=>
 some y3
theorem kn {n:Nat} {a0:(List UInt8)} {a1:(List UInt8)} {r:Bool} (h:wo n a0 a1=some r):AC mx 289 [qs a0,qs a1] [] (qb r) []:=by
 delta wo at h
 exact fnc Tryz.func289 rfl<|za<|rs [] [(0,qs a0),(1,qs a1)] (kE ⟨[],0,[],0⟩)<|za<|bE h fun y3 hE h=>reg ⟨18,[(4,qb y3)]⟩ ⟨[],[]⟩ (have h:=hE; gF 6 10 h (fun h=>bE h fun x1 hx1 h=>kP 9 (ve (k:= .i64) hx1)<|by cases h; exact kE ⟨[],0,[],0⟩) fun h=>by cases h; exact kE ⟨[],0,[],0⟩)<|zh<|by cases h; exact rt ⟨[],0,[],0⟩
def uQ (n:Nat) (a0:(List UInt8)) (a1:(List UInt8)):Option Bool:=
 (wo n a0 a1).bind fun r1=>
 some r1
theorem pO {n:Nat} {a0:(List UInt8)} {a1:(List UInt8)} {r:Bool} (h:uQ n a0 a1=some r):AC mx 268 [qs a0,qs a1] [] (qb r) []:=by
 delta uQ at h
 exact fnc Tryz.func268 rfl<|za<|rs [] [(0,qs a0),(1,qs a1)] (kE ⟨[],0,[],0⟩)<|za<|bE h fun r1 hr1 h=>rs [] [(4,qb r1)] (kC 2 ⟨[],0,[],0⟩ (kn hr1)<|kE ⟨[],0,[],0⟩)<|zh<|by cases h; exact rt ⟨[],0,[],0⟩
def vf (n:Nat) (a0:(List UInt8)):Nat→Nat→Option (Ctl Bool Unit)
 |0,_=>none
 | k+1,v53=>
  if(Nat.blt v53 (List.length a0))=true then((if(decide ((((Yk a0 v53).1:Nat):Int)<32))=true then(some true)else(some ((((Yk a0 v53).1:Nat):Int)==127))).bind fun y73=>
  if y73=true then(some (.ret false))else((if((((Yk a0 v53).1:Nat):Int)==65533)=true then((ssl a0 ((v53:Nat):Int) (List.length a0)).bind fun x74=>
  (uQ n x74 ([239,191,189]:List UInt8)).bind fun r75=>
  some (!r75))else(some false)).bind fun y77=>
  if y77=true then(some (.ret false))else(vf n a0 k (v53+(Yk a0 v53).2))))else(some (.nxt ()))
def pf (n:Nat) (a0:(List UInt8)):Option Bool:=
 ym (vf n a0 n 0) (fun r=>some r) (fun y38=>
 some true)
theorem VH {n:Nat} {a0:(List UInt8)} {r:Bool} (h:pf n a0=some r):AC mx 240 [qs a0] [] (qb r) []:=by
 delta pf at h
 exact fnc Tryz.func240 rfl<|za<|rs [] [(0,qs a0)] (kE ⟨[],0,[],0⟩)<|za<|za<|rm [] [(0,qs a0),(6,.iter 0)] ⟨[[.sit a0 0]],[]⟩ (kE ⟨[0],1,[],0⟩)<|blC h (fun _=>⟨26,[]⟩) (fun _=>⟨[],[]⟩) (fun o39 h hr40=>zN (X:=Nat) (fun x=>⟨26,[(0,qs a0),(6,.iter 0)]⟩) (fun x=>⟨[[.sit a0 x]],[]⟩) (fun k x=>vf n a0 k x=some o39) (fun _ hx=>by simp [vf]at hx) n 0 h (wk ⟨[0],1,[],0⟩) (fun k x h=>by revert h; revert x; intro v53 h; rw [vf]at h; exact za<|KZ<|kF h (fun hb h=>kV 0 1 0 0 (DW hb)<|Wg (⟨26,[(0,qs a0),(6,.iter 0),(7,.tuple [qb true,qi ((v53:Nat):Int),.int .i32 (((Yk a0 v53).1:Nat):Int)]),(8,qb true)]⟩) (⟨[[.sit a0 (v53+(Yk a0 v53).2)]],[]⟩) zP (kE ⟨[0],1,[],0⟩)<|za<|bT<|zg<|zx<|za<|rs [6] [(0,qs a0),(3,qi ((v53:Nat):Int)),(4,.int .i32 (((Yk a0 v53).1:Nat):Int))] (kE ⟨[0],1,[],0⟩)<|za<|za<|bE h fun y73 hE h=>reg ⟨26,[(0,qs a0),(3,qi ((v53:Nat):Int)),(4,.int .i32 (((Yk a0 v53).1:Nat):Int)),(6,.iter 0),(16,qb y73)]⟩ ⟨[[.sit a0 (v53+(Yk a0 v53).2)]],[]⟩ (have h:=hE; gF 3 13 h (fun h=>by cases h; exact kE ⟨[0],1,[],0⟩) fun h=>by cases h; exact kE ⟨[0],1,[],0⟩)<|bF h (fun h=>za<|rm [] [(2,qb false)] ⟨[],[]⟩ (kE ⟨[],1,[],0⟩)<|zh<|zO<|zQ<|have h:=hr40 _ (sI h); zH<|by cases h; exact rt ⟨[],0,[],0⟩) fun h=>zg<|za<|bE h fun y77 hE h=>reg ⟨26,[(0,qs a0),(6,.iter 0),(25,qb y77)]⟩ ⟨[[.sit a0 (v53+(Yk a0 v53).2)]],[]⟩ (have h:=hE; gF 3 19 h (fun h=>bE h fun x74 hx74 h=>bE h fun r75 hr75 h=>kP 5 (wM (k:= .i64) hx74)<|kC 6 ⟨[],1,[],0⟩ (pO hr75)<|by cases h; exact kE ⟨[0],1,[],0⟩) fun h=>by cases h; exact kE ⟨[0],1,[],0⟩)<|bF h (fun h=>za<|rm [] [(2,qb false)] ⟨[],[]⟩ (kE ⟨[],1,[],0⟩)<|zh<|zO<|zQ<|have h:=hr40 _ (sI h); zH<|by cases h; exact rt ⟨[],0,[],0⟩) fun h=>zg<|zy<|⟨v53+(Yk a0 v53).2,h,wk ⟨[0],1,[],0⟩⟩) fun hb h=>kV 0 1 0 0 (DM hb)<|Wg (⟨26,[(0,qs a0),(6,.iter 0),(7,.tuple [qb false]),(8,qb false)]⟩) (⟨[[.sit a0 v53]],[]⟩) zP (kE ⟨[0],1,[],0⟩)<|za<|bN<|zL<|zw<|zv<|⟨(),sI h,wk ⟨[],1,[],0⟩⟩)) fun y38 h=>za<|rs [] [(2,qb true)] (kE ⟨[],0,[],0⟩)<|zh<|by cases h; exact rt ⟨[],0,[],0⟩
def dQ (n:Nat) (a0:Int):Option Bool:=
 (if(decide (a0≥97))=true then(if(decide (a0≤122))=true then(some true)else(if(decide (a0≥65))=true then(if(decide (a0≤90))=true then(some true)else(if(decide (a0≥48))=true then(some (decide (a0≤57)))else(some false)))else(if(decide (a0≥48))=true then(some (decide (a0≤57)))else(some false))))else(if(decide (a0≥65))=true then(if(decide (a0≤90))=true then(some true)else(if(decide (a0≥48))=true then(some (decide (a0≤57)))else(some false)))else(if(decide (a0≥48))=true then(some (decide (a0≤57)))else(some false)))).bind fun y2=>
 some y2
theorem XK {n:Nat} {a0:Int} {r:Bool} (h:dQ n a0=some r):AC mx 243 [qu a0] [] (qb r) []:=by
 delta dQ at h
 exact fnc Tryz.func243 rfl<|za<|rs [] [(0,qu a0)] (kE ⟨[],0,[],0⟩)<|za<|bE h fun y2 hE h=>reg ⟨25,[(2,qb y2)]⟩ ⟨[],[]⟩ (have h:=hE; gF 3 5 h (fun h=>gF 7 9 h (fun h=>by cases h; exact kE ⟨[],0,[],0⟩) fun h=>gF 10 12 h (fun h=>gF 15 17 h (fun h=>by cases h; exact kE ⟨[],0,[],0⟩) fun h=>gF 18 20 h (fun h=>by cases h; exact kE ⟨[],0,[],0⟩) fun h=>by cases h; exact kE ⟨[],0,[],0⟩) fun h=>gF 18 20 h (fun h=>by cases h; exact kE ⟨[],0,[],0⟩) fun h=>by cases h; exact kE ⟨[],0,[],0⟩) fun h=>gF 10 12 h (fun h=>gF 15 17 h (fun h=>by cases h; exact kE ⟨[],0,[],0⟩) fun h=>gF 18 20 h (fun h=>by cases h; exact kE ⟨[],0,[],0⟩) fun h=>by cases h; exact kE ⟨[],0,[],0⟩) fun h=>gF 18 20 h (fun h=>by cases h; exact kE ⟨[],0,[],0⟩) fun h=>by cases h; exact kE ⟨[],0,[],0⟩)<|zh<|by cases h; exact rt ⟨[],0,[],0⟩
def qq (n:Nat) (a0:Int):Option Bool:=
 ((dQ n a0).bind fun r1=>
 if r1=true then(some true)else((XJ n ([32,39,40,41,43,44,45,46,47,58,61,63]:List UInt8) a0).bind fun r2=>
 some (decide (r2≥0)))).bind fun y4=>
 some y4
theorem YM {n:Nat} {a0:Int} {r:Bool} (h:qq n a0=some r):AC mx 242 [qu a0] [] (qb r) []:=by
 delta qq at h
 exact fnc Tryz.func242 rfl<|za<|rs [] [(0,qu a0)] (kE ⟨[],0,[],0⟩)<|za<|bE h fun y4 hE h=>reg ⟨10,[(2,qb y4)]⟩ ⟨[],[]⟩ (have h:=hE; bE h fun r1 hr1 h=>kC 1 ⟨[],0,[],0⟩ (XK hr1)<|gF 3 5 h (fun h=>by cases h; exact kE ⟨[],0,[],0⟩) fun h=>bE h fun r2 hr2 h=>kC 4 ⟨[],0,[],0⟩ (WP hr2)<|by cases h; exact kE ⟨[],0,[],0⟩)<|zh<|by cases h; exact rt ⟨[],0,[],0⟩
def jh (n:Nat) (a0:(List UInt8)):Nat→Int→Option (Ctl Bool Unit)
 |0,_=>none
 | k+1,v21=>
  if(decide (v21<(List.length a0:Int)))=true then((xD a0 v21).bind fun x28=>
  (qq n x28).bind fun r29=>
  if(!r29)=true then(some (.ret false))else(jh n a0 k (IntKind.wrap .i64 (v21+1))))else(some (.nxt ()))
def pi (n:Nat) (a0:(List UInt8)):Option Bool:=
 ym (jh n a0 n 0) (fun r=>some r) (fun y14=>
 some true)
theorem VD {n:Nat} {a0:(List UInt8)} {r:Bool} (h:pi n a0=some r):AC mx 241 [qs a0,.func (.func 242) [] []] [] (qb r) []:=by
 delta pi at h
 exact fnc Tryz.func241 rfl<|za<|rs [1] [(0,qs a0)] (kE ⟨[],0,[],0⟩)<|za<|za<|rs [1] [(0,qs a0),(5,qi 0)] (kE ⟨[],0,[],0⟩)<|blC h (fun _=>⟨18,[]⟩) (fun _=>⟨[],[]⟩) (fun o15 h hr16=>zN (X:=Int) (fun x=>⟨18,[(0,qs a0),(1,.func (.func 242) [] []),(5,qi x)]⟩) (fun x=>⟨[],[]⟩) (fun k x=>jh n a0 k x=some o15) (fun _ hx=>by simp [jh]at hx) n 0 h (wk ⟨[],0,[],0⟩) (fun k x h=>by revert h; revert x; intro v21 h; rw [jh]at h; exact za<|za<|rs [1] [(0,qs a0),(5,qi v21),(9,qb (decide (v21<(List.length a0:Int))))] (kE ⟨[],0,[],0⟩)<|bF h (fun h=>zg<|za<|zx<|za<|bE h fun x28 hx28 h=>bE h fun r29 hr29 h=>rs [1] [(0,qs a0),(5,qi v21),(17,qb (!r29))] (kP 3 (z7 hx28)<|kC 4 ⟨[],0,[],0⟩ (YM hr29)<|kE ⟨[],0,[],0⟩)<|bF h (fun h=>za<|rs [] [(4,qb false)] (kE ⟨[],0,[],0⟩)<|zh<|zO<|zQ<|have h:=hr16 _ (sI h); zH<|by cases h; exact rt ⟨[],0,[],0⟩) fun h=>zg<|zy<|rsN zp [1] [(0,qs a0),(5,qi (IntKind.wrap .i64 (v21+1)))] (kE ⟨[],0,[],0⟩)<|⟨IntKind.wrap .i64 (v21+1),h,wk ⟨[],0,[],0⟩⟩) fun h=>zL<|zw<|zv<|⟨(),sI h,wk ⟨[],0,[],0⟩⟩)) fun y14 h=>za<|rs [] [(4,qb true)] (kE ⟨[],0,[],0⟩)<|zh<|by cases h; exact rt ⟨[],0,[],0⟩
def qt (n:Nat) (a0:Int):Option Bool:=
 (if(decide (a0≥32))=true then(some (decide (a0≤126)))else(some false)).bind fun y2=>
 some y2
theorem YE {n:Nat} {a0:Int} {r:Bool} (h:qt n a0=some r):AC mx 245 [qu a0] [] (qb r) []:=by
 delta qt at h
 exact fnc Tryz.func245 rfl<|za<|rs [] [(0,qu a0)] (kE ⟨[],0,[],0⟩)<|za<|bE h fun y2 hE h=>reg ⟨9,[(2,qb y2)]⟩ ⟨[],[]⟩ (have h:=hE; gF 3 5 h (fun h=>by cases h; exact kE ⟨[],0,[],0⟩) fun h=>by cases h; exact kE ⟨[],0,[],0⟩)<|zh<|by cases h; exact rt ⟨[],0,[],0⟩
def uq (n:Nat) (a0:(List UInt8)):Nat→Int→Option (Ctl Bool Unit)
 |0,_=>none
 | k+1,v21=>
  if(decide (v21<(List.length a0:Int)))=true then((xD a0 v21).bind fun x28=>
  (qt n x28).bind fun r29=>
  if(!r29)=true then(some (.ret false))else(uq n a0 k (IntKind.wrap .i64 (v21+1))))else(some (.nxt ()))
def ga (n:Nat) (a0:(List UInt8)):Option Bool:=
 ym (uq n a0 n 0) (fun r=>some r) (fun y14=>
 some true)
theorem Wc {n:Nat} {a0:(List UInt8)} {r:Bool} (h:ga n a0=some r):AC mx 241 [qs a0,.func (.func 245) [] []] [] (qb r) []:=by
 delta ga at h
 exact fnc Tryz.func241 rfl<|za<|rs [1] [(0,qs a0)] (kE ⟨[],0,[],0⟩)<|za<|za<|rs [1] [(0,qs a0),(5,qi 0)] (kE ⟨[],0,[],0⟩)<|blC h (fun _=>⟨18,[]⟩) (fun _=>⟨[],[]⟩) (fun o15 h hr16=>zN (X:=Int) (fun x=>⟨18,[(0,qs a0),(1,.func (.func 245) [] []),(5,qi x)]⟩) (fun x=>⟨[],[]⟩) (fun k x=>uq n a0 k x=some o15) (fun _ hx=>by simp [uq]at hx) n 0 h (wk ⟨[],0,[],0⟩) (fun k x h=>by revert h; revert x; intro v21 h; rw [uq]at h; exact za<|za<|rs [1] [(0,qs a0),(5,qi v21),(9,qb (decide (v21<(List.length a0:Int))))] (kE ⟨[],0,[],0⟩)<|bF h (fun h=>zg<|za<|zx<|za<|bE h fun x28 hx28 h=>bE h fun r29 hr29 h=>rs [1] [(0,qs a0),(5,qi v21),(17,qb (!r29))] (kP 3 (z7 hx28)<|kC 4 ⟨[],0,[],0⟩ (YE hr29)<|kE ⟨[],0,[],0⟩)<|bF h (fun h=>za<|rs [] [(4,qb false)] (kE ⟨[],0,[],0⟩)<|zh<|zO<|zQ<|have h:=hr16 _ (sI h); zH<|by cases h; exact rt ⟨[],0,[],0⟩) fun h=>zg<|zy<|rsN zp [1] [(0,qs a0),(5,qi (IntKind.wrap .i64 (v21+1)))] (kE ⟨[],0,[],0⟩)<|⟨IntKind.wrap .i64 (v21+1),h,wk ⟨[],0,[],0⟩⟩) fun h=>zL<|zw<|zv<|⟨(),sI h,wk ⟨[],0,[],0⟩⟩)) fun y14 h=>za<|rs [] [(4,qb true)] (kE ⟨[],0,[],0⟩)<|zh<|by cases h; exact rt ⟨[],0,[],0⟩
def kH (n:Nat) (a0:Int) (a1:(List UInt8)):Option Bool:=
 if(a0==12)=true then((pf n a1).bind fun r4=>
 some r4)else(if(a0==19)=true then((pi n a1).bind fun r5=>
 some r5)else(if(a0==22)=true then((ga n a1).bind fun r6=>
 some r6)else(some false)))
theorem XX {n:Nat} {a0:Int} {a1:(List UInt8)} {r:Bool} (h:kH n a0 a1=some r):AC mx 212 [qi a0,qs a1] [] (qb r) []:=by
 delta kH at h
 exact fnc Tryz.func212 rfl<|za<|rs [] [(0,qi a0),(1,qs a1)] (kE ⟨[],0,[],0⟩)<|za<|za<|rs [] [(1,qs a1),(5,qi a0)] (kE ⟨[],0,[],0⟩)<|zx<|za<|rs [] [(1,qs a1),(5,qi a0),(6,qb (a0==12))] (kE ⟨[],0,[],0⟩)<|bF h (fun h=>za<|bE h fun r4 hr4 h=>rs [] [(4,qb r4)] (kC 1 ⟨[],0,[],0⟩ (VH hr4)<|kE ⟨[],0,[],0⟩)<|zh<|zO<|by cases h; exact rt ⟨[],0,[],0⟩) fun h=>za<|rs [] [(1,qs a1),(5,qi a0),(10,qb (a0==19))] (kE ⟨[],0,[],0⟩)<|bF h (fun h=>za<|bE h fun r5 hr5 h=>rs [] [(4,qb r5)] (kC 1 ⟨[],0,[],0⟩ (VD hr5)<|kE ⟨[],0,[],0⟩)<|zh<|zO<|by cases h; exact rt ⟨[],0,[],0⟩) fun h=>za<|rs [] [(1,qs a1),(14,qb (a0==22))] (kE ⟨[],0,[],0⟩)<|bF h (fun h=>za<|bE h fun r6 hr6 h=>rs [] [(4,qb r6)] (kC 1 ⟨[],0,[],0⟩ (Wc hr6)<|kE ⟨[],0,[],0⟩)<|zh<|zO<|by cases h; exact rt ⟨[],0,[],0⟩) fun h=>zg<|zy<|za<|rs [] [(4,qb false)] (kE ⟨[],0,[],0⟩)<|zh<|by cases h; exact rt ⟨[],0,[],0⟩
def xF (n:Nat) (x402:(List zb)) (x397:zb):Nat→Int→Option (Ctl Int Unit)
 |0,_=>none
 | k+1,v415=>
  if(decide (v415<(List.length x402:Int)))=true then((zX x402 v415).bind fun x419=>
  if(x419.yA==x397.yA)=true then(some (.ret 10))else(xF n x402 x397 k (IntKind.wrap .i64 (v415+1))))else(some (.nxt ()))
def yV (n:Nat) (a0:(List zb)):Nat→Int→Option (Ctl Int Unit)
 |0,_=>none
 | k+1,v281=>
  if(decide (v281<(List.length a0:Int)))=true then((zX a0 v281).bind fun x397=>
  (jC n x397.yA).bind fun r398=>
  if(!r398)=true then(some (.ret 11))else((if(x397.xo==([]:List UInt8))=true then(some true)else((kH n x397.vT x397.xo).bind fun r399=>
  some (!r399))).bind fun y401=>
  if y401=true then(some (.ret 13))else(if(decide ((List.length x397.xo:Int)>64))=true then(some (.ret 2))else((lsl a0 0 v281).bind fun x402=>
  ym (xF n x402 x397 n 0) (fun r=>some (.ret r)) (fun y410=>
  yV n a0 k (IntKind.wrap .i64 (v281+1)))))))else(some (.nxt ()))
def vW (n:Nat) (a0:(List zb)):Option Int:=
 if((List.length a0:Int)==0)=true then(some 14)else(if(decide ((List.length a0:Int)>4))=true then(some 2)else(ym (yV n a0 n 0) (fun r=>some r) (fun y209=>
 some 0)))
theorem dX {n:Nat} {a0:(List zb)} {r:Int} (h:vW n a0=some r):AC mx 160 [ql 3 zb.cells a0] [] (qi r) []:=by
 delta vW at h
 exact fnc Tryz.func160 rfl<|za<|rs [0] [] (kE ⟨[],0,[],0⟩)<|za<|za<|rs [0] [(9,qb ((List.length a0:Int)==0))] (kP 1 (zU (c:=zb.cells) (l:=a0) (e:=140) (sz:=3) (sz':=3) (b:=40) (tok:= .none))<|kE ⟨[],0,[],0⟩)<|bF h (fun h=>za<|rs [] [(2,qi 14)] (kE ⟨[],0,[],0⟩)<|zh<|by cases h; exact rt ⟨[],0,[],0⟩) fun h=>zg<|za<|za<|rs [0] [(12,qb (decide ((List.length a0:Int)>4)))] (kP 1 (zU (c:=zb.cells) (l:=a0) (e:=140) (sz:=3) (sz':=3) (b:=40) (tok:= .none))<|kE ⟨[],0,[],0⟩)<|bF h (fun h=>za<|rs [] [(2,qi 2)] (kE ⟨[],0,[],0⟩)<|zh<|by cases h; exact rt ⟨[],0,[],0⟩) fun h=>zg<|za<|za<|rs [0] [(13,ql 3 zb.cells a0),(14,qi (List.length a0:Int)),(15,qi 0)] (kP 1 (zU (c:=zb.cells) (l:=a0) (e:=140) (sz:=3) (sz':=3) (b:=40) (tok:= .none))<|kE ⟨[],0,[],0⟩)<|blC h (fun _=>⟨54,[]⟩) (fun _=>⟨[],[]⟩) (fun o210 h hr211=>zN (X:=Int) (fun x=>⟨54,[(0,ql 3 zb.cells a0),(13,ql 3 zb.cells a0),(14,qi (List.length a0:Int)),(15,qi x)]⟩) (fun x=>⟨[],[]⟩) (fun k x=>yV n a0 k x=some o210) (fun _ hx=>by simp [yV]at hx) n 0 h (wk ⟨[],0,[],0⟩) (fun k x h=>by revert h; revert x; intro v281 h; rw [yV]at h; exact za<|rs [0,13,14,15] [(16,qb (decide (v281<(List.length a0:Int))))] (kE ⟨[],0,[],0⟩)<|za<|bF h (fun h=>zg<|za<|zx<|za<|bE h fun x397 hx397 h=>rm [0,13,14,15] [(3,qi v281),(4,qp 0)] ⟨[zb.cells x397],[]⟩ (kP 1 (zz (c:=zb.cells) (e:=140) (sz:=3) (b:=40) (tok:= .none) hx397)<|kE ⟨[0],1,[],0⟩)<|za<|za<|bE h fun r398 hr398 h=>rs [0,3,13,14,15] [(4,qp 0),(23,qb (!r398))] (kC 2 ⟨[],1,[],0⟩ (kQ hr398)<|kE ⟨[0],1,[],0⟩)<|bF h (fun h=>za<|rm [] [(2,qi 11)] ⟨[],[]⟩ (kE ⟨[],1,[],0⟩)<|zh<|zO<|zQ<|have h:=hr211 _ (sI h); zH<|by cases h; exact rt ⟨[],0,[],0⟩) fun h=>zg<|za<|za<|bE h fun y401 hE h=>reg ⟨54,[(0,ql 3 zb.cells a0),(3,qi v281),(4,qp 0),(13,ql 3 zb.cells a0),(14,qi (List.length a0:Int)),(15,qi v281),(34,qb y401)]⟩ ⟨[zb.cells x397],[]⟩ (have h:=hE; gF 4 27 h (fun h=>by cases h; exact kE ⟨[0],1,[],0⟩) fun h=>bE h fun r399 hr399 h=>kC 8 ⟨[],1,[],0⟩ (XX hr399)<|by cases h; exact kE ⟨[0],1,[],0⟩)<|bF h (fun h=>za<|rm [] [(2,qi 13)] ⟨[],[]⟩ (kE ⟨[],1,[],0⟩)<|zh<|zO<|zQ<|have h:=hr211 _ (sI h); zH<|by cases h; exact rt ⟨[],0,[],0⟩) fun h=>zg<|za<|za<|rs [0,3,13,14,15] [(4,qp 0),(38,qb (decide ((List.length x397.xo:Int)>64)))] (kE ⟨[0],1,[],0⟩)<|bF h (fun h=>za<|rm [] [(2,qi 2)] ⟨[],[]⟩ (kE ⟨[],1,[],0⟩)<|zh<|zO<|zQ<|have h:=hr211 _ (sI h); zH<|by cases h; exact rt ⟨[],0,[],0⟩) fun h=>zg<|za<|bE h fun x402 hx402 h=>rs [0,13,14,15] [(4,qp 0),(41,ql 3 zb.cells x402),(42,qi (List.length x402:Int)),(43,qi 0)] (kP 2 (gE (k:= .i64) (c:=zb.cells) (e:=140) (sz:=3) (b:=40) (tok:= .none) hx402)<|kP 3 (zU (c:=zb.cells) (l:=x402) (e:=140) (sz:=3) (sz':=3) (b:=40) (tok:= .none))<|kE ⟨[0],1,[],0⟩)<|GG h zP (fun _=>⟨54,[(0,ql 3 zb.cells a0),(13,ql 3 zb.cells a0),(14,qi (List.length a0:Int)),(15,qi v281)]⟩) (fun _=>⟨[],[]⟩) (fun o411 h hr412=>zN (X:=Int) (fun x=>⟨54,[(0,ql 3 zb.cells a0),(4,qp 0),(13,ql 3 zb.cells a0),(14,qi (List.length a0:Int)),(15,qi v281),(41,ql 3 zb.cells x402),(42,qi (List.length x402:Int)),(43,qi x)]⟩) (fun x=>⟨[zb.cells x397],[]⟩) (fun k x=>xF n x402 x397 k x=some o411) (fun _ hx=>by simp [xF]at hx) n 0 h (wk ⟨[0],1,[],0⟩) (fun k x h=>by revert h; revert x; intro v415 h; rw [xF]at h; exact za<|rs [0,13,14,15,41,42,43] [(4,qp 0),(44,qb (decide (v415<(List.length x402:Int))))] (kE ⟨[0],1,[],0⟩)<|za<|bF h (fun h=>zg<|za<|zx<|za<|bE h fun x419 hx419 h=>rm [0,13,14,15,41,42,43] [(4,qp 0),(6,qp 1)] ⟨[zb.cells x397,zb.cells x419],[]⟩ (kP 0 (zz (c:=zb.cells) (e:=140) (sz:=3) (b:=40) (tok:= .none) hx419)<|kE ⟨[0,1],2,[],0⟩)<|za<|rm [0,13,14,15,41,42,43] [(4,qp 0),(51,qb (x419.yA==x397.yA))] ⟨[zb.cells x397],[]⟩ (kE ⟨[0],2,[],0⟩)<|bF h (fun h=>za<|rm [] [(2,qi 10)] ⟨[],[]⟩ (kE ⟨[],1,[],0⟩)<|zh<|zO<|zQ<|have h:=hr412 _ (sI h); zH<|zO<|zQ<|have h:=hr211 _ (sI h); zH<|by cases h; exact rt ⟨[],0,[],0⟩) fun h=>zg<|zy<|rsN zp [0,13,14,15,41,42] [(4,qp 0),(43,qi (IntKind.wrap .i64 (v415+1)))] (kE ⟨[0],1,[],0⟩)<|⟨IntKind.wrap .i64 (v415+1),h,wk ⟨[0],1,[],0⟩⟩) fun h=>zL<|zw<|zv<|⟨(),sI h,wk ⟨[],1,[],0⟩⟩)) fun y410 h=>zy<|rsN zp [0,13,14] [(15,qi (IntKind.wrap .i64 (v281+1)))] (kE ⟨[],0,[],0⟩)<|⟨IntKind.wrap .i64 (v281+1),h,wk ⟨[],0,[],0⟩⟩) fun h=>zL<|zw<|zv<|⟨(),sI h,wk ⟨[],0,[],0⟩⟩)) fun y209 h=>za<|rs [] [(2,qi 0)] (kE ⟨[],0,[],0⟩)<|zh<|by cases h; exact rt ⟨[],0,[],0⟩
def vU (n:Nat) (a0:zt):Nat→Int→Option (Ctl Int Unit)
 |0,_=>none
 | k+1,v21=>
  if(decide (v21<(List.length a0.zl:Int)))=true then((zX a0.zl v21).bind fun x28=>
  (vW n x28).bind fun r29=>
  if(r29 !=0)=true then(some (.ret r29))else(vU n a0 k (IntKind.wrap .i64 (v21+1))))else(some (.nxt ()))
def uD (n:Nat) (a0:zt):Option Int:=
 if(decide ((List.length a0.zl:Int)>8))=true then(some 2)else(ym (vU n a0 n 0) (fun r=>some r) (fun y14=>
 some 0))
theorem qE {n:Nat} {a0:zt} {r:Int} (h:uD n a0=some r):AC mx 102 [.agg [ql 1 (cL 3 zb.cells) a0.zl]] [] (qi r) []:=by
 delta uD at h
 exact fnc Tryz.func102 rfl<|za<|rm [] [(1,qp 0)] ⟨[[ql 1 (cL 3 zb.cells) a0.zl]],[]⟩ (kE ⟨[0],1,[],0⟩)<|za<|za<|rs [] [(1,qp 0),(9,qb (decide ((List.length a0.zl:Int)>8)))] (kP 2 (zU (c:=(cL 3 zb.cells)) (l:=a0.zl) (e:=141) (sz:=1) (sz':=1) (b:=24) (tok:= .none))<|kE ⟨[0],1,[],0⟩)<|bF h (fun h=>za<|rm [] [(2,qi 2)] ⟨[],[]⟩ (kE ⟨[],1,[],0⟩)<|zh<|by cases h; exact rt ⟨[],0,[],0⟩) fun h=>zg<|za<|za<|rm [] [(11,ql 1 (cL 3 zb.cells) a0.zl),(12,qi (List.length a0.zl:Int)),(13,qi 0)] ⟨[],[]⟩ (kP 2 (zU (c:=(cL 3 zb.cells)) (l:=a0.zl) (e:=141) (sz:=1) (sz':=1) (b:=24) (tok:= .none))<|kE ⟨[],1,[],0⟩)<|blC h (fun _=>⟨23,[]⟩) (fun _=>⟨[],[]⟩) (fun o15 h hr16=>zN (X:=Int) (fun x=>⟨23,[(11,ql 1 (cL 3 zb.cells) a0.zl),(12,qi (List.length a0.zl:Int)),(13,qi x)]⟩) (fun x=>⟨[],[]⟩) (fun k x=>vU n a0 k x=some o15) (fun _ hx=>by simp [vU]at hx) n 0 h (wk ⟨[],0,[],0⟩) (fun k x h=>by revert h; revert x; intro v21 h; rw [vU]at h; exact za<|rs [11,12] [(13,qi v21),(14,qb (decide (v21<(List.length a0.zl:Int))))] (kE ⟨[],0,[],0⟩)<|za<|bF h (fun h=>zg<|za<|zx<|za<|bE h fun x28 hx28 h=>rs [11,12] [(4,ql 3 zb.cells x28),(13,qi v21)] (kP 0 (zz (c:=(cL 3 zb.cells)) (e:=141) (sz:=1) (b:=24) (tok:= .none) hx28)<|kE ⟨[],0,[],0⟩)<|za<|bE h fun r29 hr29 h=>rs [11,12] [(5,qi r29),(13,qi v21)] (kC 1 ⟨[],0,[],0⟩ (dX hr29)<|kE ⟨[],0,[],0⟩)<|za<|rs [11,12] [(5,qi r29),(13,qi v21),(20,qb (r29 !=0))] (kE ⟨[],0,[],0⟩)<|bF h (fun h=>za<|rs [] [(2,qi r29)] (kE ⟨[],0,[],0⟩)<|zh<|zO<|zQ<|have h:=hr16 _ (sI h); zH<|by cases h; exact rt ⟨[],0,[],0⟩) fun h=>zg<|zy<|rsN zp [11,12] [(13,qi (IntKind.wrap .i64 (v21+1)))] (kE ⟨[],0,[],0⟩)<|⟨IntKind.wrap .i64 (v21+1),h,wk ⟨[],0,[],0⟩⟩) fun h=>zL<|zw<|zv<|⟨(),sI h,wk ⟨[],0,[],0⟩⟩)) fun y14 h=>za<|rs [] [(2,qi 0)] (kE ⟨[],0,[],0⟩)<|zh<|by cases h; exact rt ⟨[],0,[],0⟩
def uV (n:Nat) (a0:zo):Option Int:=
 (if(decide (a0.zq<0))=true then(some true)else(if(decide (a0.zq>8))=true then(some true)else(if((List.length a0.xM:Int) !=16)=true then(some true)else(some ((List.length a0.zR:Int) !=16))))).bind fun y2=>
 if y2=true then(some 18)else(some 0)
theorem ba {n:Nat} {a0:zo} {r:Int} (h:uV n a0=some r):AC mx 112 [.agg (zo.cells a0)] [] (qi r) []:=by
 delta uV at h
 exact fnc Tryz.func112 rfl<|za<|rm [] [(1,qp 0)] ⟨[zo.cells a0],[]⟩ (kE ⟨[0],1,[],0⟩)<|za<|za<|bE h fun y2 hE h=>reg ⟨23,[(22,qb y2)]⟩ ⟨[],[]⟩ (have h:=hE; gF 4 6 h (fun h=>by cases h; exact kE ⟨[],1,[],0⟩) fun h=>gF 9 11 h (fun h=>by cases h; exact kE ⟨[],1,[],0⟩) fun h=>gF 15 17 h (fun h=>by cases h; exact kE ⟨[],1,[],0⟩) fun h=>by cases h; exact kE ⟨[],1,[],0⟩)<|bF h (fun h=>za<|rs [] [(2,qi 18)] (kE ⟨[],0,[],0⟩)<|zh<|by cases h; exact rt ⟨[],0,[],0⟩) fun h=>zg<|za<|rs [] [(2,qi 0)] (kE ⟨[],0,[],0⟩)<|zh<|by cases h; exact rt ⟨[],0,[],0⟩
def uL (n:Nat) (a0:zu):Nat→Int→(List (List UInt8×Bool))→Option (Ctl Int (List (List UInt8×Bool)))
 |0,_,_=>none
 | k+1,v41,v42=>
  if(decide (v41<(List.length a0.z8:Int)))=true then((zX a0.z8 v41).bind fun x49=>
  (jC n x49).bind fun r50=>
  if(!r50)=true then(some (.ret 11))else(uL n a0 k (IntKind.wrap .i64 (v41+1)) (Ky x49 true v42)))else(some (.nxt v42))
def jA (n:Nat) (a0:zu):Nat→Option (Ctl Int Unit)
 |0=>none
 | k+1=>
  if(decide ((0:Int)<(List.length a0.qX:Int)))=true then(none)else(some (.nxt ()))
def uJ (n:Nat) (a0:zu):Nat→Int→Option (Ctl Int Unit)
 |0,_=>none
 | k+1,v86=>
  if(decide (v86<(List.length a0.uv:Int)))=true then((zX a0.uv v86).bind fun x96=>
  (uD n (zt.mk x96.zS.zl)).bind fun r97=>
  if(r97 !=0)=true then(some (.ret r97))else(if((List.length x96.zS.zl:Int)==0)=true then(some (.ret 14))else((uV n (zo.mk x96.zJ.zq x96.zJ.xM x96.zJ.zR)).bind fun r98=>
  if(r98 !=0)=true then(some (.ret r98))else(uJ n a0 k (IntKind.wrap .i64 (v86+1))))))else(some (.nxt ()))
def bm (n:Nat) (a0:zu):Option Int:=
 (if(decide (a0.U9<0))=true then(some true)else(some (decide (a0.U9>254033452799)))).bind fun y11=>
 if y11=true then(some 12)else((if(!(a0.dm==([]:List UInt8)))=true then((jC n a0.dm).bind fun r12=>
 some (!r12))else(some false)).bind fun y14=>
 if y14=true then(some 11)else((if(decide (a0.Xh<0))=true then(some true)else(if(decide (a0.Xh>511))=true then(some true)else(if(decide (a0.gz<1))=true then(some true)else(some (decide (a0.gz>8)))))).bind fun y16=>
 if y16=true then(some 1)else((if(decide ((List.length a0.z8:Int)>8))=true then(some true)else(if(decide ((List.length a0.qX:Int)>16))=true then(some true)else(some (decide ((List.length a0.uv:Int)>64))))).bind fun y18=>
 if y18=true then(some 2)else(ym (uL n a0 n 0 ([]:List (List UInt8×Bool))) (fun r=>some r) (fun y34=>
 if(decide ((List.length y34:Int)<(List.length a0.z8:Int)))=true then(some 10)else(ym (jA n a0 n) (fun r=>some r) (fun y53=>
 ym (uJ n a0 n 0) (fun r=>some r) (fun y77=>
 some 0))))))))
theorem ZS {n:Nat} {a0:zu} {r:Int} (h:bm n a0=some r):AC mx 42 [.agg (zu.cells a0)] [] (qi r) []:=by
 delta bm at h
 exact fnc Tryz.func42 rfl<|za<|rm [] [(1,qp 0)] ⟨[zu.cells a0],[]⟩ (kE ⟨[0],1,[],0⟩)<|za<|zx<|za<|bE h fun y11 hE h=>reg ⟨126,[(1,qp 0),(13,qb y11)]⟩ ⟨[zu.cells a0],[]⟩ (have h:=hE; gF 4 17 h (fun h=>by cases h; exact kE ⟨[0],1,[],0⟩) fun h=>by cases h; exact kE ⟨[0],1,[],0⟩)<|bF h (fun h=>za<|rm [] [(2,qi 12)] ⟨[],[]⟩ (kE ⟨[],1,[],0⟩)<|zh<|zO<|by cases h; exact rt ⟨[],0,[],0⟩) fun h=>za<|bE h fun y14 hE h=>reg ⟨126,[(1,qp 0),(22,qb y14)]⟩ ⟨[zu.cells a0],[]⟩ (have h:=hE; gF 4 26 h (fun h=>bE h fun r12 hr12 h=>kC 6 ⟨[],1,[],0⟩ (kQ hr12)<|by cases h; exact kE ⟨[0],1,[],0⟩) fun h=>by cases h; exact kE ⟨[0],1,[],0⟩)<|bF h (fun h=>za<|rm [] [(2,qi 11)] ⟨[],[]⟩ (kE ⟨[],1,[],0⟩)<|zh<|zO<|by cases h; exact rt ⟨[],0,[],0⟩) fun h=>za<|bE h fun y16 hE h=>reg ⟨126,[(1,qp 0),(32,qb y16)]⟩ ⟨[zu.cells a0],[]⟩ (have h:=hE; gF 4 36 h (fun h=>by cases h; exact kE ⟨[0],1,[],0⟩) fun h=>gF 9 41 h (fun h=>by cases h; exact kE ⟨[0],1,[],0⟩) fun h=>gF 14 46 h (fun h=>by cases h; exact kE ⟨[0],1,[],0⟩) fun h=>by cases h; exact kE ⟨[0],1,[],0⟩)<|bF h (fun h=>za<|rm [] [(2,qi 1)] ⟨[],[]⟩ (kE ⟨[],1,[],0⟩)<|zh<|zO<|by cases h; exact rt ⟨[],0,[],0⟩) fun h=>za<|bE h fun y18 hE h=>reg ⟨126,[(1,qp 0),(51,qb y18)]⟩ ⟨[zu.cells a0],[]⟩ (have h:=hE; kP 2 (zU (c:=cS) (l:=a0.z8) (e:=9) (sz:=1) (sz':=1) (b:=16) (tok:= .none))<|gF 5 56 h (fun h=>by cases h; exact kE ⟨[0],1,[],0⟩) fun h=>kP 7 (zU (c:=yj.cells) (l:=a0.qX) (e:=59) (sz:=3) (sz':=3) (b:=48) (tok:= .none))<|gF 11 62 h (fun h=>by cases h; exact kE ⟨[0],1,[],0⟩) fun h=>kP 13 (zU (c:=zd.cells) (l:=a0.uv) (e:=68) (sz:=4) (sz':=4) (b:=64) (tok:= .none))<|by cases h; exact kE ⟨[0],1,[],0⟩)<|bF h (fun h=>za<|rm [] [(2,qi 2)] ⟨[],[]⟩ (kE ⟨[],1,[],0⟩)<|zh<|zO<|by cases h; exact rt ⟨[],0,[],0⟩) fun h=>zg<|zy<|za<|rm [] [(1,qp 0),(3,.mapv 1)] ⟨[zu.cells a0,[.mp (mpc vB ([]:List (List UInt8×Bool)))]],[]⟩ (kE ⟨[0,1],2,[],0⟩)<|za<|za<|rs [3] [(1,qp 0),(70,ql 1 cS a0.z8),(71,qi (List.length a0.z8:Int)),(72,qi 0)] (kP 2 (zU (c:=cS) (l:=a0.z8) (e:=9) (sz:=1) (sz':=1) (b:=16) (tok:= .none))<|kE ⟨[0,1],2,[],0⟩)<|blC h (fun y34=>⟨126,[(1,qp 0),(3,.mapv 1)]⟩) (fun y34=>⟨[zu.cells a0,[.mp (mpc vB y34)]],[]⟩) (fun o35 h hr36=>zN (X:=(Int×(List (List UInt8×Bool)))) (fun x=>⟨126,[(1,qp 0),(3,.mapv 1),(70,ql 1 cS a0.z8),(71,qi (List.length a0.z8:Int)),(72,qi x.1)]⟩) (fun x=>⟨[zu.cells a0,[.mp (mpc vB x.2)]],[]⟩) (fun k x=>uL n a0 k x.1 x.2=some o35) (fun _ hx=>by simp [uL]at hx) n (0,([]:List (List UInt8×Bool))) h (wk ⟨[0,1],2,[],0⟩) (fun k x h=>by obtain⟨v41,v42⟩:=x; rw [uL]at h; exact za<|rs [3,70,71] [(1,qp 0),(72,qi v41),(73,qb (decide (v41<(List.length a0.z8:Int))))] (kE ⟨[0,1],2,[],0⟩)<|za<|bF h (fun h=>zg<|za<|zx<|za<|bE h fun x49 hx49 h=>rs [3,70,71] [(1,qp 0),(5,qs x49),(72,qi v41)] (kP 0 (zz (c:=cS) (e:=9) (sz:=1) (b:=16) (tok:= .none) hx49)<|kE ⟨[0,1],2,[],0⟩)<|za<|za<|bE h fun r50 hr50 h=>rs [3,70,71] [(1,qp 0),(5,qs x49),(72,qi v41),(78,qb (!r50))] (kC 1 ⟨[],2,[],0⟩ (kQ hr50)<|kE ⟨[0,1],2,[],0⟩)<|bF h (fun h=>za<|rm [] [(2,qi 11)] ⟨[],[]⟩ (kE ⟨[],2,[],0⟩)<|zh<|zO<|zQ<|have h:=hr36 _ (sI h); zH<|by cases h; exact rt ⟨[],0,[],0⟩) fun h=>zg<|rmN zP [3,70,71] [(1,qp 0),(72,qi v41)] ⟨[zu.cells a0,[.mp (mpc vB (Ky x49 true v42))]],[]⟩ (kV 2 2 0 1 (cw (T:=tyT) (c:=vB) (e:=v42) (k:=x49) true (kt:=9) (et:=4) (by kernel_rfl) (fun _=>rfl))<|kE ⟨[0,1],2,[],0⟩)<|zy<|rsN zp [3,70,71] [(1,qp 0),(72,qi (IntKind.wrap .i64 (v41+1)))] (kE ⟨[0,1],2,[],0⟩)<|⟨(IntKind.wrap .i64 (v41+1),Ky x49 true v42),h,wk ⟨[0,1],2,[],0⟩⟩) fun h=>zL<|zw<|zv<|⟨v42,sI h,wk ⟨[0,1],2,[],0⟩⟩)) fun y34 h=>za<|za<|rm [] [(1,qp 0),(87,qb (decide ((List.length y34:Int)<(List.length a0.z8:Int))))] ⟨[zu.cells a0],[]⟩ (kP 1 (ed (c:=vB) (e:=y34))<|kP 4 (zU (c:=cS) (l:=a0.z8) (e:=9) (sz:=1) (sz':=1) (b:=16) (tok:= .none))<|kE ⟨[0],2,[],0⟩)<|bF h (fun h=>za<|rm [] [(2,qi 10)] ⟨[],[]⟩ (kE ⟨[],1,[],0⟩)<|zh<|by cases h; exact rt ⟨[],0,[],0⟩) fun h=>zg<|za<|za<|rs [] [(1,qp 0),(89,ql 3 yj.cells a0.qX),(90,qi (List.length a0.qX:Int)),(91,qi 0)] (kP 2 (zU (c:=yj.cells) (l:=a0.qX) (e:=59) (sz:=3) (sz':=3) (b:=48) (tok:= .none))<|kE ⟨[0],1,[],0⟩)<|blC h (fun _=>⟨126,[(1,qp 0)]⟩) (fun _=>⟨[zu.cells a0],[]⟩) (fun o54 h hr55=>zN (X:=Unit) (fun _=>⟨126,[(1,qp 0),(89,ql 3 yj.cells a0.qX),(90,qi (List.length a0.qX:Int)),(91,qi 0)]⟩) (fun _=>⟨[zu.cells a0],[]⟩) (fun k _=>jA n a0 k  =some o54) (fun _ hx=>by simp [jA]at hx) n () h (wk ⟨[0],1,[],0⟩) (fun k x h=>by rw [jA]at h; exact za<|rs [89,90] [(1,qp 0),(91,qi 0),(92,qb (decide ((0:Int)<(List.length a0.qX:Int))))] (kE ⟨[0],1,[],0⟩)<|za<|bF h (fun h=>nE h) fun h=>zL<|zw<|zv<|⟨(),sI h,wk ⟨[0],1,[],0⟩⟩)) fun y53 h=>za<|za<|rm [] [(102,ql 4 zd.cells a0.uv),(103,qi (List.length a0.uv:Int)),(104,qi 0)] ⟨[],[]⟩ (kP 2 (zU (c:=zd.cells) (l:=a0.uv) (e:=68) (sz:=4) (sz':=4) (b:=64) (tok:= .none))<|kE ⟨[],1,[],0⟩)<|blC h (fun _=>⟨126,[]⟩) (fun _=>⟨[],[]⟩) (fun o78 h hr79=>zN (X:=Int) (fun x=>⟨126,[(102,ql 4 zd.cells a0.uv),(103,qi (List.length a0.uv:Int)),(104,qi x)]⟩) (fun x=>⟨[],[]⟩) (fun k x=>uJ n a0 k x=some o78) (fun _ hx=>by simp [uJ]at hx) n 0 h (wk ⟨[],0,[],0⟩) (fun k x h=>by revert h; revert x; intro v86 h; rw [uJ]at h; exact za<|rs [102,103] [(104,qi v86),(105,qb (decide (v86<(List.length a0.uv:Int))))] (kE ⟨[],0,[],0⟩)<|za<|bF h (fun h=>zg<|za<|zx<|za<|bE h fun x96 hx96 h=>rm [102,103] [(10,qp 0),(104,qi v86)] ⟨[[ql 1 (cL 3 zb.cells) x96.zS.zl,qi x96.zJ.zq,qs x96.zJ.xM,qs x96.zJ.zR]],[]⟩ (kP 0 (zz (c:=zd.cells) (e:=68) (sz:=4) (b:=64) (tok:= .none) hx96)<|kE ⟨[0],1,[],0⟩)<|za<|za<|bE h fun r97 hr97 h=>rs [102,103] [(10,qp 0),(11,qi r97),(104,qi v86)] (kC 2 ⟨[],1,[],0⟩ (qE hr97)<|kE ⟨[0],1,[],0⟩)<|za<|rs [102,103] [(10,qp 0),(11,qi r97),(104,qi v86),(112,qb (r97 !=0))] (kE ⟨[0],1,[],0⟩)<|bF h (fun h=>za<|rm [] [(2,qi r97)] ⟨[],[]⟩ (kE ⟨[],1,[],0⟩)<|zh<|zO<|zQ<|have h:=hr79 _ (sI h); zH<|by cases h; exact rt ⟨[],0,[],0⟩) fun h=>zg<|za<|za<|rs [102,103] [(10,qp 0),(104,qi v86),(118,qb ((List.length x96.zS.zl:Int)==0))] (kP 3 (zU (c:=(cL 3 zb.cells)) (l:=x96.zS.zl) (e:=141) (sz:=1) (sz':=1) (b:=24) (tok:= .none))<|kE ⟨[0],1,[],0⟩)<|bF h (fun h=>za<|rm [] [(2,qi 14)] ⟨[],[]⟩ (kE ⟨[],1,[],0⟩)<|zh<|zO<|zQ<|have h:=hr79 _ (sI h); zH<|by cases h; exact rt ⟨[],0,[],0⟩) fun h=>zg<|za<|bE h fun r98 hr98 h=>rm [102,103] [(12,qi r98),(104,qi v86)] ⟨[],[]⟩ (kC 2 ⟨[],1,[],0⟩ (ba hr98)<|kE ⟨[],1,[],0⟩)<|za<|rs [102,103] [(12,qi r98),(104,qi v86),(123,qb (r98 !=0))] (kE ⟨[],0,[],0⟩)<|bF h (fun h=>za<|rs [] [(2,qi r98)] (kE ⟨[],0,[],0⟩)<|zh<|zO<|zQ<|have h:=hr79 _ (sI h); zH<|by cases h; exact rt ⟨[],0,[],0⟩) fun h=>zg<|zy<|rsN zp [102,103] [(104,qi (IntKind.wrap .i64 (v86+1)))] (kE ⟨[],0,[],0⟩)<|⟨IntKind.wrap .i64 (v86+1),h,wk ⟨[],0,[],0⟩⟩) fun h=>zL<|zw<|zv<|⟨(),sI h,wk ⟨[],0,[],0⟩⟩)) fun y77 h=>za<|rs [] [(2,qi 0)] (kE ⟨[],0,[],0⟩)<|zh<|by cases h; exact rt ⟨[],0,[],0⟩
def qY (n:Nat) (a0:Int):Option Int:=
 some (IntKind.wrap .i64 ((IntKind.wrap .i64 ((IntKind.wrap .i64 (Int.tdiv a0 4))-(IntKind.wrap .i64 (Int.tdiv a0 100))))+(IntKind.wrap .i64 (Int.tdiv a0 400))))
theorem gU {n:Nat} {a0:Int} {r:Int} (h:qY n a0=some r):AC mx 227 [qi a0] [] (qi r) []:=by
 delta qY at h
 exact fnc Tryz.func227 rfl<|za<|rs [] [(0,qi a0)] (kE ⟨[],0,[],0⟩)<|za<|rs [] [(2,qi (IntKind.wrap .i64 ((IntKind.wrap .i64 ((IntKind.wrap .i64 (Int.tdiv a0 4))-(IntKind.wrap .i64 (Int.tdiv a0 100))))+(IntKind.wrap .i64 (Int.tdiv a0 400)))))] (kE ⟨[],0,[],0⟩)<|zh<|by cases h; exact rt ⟨[],0,[],0⟩
def qM (n:Nat) (a0:Int):Option Int:=
 (qY n (IntKind.wrap .i64 (a0-1))).bind fun r1=>
 (qY n 1949).bind fun r2=>
 some (IntKind.wrap .i64 ((IntKind.wrap .i64 ((IntKind.wrap .i64 ((365:Int)*(IntKind.wrap .i64 (a0-1950))))+r1))-r2))
theorem bu {n:Nat} {a0:Int} {r:Int} (h:qM n a0=some r):AC mx 172 [qi a0] [] (qi r) []:=by
 delta qM at h
 exact fnc Tryz.func172 rfl<|za<|rs [] [(0,qi a0)] (kE ⟨[],0,[],0⟩)<|za<|rs [] [(0,qi a0),(3,.func (.func 227) [] [])] (kE ⟨[],0,[],0⟩)<|za<|bE h fun r1 hr1 h=>bE h fun r2 hr2 h=>rs [] [(2,qi (IntKind.wrap .i64 ((IntKind.wrap .i64 ((IntKind.wrap .i64 ((365:Int)*(IntKind.wrap .i64 (a0-1950))))+r1))-r2)))] (kC 6 ⟨[],0,[],0⟩ (gU hr1)<|kC 9 ⟨[],0,[],0⟩ (gU hr2)<|kE ⟨[],0,[],0⟩)<|zh<|by cases h; exact rt ⟨[],0,[],0⟩
def p6 (n:Nat) (a0:Int):Option Bool:=
 (if((Int.tmod a0 4)==0)=true then(if((Int.tmod a0 100) !=0)=true then(some true)else(some ((Int.tmod a0 400)==0)))else(some false)).bind fun y2=>
 some y2
theorem WY {n:Nat} {a0:Int} {r:Bool} (h:p6 n a0=some r):AC mx 228 [qi a0] [] (qb r) []:=by
 delta p6 at h
 exact fnc Tryz.func228 rfl<|za<|rs [] [(0,qi a0)] (kE ⟨[],0,[],0⟩)<|za<|bE h fun y2 hE h=>reg ⟨16,[(2,qb y2)]⟩ ⟨[],[]⟩ (have h:=hE; gF 4 6 h (fun h=>gF 8 10 h (fun h=>by cases h; exact kE ⟨[],0,[],0⟩) fun h=>by cases h; exact kE ⟨[],0,[],0⟩) fun h=>by cases h; exact kE ⟨[],0,[],0⟩)<|zh<|by cases h; exact rt ⟨[],0,[],0⟩
def j6 (n:Nat) (a0:Int) (a1:Int):Option Int:=
 (if(a1==2)=true then((p6 n a0).bind fun r1=>
 some r1)else(some false)).bind fun y3=>
 if y3=true then(some 29)else((qZ 12 (IntKind.wrap .i64 (a1-1))).bind fun x4=>
 ((Ud)[(0+x4*1)]?).bind fun x5=>
 some x5)
theorem qF {n:Nat} {a0:Int} {a1:Int} {r:Int} (h:j6 n a0 a1=some r):AC mx 173 [qi a0,qi a1] [] (qi r) []:=by
 delta j6 at h
 exact fnc Tryz.func173 rfl<|za<|rs [] [(0,qi a0),(1,qi a1)] (kE ⟨[],0,[],0⟩)<|za<|za<|bE h fun y3 hE h=>reg ⟨15,[(1,qi a1),(10,qb y3)]⟩ ⟨[],[]⟩ (have h:=hE; gF 3 7 h (fun h=>bE h fun r1 hr1 h=>kC 4 ⟨[],0,[],0⟩ (WY hr1)<|by cases h; exact kE ⟨[],0,[],0⟩) fun h=>by cases h; exact kE ⟨[],0,[],0⟩)<|bF h (fun h=>za<|rs [] [(4,qi 29)] (kE ⟨[],0,[],0⟩)<|zh<|by cases h; exact rt ⟨[],0,[],0⟩) fun h=>zg<|za<|bE h fun x4 hx4 h=>bE h fun x5 hx5 h=>rs [] [(4,qi x5)] (kP 2 (cC (g:=0) (off:=0) (sz:=1) hx4)<|kP 3 (Bl (c:=vI .i64) (l:=Ud) (off:=(0+x4*1)) hx5)<|kE ⟨[],0,[],0⟩)<|zh<|by cases h; exact rt ⟨[],0,[],0⟩
def j4 (n:Nat) (a0:Int):Nat→Int→Option Int
 |0,_=>none
 | k+1,v11=>
  (qM n (IntKind.wrap .i64 (v11+1))).bind fun r13=>
  if(decide (r13≤(IntKind.wrap .i64 (Int.tdiv a0 86400))))=true then(j4 n a0 k (IntKind.wrap .i64 (v11+1)))else(some v11)
def j8 (n:Nat) (y8:Int):Nat→Int→Int→Option (Int×Int)
 |0,_,_=>none
 | k+1,v33,v34=>
  (j6 n y8 v34).bind fun r38=>
  if(decide (v33≥r38))=true then((j6 n y8 v34).bind fun r40=>
  j8 n y8 k (IntKind.wrap .i64 (v33-r40)) (IntKind.wrap .i64 (v34+1)))else(some (v33,v34))
def pv (n:Nat) (a0:Int):Option (yR×Int):=
 (if(decide (a0<0))=true then(some true)else(some (decide (a0>254033452799)))).bind fun y2=>
 if y2=true then(some ((yR.mk 0 0 0 0 0 0),1))else((j4 n a0 n (IntKind.wrap .i64 ((1950:Int)+(IntKind.wrap .i64 (Int.tdiv (IntKind.wrap .i64 (Int.tdiv a0 86400)) 366))))).bind fun y8=>
 (qM n y8).bind fun r14=>
 (j8 n y8 n (IntKind.wrap .i64 ((IntKind.wrap .i64 (Int.tdiv a0 86400))-r14)) 1).bind fun y28=>
 some ((yR.mk y8 y28.2 (IntKind.wrap .i64 (y28.1+1)) (IntKind.wrap .i64 (Int.tdiv (Int.tmod a0 86400) 3600)) (Int.tmod (IntKind.wrap .i64 (Int.tdiv (Int.tmod a0 86400) 60)) 60) (Int.tmod (Int.tmod a0 86400) 60)),0))
theorem Wq {n:Nat} {a0:Int} {r:(yR×Int)} (h:pv n a0=some r):AC mx 113 [qi a0] [] (.tuple [.agg (yR.cells r.1),qi r.2]) []:=by
 delta pv at h
 exact fnc Tryz.func113 rfl<|za<|rm [] [(0,qi a0),(2,qp 0)] ⟨[[qi 0,qi 0,qi 0,qi 0,qi 0,qi 0]],[]⟩ (kE ⟨[0],1,[],0⟩)<|za<|za<|bE h fun y2 hE h=>reg ⟨57,[(0,qi a0),(2,qp 0),(13,qb y2)]⟩ ⟨[[qi 0,qi 0,qi 0,qi 0,qi 0,qi 0]],[]⟩ (have h:=hE; gF 3 10 h (fun h=>by cases h; exact kE ⟨[0],1,[],0⟩) fun h=>by cases h; exact kE ⟨[0],1,[],0⟩)<|bF h (fun h=>za<|rs [] [(2,qp 0),(3,qi 1)] (kE ⟨[0],1,[],0⟩)<|zh<|by cases h; exact rt ⟨[],1,[],0⟩) fun h=>zg<|za<|rs [] [(2,qp 0),(4,qi (IntKind.wrap .i64 (Int.tdiv a0 86400))),(5,qi (Int.tmod a0 86400))] (kE ⟨[0],1,[],0⟩)<|za<|rs [4,5] [(2,qp 0),(6,qi (IntKind.wrap .i64 ((1950:Int)+(IntKind.wrap .i64 (Int.tdiv (IntKind.wrap .i64 (Int.tdiv a0 86400)) 366)))))] (kE ⟨[0],1,[],0⟩)<|za<|blE h (fun y8=>⟨57,[(2,qp 0),(4,qi (IntKind.wrap .i64 (Int.tdiv a0 86400))),(5,qi (Int.tmod a0 86400)),(6,qi y8)]⟩) (fun y8=>⟨[[qi 0,qi 0,qi 0,qi 0,qi 0,qi 0]],[]⟩) (fun y8 h=>zN (X:=Int) (fun x=>⟨57,[(2,qp 0),(4,qi (IntKind.wrap .i64 (Int.tdiv a0 86400))),(5,qi (Int.tmod a0 86400)),(6,qi x)]⟩) (fun x=>⟨[[qi 0,qi 0,qi 0,qi 0,qi 0,qi 0]],[]⟩) (fun k x=>j4 n a0 k x=some y8) (fun _ hx=>by simp [j4]at hx) n (IntKind.wrap .i64 ((1950:Int)+(IntKind.wrap .i64 (Int.tdiv (IntKind.wrap .i64 (Int.tdiv a0 86400)) 366)))) h (wk ⟨[0],1,[],0⟩) (fun k x h=>by revert h; revert x; intro v11 h; rw [j4]at h; exact za<|za<|bE h fun r13 hr13 h=>rs [4,5] [(2,qp 0),(6,qi v11),(26,qb (decide (r13≤(IntKind.wrap .i64 (Int.tdiv a0 86400)))))] (kC 2 ⟨[],1,[],0⟩ (bu hr13)<|kE ⟨[0],1,[],0⟩)<|bF h (fun h=>zg<|zx<|rsN (ju (P:=Tryz.prog) (gl:=gl0 mx) zp) [4,5] [(2,qp 0),(6,qi (IntKind.wrap .i64 (v11+1)))] (kE ⟨[0],1,[],0⟩)<|zy<|⟨IntKind.wrap .i64 (v11+1),h,wk ⟨[0],1,[],0⟩⟩) fun h=>zL<|zw<|zv<|⟨v11,sI h,wk ⟨[0],1,[],0⟩⟩)) fun y8 h=>za<|bE h fun r14 hr14 h=>rs [5] [(2,qp 0),(4,qi (IntKind.wrap .i64 ((IntKind.wrap .i64 (Int.tdiv a0 86400))-r14))),(6,qi y8)] (kC 2 ⟨[],1,[],0⟩ (bu hr14)<|kE ⟨[0],1,[],0⟩)<|za<|rs [4,5] [(2,qp 0),(6,qi y8),(7,qi 1)] (kE ⟨[0],1,[],0⟩)<|za<|blE h (fun y28=>⟨57,[(2,qp 0),(4,qi y28.1),(5,qi (Int.tmod a0 86400)),(6,qi y8),(7,qi y28.2)]⟩) (fun y28=>⟨[[qi 0,qi 0,qi 0,qi 0,qi 0,qi 0]],[]⟩) (fun y28 h=>zN (X:=(Int×Int)) (fun x=>⟨57,[(2,qp 0),(4,qi x.1),(5,qi (Int.tmod a0 86400)),(6,qi y8),(7,qi x.2)]⟩) (fun x=>⟨[[qi 0,qi 0,qi 0,qi 0,qi 0,qi 0]],[]⟩) (fun k x=>j8 n y8 k x.1 x.2=some y28) (fun _ hx=>by simp [j8]at hx) n (IntKind.wrap .i64 ((IntKind.wrap .i64 (Int.tdiv a0 86400))-r14),1) h (wk ⟨[0],1,[],0⟩) (fun k x h=>by obtain⟨v33,v34⟩:=x; rw [j8]at h; exact za<|za<|bE h fun r38 hr38 h=>rs [5] [(2,qp 0),(4,qi v33),(6,qi y8),(7,qi v34),(37,qb (decide (v33≥r38)))] (kC 3 ⟨[],1,[],0⟩ (qF hr38)<|kE ⟨[0],1,[],0⟩)<|bF h (fun h=>zg<|zx<|za<|bE h fun r40 hr40 h=>rs [5] [(2,qp 0),(4,qi (IntKind.wrap .i64 (v33-r40))),(6,qi y8),(7,qi v34)] (kC 3 ⟨[],1,[],0⟩ (qF hr40)<|kE ⟨[0],1,[],0⟩)<|rsN (ju (P:=Tryz.prog) (gl:=gl0 mx) zp) [4,5] [(2,qp 0),(6,qi y8),(7,qi (IntKind.wrap .i64 (v34+1)))] (kE ⟨[0],1,[],0⟩)<|zy<|⟨(IntKind.wrap .i64 (v33-r40),IntKind.wrap .i64 (v34+1)),h,wk ⟨[0],1,[],0⟩⟩) fun h=>zL<|zw<|zv<|⟨(v33,v34),sI h,wk ⟨[0],1,[],0⟩⟩)) fun y28 h=>za<|rm [] [(2,qp 0),(3,qi 0)] ⟨[[qi y8,qi y28.2,qi (IntKind.wrap .i64 (y28.1+1)),qi (IntKind.wrap .i64 (Int.tdiv (Int.tmod a0 86400) 3600)),qi (Int.tmod (IntKind.wrap .i64 (Int.tdiv (Int.tmod a0 86400) 60)) 60),qi (Int.tmod (Int.tmod a0 86400) 60)]],[]⟩ (kE ⟨[0],1,[],0⟩)<|zh<|by cases h; exact rt ⟨[],1,[],0⟩
def qQ (n:Nat) (a2:Int):Nat→Nat→Int→(List Int)→Option (Nat×(List Int))
 |0,_,_,_=>none
 | k+1,v16,v17,v18=>
  if(decide (v17<a2))=true then((gv 1 v16 v18 ([48]:List Int)).bind fun x22=>
  qQ n a2 k (v16+List.length ([48]:List Int)) (IntKind.wrap .i64 (v17+1)) x22)else(some (v16,v18))
def qN (n:Nat) (y12:(Nat×(List Int))):Nat→Int→Int→(List Int)→Option (List Int)
 |0,_,_,_=>none
 | k+1,v45,v46,v47=>
  if(decide (v46≥((0:Nat):Int)))=true then((qZ y12.1 v46).bind fun x54=>
  (YN v47 (x54*1) (IntKind.wrap .u8 (IntKind.wrap .i64 ((48:Int)+(Int.tmod v45 10))))).bind fun x55=>
  qN n y12 k (IntKind.wrap .i64 (Int.tdiv v45 10)) (IntKind.wrap .i64 (v46-1)) x55)else(some v47)
def pg (n:Nat) (a1:Int) (a2:Int):Option (Nat×(List Int)):=
 (qQ n a2 n 0 0 ([]:List Int)).bind fun y12=>
 (qN n y12 n a1 (IntKind.wrap .i64 (((y12.1:Nat):Int)-1)) y12.2).bind fun y39=>
 some (y12.1,y39)
theorem Z2 {n:Nat} {a1:Int} {a2:Int} {r:(Nat×(List Int))} (h:pg n a1 a2=some r):AC mx 114 [qn,qi a1,qi a2] [] (.own 0 r.1 1) [[.buf (List.map (vI .u8) r.2)]]:=by
 delta pg at h
 exact fnc Tryz.func114 rfl<|vF (Wk.nilO 0 0 1 (by kernel_rfl))<|vF (wk (fr':=⟨38,[(0,.own 0 0 1),(1,qi a1),(2,qi a2)]⟩) (st':=⟨[[.buf (List.map (vI .u8) ([]:List Int))]],[]⟩) ⟨[0],1,[],0⟩)<|za<|rs [0] [(1,qi a1),(2,qi a2)] (kE ⟨[0],1,[],0⟩)<|za<|rs [0] [(1,qi a1),(2,qi a2),(7,qi ((0:Nat):Int))] (kE ⟨[0],1,[],0⟩)<|za<|za<|rs [0,7] [(1,qi a1),(2,qi a2),(8,qi 0)] (kE ⟨[0],1,[],0⟩)<|blE h (fun y12=>⟨38,[(0,.own 0 y12.1 1),(1,qi a1),(7,qi ((0:Nat):Int))]⟩) (fun y12=>⟨[[.buf (List.map (vI .u8) y12.2)]],[]⟩) (fun y12 h=>zN (X:=(Nat×Int×(List Int))) (fun x=>⟨38,[(0,.own 0 x.1 1),(1,qi a1),(2,qi a2),(7,qi ((0:Nat):Int)),(8,qi x.2.1)]⟩) (fun x=>⟨[[.buf (List.map (vI .u8) x.2.2)]],[]⟩) (fun k x=>qQ n a2 k x.1 x.2.1 x.2.2=some y12) (fun _ hx=>by simp [qQ]at hx) n (0,0,([]:List Int)) h (wk ⟨[0],1,[],0⟩) (fun k x h=>by obtain⟨v16,v17,v18⟩:=x; rw [qQ]at h; exact za<|za<|rs [0,7] [(1,qi a1),(2,qi a2),(8,qi v17),(14,qb (decide (v17<a2)))] (kE ⟨[0],1,[],0⟩)<|bF h (fun h=>zg<|za<|zx<|bE h fun x22 hx22 h=>rmN zP [7] [(0,.own 0 (v16+List.length ([48]:List Int)) 1),(1,qi a1),(2,qi a2),(8,qi v17)] ⟨[[.buf (List.map (vI .u8) x22)]],[]⟩ (kV 2 1 0 0 (pp (T:=tyT) (c:=(vI .u8)) (l:=v18) (l2:=([48]:List Int)) (n:=v16) (e:=5) (e2:=5) (bytes:=1) (b2:=1) (tok2:= .exact) (by kernel_rfl) hx22)<|kE ⟨[1],2,[],0⟩)<|zy<|rsN zp [0,7] [(1,qi a1),(2,qi a2),(8,qi (IntKind.wrap .i64 (v17+1)))] (kE ⟨[0],1,[],0⟩)<|⟨(v16+List.length ([48]:List Int),IntKind.wrap .i64 (v17+1),x22),h,wk ⟨[0],1,[],0⟩⟩) fun h=>zL<|zw<|zv<|⟨(v16,v18),sI h,wk ⟨[0],1,[],0⟩⟩)) fun y12 h=>za<|za<|rs [0,7] [(1,qi a1),(9,qi (IntKind.wrap .i64 (((y12.1:Nat):Int)-1)))] (kE ⟨[0],1,[],0⟩)<|blE h (fun y39=>⟨38,[(0,.own 0 y12.1 1)]⟩) (fun y39=>⟨[[.buf (List.map (vI .u8) y39)]],[]⟩) (fun y39 h=>zN (X:=(Int×Int×(List Int))) (fun x=>⟨38,[(0,.own 0 y12.1 1),(1,qi x.1),(7,qi ((0:Nat):Int)),(9,qi x.2.1)]⟩) (fun x=>⟨[[.buf (List.map (vI .u8) x.2.2)]],[]⟩) (fun k x=>qN n y12 k x.1 x.2.1 x.2.2=some y39) (fun _ hx=>by simp [qN]at hx) n (a1,IntKind.wrap .i64 (((y12.1:Nat):Int)-1),y12.2) h (wk ⟨[0],1,[],0⟩) (fun k x h=>by obtain⟨v45,v46,v47⟩:=x; rw [qN]at h; exact za<|za<|rs [0,7] [(1,qi v45),(9,qi v46),(25,qb (decide (v46≥((0:Nat):Int))))] (kE ⟨[0],1,[],0⟩)<|bF h (fun h=>zg<|za<|zx<|za<|bE h fun x54 hx54 h=>bE h fun x55 hx55 h=>rm [0,7] [(1,qi v45),(9,qi v46)] ⟨[[.buf (List.map (vI .u8) x55)]],[]⟩ (kP 6 (po (id:=0) (e:=5) (sz:=1) (b:=1) hx54)<|kV 7 1 0 0 (br (T:=tyT) (t:=5) (c:=(vI .u8)) (l:=v47) (off:=(x54*1)) (x:=IntKind.wrap .u8 (IntKind.wrap .i64 ((48:Int)+(Int.tmod v45 10)))) (uI .u8) (by kernel_rfl) hx55)<|kE ⟨[0],1,[],0⟩)<|rsN zP [0,7] [(1,qi (IntKind.wrap .i64 (Int.tdiv v45 10))),(9,qi v46)] (kE ⟨[0],1,[],0⟩)<|zy<|rsN zp [0,1,7] [(9,qi (IntKind.wrap .i64 (v46-1)))] (kE ⟨[0],1,[],0⟩)<|⟨(IntKind.wrap .i64 (Int.tdiv v45 10),IntKind.wrap .i64 (v46-1),x55),h,wk ⟨[0],1,[],0⟩⟩) fun h=>zL<|zw<|zv<|⟨v47,sI h,wk ⟨[0],1,[],0⟩⟩)) fun y39 h=>za<|rs [] [(6,.own 0 y12.1 1)] (kE ⟨[0],1,[],0⟩)<|zh<|by cases h; exact rt ⟨[0],1,[],0⟩
def qa (n:Nat) (a2:Int):Nat→Nat→Int→(List Int)→Option (Nat×(List Int))
 |0,_,_,_=>none
 | k+1,v16,v17,v18=>
  if(decide (v17<a2))=true then((gv 1 v16 v18 ([48]:List Int)).bind fun x22=>
  qa n a2 k (v16+List.length ([48]:List Int)) (IntKind.wrap .i64 (v17+1)) x22)else(some (v16,v18))
def j0 (n:Nat) (a0:Nat) (y12:(Nat×(List Int))):Nat→Int→Int→(List Int)→Option (List Int)
 |0,_,_,_=>none
 | k+1,v45,v46,v47=>
  if(decide (v46≥((a0:Nat):Int)))=true then((qZ y12.1 v46).bind fun x54=>
  (YN v47 (x54*1) (IntKind.wrap .u8 (IntKind.wrap .i64 ((48:Int)+(Int.tmod v45 10))))).bind fun x55=>
  j0 n a0 y12 k (IntKind.wrap .i64 (Int.tdiv v45 10)) (IntKind.wrap .i64 (v46-1)) x55)else(some v47)
def pA (n:Nat) (a0:Nat) (a1:Int) (a2:Int) (m0:(List Int)):Option (Nat×(List Int)):=
 (qa n a2 n a0 0 m0).bind fun y12=>
 (j0 n a0 y12 n a1 (IntKind.wrap .i64 (((y12.1:Nat):Int)-1)) y12.2).bind fun y39=>
 some (y12.1,y39)
theorem Wh {n:Nat} {a0:Nat} {a1:Int} {a2:Int} {m0:(List Int)} {r:(Nat×(List Int))} (h:pA n a0 a1 a2 m0=some r):AC mx 114 [.own 0 a0 1,qi a1,qi a2] [[.buf (List.map (vI .u8) m0)]] (.own 1 r.1 1) [[],[.buf (List.map (vI .u8) r.2)]]:=by
 delta pA at h
 exact fnc Tryz.func114 rfl<|vF (Wk.mov (cells:= [.buf (List.map (vI .u8) m0)]) 0 0 a0 1 1 (by kernel_rfl))<|vF (wk (fr':=⟨38,[(0,.own 1 a0 1),(1,qi a1),(2,qi a2)]⟩) (st':=⟨[[],[.buf (List.map (vI .u8) m0)]],[]⟩) ⟨[0,1],2,[],0⟩)<|za<|rs [0] [(1,qi a1),(2,qi a2)] (kE ⟨[0,1],2,[],0⟩)<|za<|rs [0] [(1,qi a1),(2,qi a2),(7,qi ((a0:Nat):Int))] (kE ⟨[0,1],2,[],0⟩)<|za<|za<|rs [0,7] [(1,qi a1),(2,qi a2),(8,qi 0)] (kE ⟨[0,1],2,[],0⟩)<|blE h (fun y12=>⟨38,[(0,.own 1 y12.1 1),(1,qi a1),(7,qi ((a0:Nat):Int))]⟩) (fun y12=>⟨[[],[.buf (List.map (vI .u8) y12.2)]],[]⟩) (fun y12 h=>zN (X:=(Nat×Int×(List Int))) (fun x=>⟨38,[(0,.own 1 x.1 1),(1,qi a1),(2,qi a2),(7,qi ((a0:Nat):Int)),(8,qi x.2.1)]⟩) (fun x=>⟨[[],[.buf (List.map (vI .u8) x.2.2)]],[]⟩) (fun k x=>qa n a2 k x.1 x.2.1 x.2.2=some y12) (fun _ hx=>by simp [qa]at hx) n (a0,0,m0) h (wk ⟨[0,1],2,[],0⟩) (fun k x h=>by obtain⟨v16,v17,v18⟩:=x; rw [qa]at h; exact za<|za<|rs [0,7] [(1,qi a1),(2,qi a2),(8,qi v17),(14,qb (decide (v17<a2)))] (kE ⟨[0,1],2,[],0⟩)<|bF h (fun h=>zg<|za<|zx<|bE h fun x22 hx22 h=>rmN zP [7] [(0,.own 1 (v16+List.length ([48]:List Int)) 1),(1,qi a1),(2,qi a2),(8,qi v17)] ⟨[[],[.buf (List.map (vI .u8) x22)]],[]⟩ (kV 2 2 0 1 (pp (T:=tyT) (c:=(vI .u8)) (l:=v18) (l2:=([48]:List Int)) (n:=v16) (e:=5) (e2:=5) (bytes:=1) (b2:=1) (tok2:= .exact) (by kernel_rfl) hx22)<|kE ⟨[0,2],3,[],0⟩)<|zy<|rsN zp [0,7] [(1,qi a1),(2,qi a2),(8,qi (IntKind.wrap .i64 (v17+1)))] (kE ⟨[0,1],2,[],0⟩)<|⟨(v16+List.length ([48]:List Int),IntKind.wrap .i64 (v17+1),x22),h,wk ⟨[0,1],2,[],0⟩⟩) fun h=>zL<|zw<|zv<|⟨(v16,v18),sI h,wk ⟨[0,1],2,[],0⟩⟩)) fun y12 h=>za<|za<|rs [0,7] [(1,qi a1),(9,qi (IntKind.wrap .i64 (((y12.1:Nat):Int)-1)))] (kE ⟨[0,1],2,[],0⟩)<|blE h (fun y39=>⟨38,[(0,.own 1 y12.1 1)]⟩) (fun y39=>⟨[[],[.buf (List.map (vI .u8) y39)]],[]⟩) (fun y39 h=>zN (X:=(Int×Int×(List Int))) (fun x=>⟨38,[(0,.own 1 y12.1 1),(1,qi x.1),(7,qi ((a0:Nat):Int)),(9,qi x.2.1)]⟩) (fun x=>⟨[[],[.buf (List.map (vI .u8) x.2.2)]],[]⟩) (fun k x=>j0 n a0 y12 k x.1 x.2.1 x.2.2=some y39) (fun _ hx=>by simp [j0]at hx) n (a1,IntKind.wrap .i64 (((y12.1:Nat):Int)-1),y12.2) h (wk ⟨[0,1],2,[],0⟩) (fun k x h=>by obtain⟨v45,v46,v47⟩:=x; rw [j0]at h; exact za<|za<|rs [0,7] [(1,qi v45),(9,qi v46),(25,qb (decide (v46≥((a0:Nat):Int))))] (kE ⟨[0,1],2,[],0⟩)<|bF h (fun h=>zg<|za<|zx<|za<|bE h fun x54 hx54 h=>bE h fun x55 hx55 h=>rm [0,7] [(1,qi v45),(9,qi v46)] ⟨[[],[.buf (List.map (vI .u8) x55)]],[]⟩ (kP 6 (po (id:=1) (e:=5) (sz:=1) (b:=1) hx54)<|kV 7 2 0 1 (br (T:=tyT) (t:=5) (c:=(vI .u8)) (l:=v47) (off:=(x54*1)) (x:=IntKind.wrap .u8 (IntKind.wrap .i64 ((48:Int)+(Int.tmod v45 10)))) (uI .u8) (by kernel_rfl) hx55)<|kE ⟨[0,1],2,[],0⟩)<|rsN zP [0,7] [(1,qi (IntKind.wrap .i64 (Int.tdiv v45 10))),(9,qi v46)] (kE ⟨[0,1],2,[],0⟩)<|zy<|rsN zp [0,1,7] [(9,qi (IntKind.wrap .i64 (v46-1)))] (kE ⟨[0,1],2,[],0⟩)<|⟨(IntKind.wrap .i64 (Int.tdiv v45 10),IntKind.wrap .i64 (v46-1),x55),h,wk ⟨[0,1],2,[],0⟩⟩) fun h=>zL<|zw<|zv<|⟨v47,sI h,wk ⟨[0,1],2,[],0⟩⟩)) fun y39 h=>za<|rs [] [(6,.own 1 y12.1 1)] (kE ⟨[0,1],2,[],0⟩)<|zh<|by cases h; exact rt ⟨[0,1],2,[],0⟩
def uE (n:Nat) (a1:(List (List UInt8))):Nat→Int→Int→Option (Ctl ((List UInt8)×Int) Int)
 |0,_,_=>none
 | k+1,v17,v18=>
  if(decide (v18<(List.length a1:Int)))=true then((zX a1 v18).bind fun x22=>
  if(decide ((List.length x22:Int)>(IntKind.wrap .i64 ((131072:Int)-v17))))=true then(some (.ret (([]:List UInt8),6)))else(uE n a1 k (IntKind.wrap .i64 (v17+(List.length x22:Int))) (IntKind.wrap .i64 (v18+1))))else(some (.nxt v17))
def xZ (n:Nat) (a0:Int) (a1:(List (List UInt8))):Option ((List UInt8)×Int):=
 (if(decide (a0<0))=true then(some true)else(if(decide (a0>255))=true then(some true)else(some ((xJ .i64 a0 31)==31)))).bind fun y2=>
 if y2=true then(some (([]:List UInt8),5))else(ym (uE n a1 n 0 0) (fun r=>some r) (fun y12=>
 (if(decide (y12<128))=true then((gD 1 ([IntKind.wrap .u8 a0]:List Int) ([IntKind.wrap .u8 y12]:List Int)).bind fun x34=>
 some x34)else(if(decide (y12<256))=true then((gD 1 ([IntKind.wrap .u8 a0]:List Int) ([129,IntKind.wrap .u8 y12]:List Int)).bind fun x35=>
 some x35)else(if(decide (y12<65536))=true then((gD 1 ([IntKind.wrap .u8 a0]:List Int) ([130,IntKind.wrap .u8 (Int.fdiv y12 256),IntKind.wrap .u8 y12]:List Int)).bind fun x36=>
 some x36)else((gD 1 ([IntKind.wrap .u8 a0]:List Int) ([131,IntKind.wrap .u8 (Int.fdiv y12 65536),IntKind.wrap .u8 (Int.fdiv y12 256),IntKind.wrap .u8 y12]:List Int)).bind fun x37=>
 some x37)))).bind fun y32=>
 (pc n a1 ([]:List UInt8)).bind fun r38=>
 (jt (b2s y32) r38).bind fun x39=>
 some (x39,0)))
theorem wi {n:Nat} {a0:Int} {a1:(List (List UInt8))} {r:((List UInt8)×Int)} (h:xZ n a0 a1=some r):AC mx 115 [qi a0,ql 1 cS a1] [] (.tuple [qs r.1,qi r.2]) []:=by
 delta xZ at h
 exact fnc Tryz.func115 rfl<|za<|rs [1] [(0,qi a0)] (kE ⟨[],0,[],0⟩)<|za<|za<|bE h fun y2 hE h=>reg ⟨83,[(0,qi a0),(1,ql 1 cS a1),(20,qb y2)]⟩ ⟨[],[]⟩ (have h:=hE; gF 3 12 h (fun h=>by cases h; exact kE ⟨[],0,[],0⟩) fun h=>gF 7 16 h (fun h=>by cases h; exact kE ⟨[],0,[],0⟩) fun h=>by cases h; exact kE ⟨[],0,[],0⟩)<|bF h (fun h=>za<|rs [] [(4,qs ([]:List UInt8)),(5,qi 5)] (kE ⟨[],0,[],0⟩)<|zh<|by cases h; exact rt ⟨[],0,[],0⟩) fun h=>zg<|za<|rs [1] [(0,qi a0),(6,qi 0)] (kE ⟨[],0,[],0⟩)<|za<|za<|rs [1] [(0,qi a0),(6,qi 0),(21,ql 1 cS a1),(22,qi (List.length a1:Int)),(23,qi 0)] (kP 1 (zU (c:=cS) (l:=a1) (e:=9) (sz:=1) (sz':=1) (b:=16) (tok:= .none))<|kE ⟨[],0,[],0⟩)<|blC h (fun y12=>⟨83,[(0,qi a0),(1,ql 1 cS a1),(6,qi y12)]⟩) (fun y12=>⟨[],[]⟩) (fun o13 h hr14=>zN (X:=(Int×Int)) (fun x=>⟨83,[(0,qi a0),(1,ql 1 cS a1),(6,qi x.1),(21,ql 1 cS a1),(22,qi (List.length a1:Int)),(23,qi x.2)]⟩) (fun x=>⟨[],[]⟩) (fun k x=>uE n a1 k x.1 x.2=some o13) (fun _ hx=>by simp [uE]at hx) n (0,0) h (wk ⟨[],0,[],0⟩) (fun k x h=>by obtain⟨v17,v18⟩:=x; rw [uE]at h; exact za<|rs [1,21,22] [(0,qi a0),(6,qi v17),(23,qi v18),(24,qb (decide (v18<(List.length a1:Int))))] (kE ⟨[],0,[],0⟩)<|za<|bF h (fun h=>zg<|za<|zx<|za<|bE h fun x22 hx22 h=>rs [1,21,22] [(0,qi a0),(6,qi v17),(8,qs x22),(23,qi v18)] (kP 0 (zz (c:=cS) (e:=9) (sz:=1) (b:=16) (tok:= .none) hx22)<|kE ⟨[],0,[],0⟩)<|za<|za<|rs [1,21,22] [(0,qi a0),(6,qi v17),(8,qs x22),(23,qi v18),(31,qb (decide ((List.length x22:Int)>(IntKind.wrap .i64 ((131072:Int)-v17)))))] (kE ⟨[],0,[],0⟩)<|bF h (fun h=>za<|rs [] [(4,qs ([]:List UInt8)),(5,qi 6)] (kE ⟨[],0,[],0⟩)<|zh<|zO<|zQ<|have h:=hr14 _ (sI h); zH<|by cases h; exact rt ⟨[],0,[],0⟩) fun h=>zg<|rsN zP [1,21,22] [(0,qi a0),(6,qi (IntKind.wrap .i64 (v17+(List.length x22:Int)))),(23,qi v18)] (kE ⟨[],0,[],0⟩)<|zy<|rsN zp [1,6,21,22] [(0,qi a0),(23,qi (IntKind.wrap .i64 (v18+1)))] (kE ⟨[],0,[],0⟩)<|⟨(IntKind.wrap .i64 (v17+(List.length x22:Int)),IntKind.wrap .i64 (v18+1)),h,wk ⟨[],0,[],0⟩⟩) fun h=>zL<|zw<|zv<|⟨v17,sI h,wk ⟨[],0,[],0⟩⟩)) fun y12 h=>za<|rs [1] [(6,qi y12),(9,.sl 1 (List.map (cI .u8) ([IntKind.wrap .u8 a0]:List Int)) .exact)] (kE ⟨[],0,[],0⟩)<|za<|blE h (fun y32=>⟨83,[(1,ql 1 cS a1),(9,.sl 1 (List.map (cI .u8) y32) (.fam 0 (List.length y32)))]⟩) (fun y32=>⟨[],[List.length y32]⟩) (fun y32 h=>za<|rs [1,9] [(6,qi y12),(51,qb (decide (y12<128)))] (kE ⟨[],0,[],0⟩)<|bF h (fun h=>bE h fun x34 hx34 h=>rmN wc [1] [(9,.sl 1 (List.map (cI .u8) x34) (.fam 0 (List.length x34)))] ⟨[],[List.length x34]⟩ (kV 4 0 0 0 (YT (T:=tyT) (c:=(cI .u8)) (e:=5) (e2:=5) (sz:=1) (bytes:=1) (b2:=1) (tok2:= .exact) (cell:=none) (by kernel_rfl) hx34)<|kE ⟨[],0,[0],1⟩)<|⟨x34,sI h,wk ⟨[],0,[0],1⟩⟩) fun h=>za<|rs [1,9] [(6,qi y12),(59,qb (decide (y12<256)))] (kE ⟨[],0,[],0⟩)<|bF h (fun h=>bE h fun x35 hx35 h=>rmN wc [1] [(9,.sl 1 (List.map (cI .u8) x35) (.fam 0 (List.length x35)))] ⟨[],[List.length x35]⟩ (kV 4 0 0 0 (YT (T:=tyT) (c:=(cI .u8)) (e:=5) (e2:=5) (sz:=1) (bytes:=1) (b2:=1) (tok2:= .exact) (cell:=none) (by kernel_rfl) hx35)<|kE ⟨[],0,[0],1⟩)<|⟨x35,sI h,wk ⟨[],0,[0],1⟩⟩) fun h=>za<|rs [1,9] [(6,qi y12),(67,qb (decide (y12<65536)))] (kE ⟨[],0,[],0⟩)<|bF h (fun h=>bE h fun x36 hx36 h=>rmN wc [1] [(9,.sl 1 (List.map (cI .u8) x36) (.fam 0 (List.length x36)))] ⟨[],[List.length x36]⟩ (kV 7 0 0 0 (YT (T:=tyT) (c:=(cI .u8)) (e:=5) (e2:=5) (sz:=1) (bytes:=1) (b2:=1) (tok2:= .exact) (cell:=none) (by kernel_rfl) hx36)<|kE ⟨[],0,[0],1⟩)<|⟨x36,sI h,wk ⟨[],0,[0],1⟩⟩) fun h=>bE h fun x37 hx37 h=>rmN wc [1] [(9,.sl 1 (List.map (cI .u8) x37) (.fam 0 (List.length x37)))] ⟨[],[List.length x37]⟩ (kV 10 0 0 0 (YT (T:=tyT) (c:=(cI .u8)) (e:=5) (e2:=5) (sz:=1) (bytes:=1) (b2:=1) (tok2:= .exact) (cell:=none) (by kernel_rfl) hx37)<|kE ⟨[],0,[0],1⟩)<|⟨x37,sI h,wk ⟨[],0,[0],1⟩⟩) fun y32 h=>za<|bE h fun r38 hr38 h=>bE h fun x39 hx39 h=>zm [0,1,2,3,4,5,6] [3] [[],[0],[],[2],[0,1,2,3],[0,1,2,3,4],[0,1,2,3,4,5]] [] [(4,qs x39),(5,qi 0)] ⟨[],[]⟩ (dS [0]<|dP (B3 y32)<|dS [2]<|dC (zF 1 (B3 y32) xI) ⟨[],0,[],1⟩ (Vp hr38)<|dP (wE (d:=(tyT 9).d) hx39)<|dS [5,6]<|dE ⟨[],0,[],1⟩)<|zh<|by cases h; exact rt ⟨[],0,[],0⟩
def jw (n:Nat) (r1:(yR×Int)):Nat→Nat→Int→(List Int)→Option (Nat×(List Int))
 |0,_,_,_=>none
 | k+1,v33,v34,v35=>
  if(decide (v34<(List.length ([r1.1.qG,r1.1.pn,r1.1.bR,r1.1.j3,r1.1.j7]:List Int):Int)))=true then((zX ([r1.1.qG,r1.1.pn,r1.1.bR,r1.1.j3,r1.1.j7]:List Int) v34).bind fun x42=>
  (pA n v33 x42 2 v35).bind fun r43=>
  jw n r1 k r43.1 (IntKind.wrap .i64 (v34+1)) r43.2)else(some (v33,v35))
def dO (n:Nat) (a0:Int):Option ((List UInt8)×Int):=
 (pv n a0).bind fun r1=>
 if(r1.2 !=0)=true then(some (([]:List UInt8),r1.2))else((pg n (Int.tmod r1.1.pu 100) 2).bind fun r2=>
 (if(decide (r1.1.pu≥2050))=true then((pg n r1.1.pu 4).bind fun r9=>
 some (24,r9.1,r9.2))else(some (23,r2.1,r2.2))).bind fun y7=>
 (jw n r1 n y7.2.1 0 y7.2.2).bind fun y27=>
 (V8 y27.1 y27.2).bind fun x44=>
 (xZ n y7.1 ([x44,([90]:List UInt8)]:List (List UInt8))).bind fun r45=>
 some (r45.1,r45.2))
theorem XB {n:Nat} {a0:Int} {r:((List UInt8)×Int)} (h:dO n a0=some r):AC mx 44 [qi a0] [] (.tuple [qs r.1,qi r.2]) []:=by
 delta dO at h
 exact fnc Tryz.func44 rfl<|za<|rs [] [(0,qi a0)] (kE ⟨[],0,[],0⟩)<|za<|bE h fun r1 hr1 h=>rm [] [(4,qp 0),(5,qi r1.2)] ⟨[yR.cells r1.1],[]⟩ (kC 1 ⟨[],0,[],0⟩ (Wq hr1)<|kE ⟨[0],1,[],0⟩)<|za<|za<|rs [5] [(4,qp 0),(16,qb (r1.2 !=0))] (kE ⟨[0],1,[],0⟩)<|bF h (fun h=>za<|rm [] [(2,qs ([]:List UInt8)),(3,qi r1.2)] ⟨[],[]⟩ (kE ⟨[],1,[],0⟩)<|zh<|by cases h; exact rt ⟨[],0,[],0⟩) fun h=>zg<|za<|rs [] [(4,qp 0),(6,qi 23)] (kE ⟨[0],1,[],0⟩)<|za<|bE h fun r2 hr2 h=>rm [] [(4,qp 0),(6,qi 23),(7,.own 1 r2.1 1)] ⟨[yR.cells r1.1,[.buf (List.map (vI .u8) r2.2)]],[]⟩ (kC 3 ⟨[],1,[],0⟩ (Z2 hr2)<|kE ⟨[0,1],2,[],0⟩)<|za<|za<|rs [7] [(4,qp 0),(6,qi 23),(24,qb (decide (r1.1.pu≥2050)))] (kE ⟨[0,1],2,[],0⟩)<|cuE h (fun y7=>⟨55,[(4,qp 0),(6,qi y7.1),(7,.own 1 y7.2.1 1)]⟩) (fun y7=>⟨[yR.cells r1.1,[.buf (List.map (vI .u8) y7.2.2)]],[]⟩) (fun y7 h=>bF h (fun h=>za<|rm [] [(4,qp 0),(6,qi 24)] ⟨[yR.cells r1.1],[]⟩ (kE ⟨[0],2,[],0⟩)<|bE h fun r9 hr9 h=>rmN zp [] [(4,qp 0),(6,qi 24),(7,.own 1 r9.1 1)] ⟨[yR.cells r1.1,[.buf (List.map (vI .u8) r9.2)]],[]⟩ (kC 2 ⟨[],1,[],0⟩ (Z2 hr9)<|kE ⟨[0,1],2,[],0⟩)<|⟨(24,r9.1,r9.2),sI h,wk ⟨[0,1],2,[],0⟩⟩) fun h=>zg<|⟨(23,r2.1,r2.2),sI h,wk ⟨[0,1],2,[],0⟩⟩) fun y7 h=>za<|za<|rm [6] [(7,.own 0 y7.2.1 1),(38,.sl 1 (List.map (cI .i64) ([r1.1.qG,r1.1.pn,r1.1.bR,r1.1.j3,r1.1.j7]:List Int)) .exact),(39,qi (List.length ([r1.1.qG,r1.1.pn,r1.1.bR,r1.1.j3,r1.1.j7]:List Int):Int)),(40,qi 0)] ⟨[[.buf (List.map (vI .u8) y7.2.2)]],[]⟩ (kP 11 (zU (c:=(cI .i64)) (l:=([r1.1.qG,r1.1.pn,r1.1.bR,r1.1.j3,r1.1.j7]:List Int)) (e:=3) (sz:=1) (sz':=1) (b:=8) (tok:= .exact))<|kE ⟨[1],2,[],0⟩)<|blE h (fun y27=>⟨55,[(6,qi y7.1),(7,.own 0 y27.1 1)]⟩) (fun y27=>⟨[[.buf (List.map (vI .u8) y27.2)]],[]⟩) (fun y27 h=>zN (X:=(Nat×Int×(List Int))) (fun x=>⟨55,[(6,qi y7.1),(7,.own 0 x.1 1),(38,.sl 1 (List.map (cI .i64) ([r1.1.qG,r1.1.pn,r1.1.bR,r1.1.j3,r1.1.j7]:List Int)) .exact),(39,qi (List.length ([r1.1.qG,r1.1.pn,r1.1.bR,r1.1.j3,r1.1.j7]:List Int):Int)),(40,qi x.2.1)]⟩) (fun x=>⟨[[.buf (List.map (vI .u8) x.2.2)]],[]⟩) (fun k x=>jw n r1 k x.1 x.2.1 x.2.2=some y27) (fun _ hx=>by simp [jw]at hx) n (y7.2.1,0,y7.2.2) h (wk ⟨[0],1,[],0⟩) (fun k x h=>by obtain⟨v33,v34,v35⟩:=x; rw [jw]at h; exact za<|rs [6,7,38,39] [(40,qi v34),(41,qb (decide (v34<(List.length ([r1.1.qG,r1.1.pn,r1.1.bR,r1.1.j3,r1.1.j7]:List Int):Int))))] (kE ⟨[0],1,[],0⟩)<|za<|bF h (fun h=>zg<|za<|zx<|za<|bE h fun x42 hx42 h=>rs [6,7,38,39] [(9,qi x42),(40,qi v34)] (kP 0 (zz (c:=(cI .i64)) (e:=3) (sz:=1) (b:=8) (tok:= .exact) hx42)<|kE ⟨[0],1,[],0⟩)<|bE h fun r43 hr43 h=>rmN zP [6,38,39] [(7,.own 0 r43.1 1),(40,qi v34)] ⟨[[.buf (List.map (vI .u8) r43.2)]],[]⟩ (kC 2 ⟨[0],1,[],0⟩ (Wh hr43)<|kE ⟨[1],2,[],0⟩)<|zy<|rsN zp [6,7,38,39] [(40,qi (IntKind.wrap .i64 (v34+1)))] (kE ⟨[0],1,[],0⟩)<|⟨(r43.1,IntKind.wrap .i64 (v34+1),r43.2),h,wk ⟨[0],1,[],0⟩⟩) fun h=>zL<|zw<|zv<|⟨(v33,v35),sI h,wk ⟨[0],1,[],0⟩⟩)) fun y27 h=>za<|bE h fun x44 hx44 h=>bE h fun r45 hr45 h=>rm [] [(2,qs r45.1),(3,qi r45.2)] ⟨[],[]⟩ (kP 2 (Jv hx44)<|kC 4 ⟨[],1,[],0⟩ (wi hr45)<|kE ⟨[],1,[],0⟩)<|zh<|by cases h; exact rt ⟨[],0,[],0⟩
def yI (n:Nat) (a1:(List UInt8)) (a2:Int) (m0:zf):Option zf:=
 if(m0.f_e==0)=true then((jt m0.f_b a1).bind fun x1=>
 some (zf.mk x1 a2))else(some m0)
theorem xq {n:Nat} {a1:(List UInt8)} {a2:Int} {m0:zf} {r:zf} (h:yI n a1 a2 m0=some r):AC mx 43 [qp 0,qs a1,qi a2] [zf.cells m0] (.tuple []) [zf.cells r]:=by
 delta yI at h
 exact fnc Tryz.func43 rfl<|za<|rs [] [(0,qp 0),(1,qs a1),(2,qi a2),(10,qb (m0.f_e==0))] (kE ⟨[0],1,[],0⟩)<|bF h (fun h=>bE h fun x1 hx1 h=>rmN gV [] [] ⟨[[qs x1,qi a2]],[]⟩ (kP 7 (wE (d:=(tyT 9).d) hx1)<|kE ⟨[0],1,[],0⟩)<|by cases h; exact rno ⟨[0],1,[],0⟩) fun h=>zg<|by cases h; exact rno ⟨[0],1,[],0⟩
def uB (n:Nat) (a1:Int):Nat→Int→Option Int
 |0,_=>none
 | k+1,v7=>
  (Uc .i64 a1 (IntKind.wrap .u64 ((7:Int)*(IntKind.wrap .u64 v7)))).bind fun x9=>
  if(decide (x9>0))=true then(uB n a1 k (IntKind.wrap .i64 (v7+1)))else(some v7)
def vQ (n:Nat) (a1:Int):Nat→Nat→Int→(List Int)→Option (Nat×(List Int))
 |0,_,_,_=>none
 | k+1,v33,v34,v35=>
  if(decide (v34>0))=true then((Uc .i64 a1 (IntKind.wrap .u64 ((7:Int)*(IntKind.wrap .u64 v34)))).bind fun x42=>
  (gv 1 v33 v35 ([IntKind.wrap .u8 (ior .i64 (xJ .i64 x42 127) 128)]:List Int)).bind fun x43=>
  vQ n a1 k (v33+List.length ([IntKind.wrap .u8 (ior .i64 (xJ .i64 x42 127) 128)]:List Int)) (IntKind.wrap .i64 (v34-1)) x43)else(some (v33,v35))
def dH (n:Nat) (a1:Int):Option (Nat×(List Int)):=
 (uB n a1 n 1).bind fun y5=>
 (vQ n a1 n 0 (IntKind.wrap .i64 (y5-1)) ([]:List Int)).bind fun y27=>
 (gv 1 y27.1 y27.2 ([IntKind.wrap .u8 (xJ .i64 a1 127)]:List Int)).bind fun x44=>
 some (y27.1+List.length ([IntKind.wrap .u8 (xJ .i64 a1 127)]:List Int),x44)
theorem Ua {n:Nat} {a1:Int} {r:(Nat×(List Int))} (h:dH n a1=some r):AC mx 117 [qn,qi a1] [] (.own 0 r.1 1) [[.buf (List.map (vI .u8) r.2)]]:=by
 delta dH at h
 exact fnc Tryz.func117 rfl<|vF (Wk.nilO 0 0 1 (by kernel_rfl))<|vF (wk (fr':=⟨38,[(0,.own 0 0 1),(1,qi a1)]⟩) (st':=⟨[[.buf (List.map (vI .u8) ([]:List Int))]],[]⟩) ⟨[0],1,[],0⟩)<|za<|rs [0] [(1,qi a1)] (kE ⟨[0],1,[],0⟩)<|za<|rs [0] [(1,qi a1),(5,qi 1)] (kE ⟨[0],1,[],0⟩)<|za<|blE h (fun y5=>⟨38,[(0,.own 0 0 1),(1,qi a1),(5,qi y5)]⟩) (fun y5=>⟨[[.buf (List.map (vI .u8) ([]:List Int))]],[]⟩) (fun y5 h=>zN (X:=Int) (fun x=>⟨38,[(0,.own 0 0 1),(1,qi a1),(5,qi x)]⟩) (fun x=>⟨[[.buf (List.map (vI .u8) ([]:List Int))]],[]⟩) (fun k x=>uB n a1 k x=some y5) (fun _ hx=>by simp [uB]at hx) n 1 h (wk ⟨[0],1,[],0⟩) (fun k x h=>by revert h; revert x; intro v7 h; rw [uB]at h; exact za<|za<|bE h fun x9 hx9 h=>rs [0] [(1,qi a1),(5,qi v7),(12,qb (decide (x9>0)))] (kP 4 (XY (k:= .i64) (d:=(tyT 3).d) (k':= .u64) hx9)<|kE ⟨[0],1,[],0⟩)<|bF h (fun h=>zg<|zx<|rsN (ju (P:=Tryz.prog) (gl:=gl0 mx) zp) [0] [(1,qi a1),(5,qi (IntKind.wrap .i64 (v7+1)))] (kE ⟨[0],1,[],0⟩)<|zy<|⟨IntKind.wrap .i64 (v7+1),h,wk ⟨[0],1,[],0⟩⟩) fun h=>zL<|zw<|zv<|⟨v7,sI h,wk ⟨[0],1,[],0⟩⟩)) fun y5 h=>za<|za<|rs [0] [(1,qi a1),(6,qi (IntKind.wrap .i64 (y5-1)))] (kE ⟨[0],1,[],0⟩)<|blE h (fun y27=>⟨38,[(0,.own 0 y27.1 1),(1,qi a1)]⟩) (fun y27=>⟨[[.buf (List.map (vI .u8) y27.2)]],[]⟩) (fun y27 h=>zN (X:=(Nat×Int×(List Int))) (fun x=>⟨38,[(0,.own 0 x.1 1),(1,qi a1),(6,qi x.2.1)]⟩) (fun x=>⟨[[.buf (List.map (vI .u8) x.2.2)]],[]⟩) (fun k x=>vQ n a1 k x.1 x.2.1 x.2.2=some y27) (fun _ hx=>by simp [vQ]at hx) n (0,IntKind.wrap .i64 (y5-1),([]:List Int)) h (wk ⟨[0],1,[],0⟩) (fun k x h=>by obtain⟨v33,v34,v35⟩:=x; rw [vQ]at h; exact za<|za<|rs [0] [(1,qi a1),(6,qi v34),(18,qb (decide (v34>0)))] (kE ⟨[0],1,[],0⟩)<|bF h (fun h=>zg<|za<|zx<|bE h fun x42 hx42 h=>bE h fun x43 hx43 h=>rmN zP [] [(0,.own 0 (v33+List.length ([IntKind.wrap .u8 (ior .i64 (xJ .i64 x42 127) 128)]:List Int)) 1),(1,qi a1),(6,qi v34)] ⟨[[.buf (List.map (vI .u8) x43)]],[]⟩ (kP 5 (XY (k:= .i64) (d:=(tyT 3).d) (k':= .u64) hx42)<|kV 10 1 0 0 (pp (T:=tyT) (c:=(vI .u8)) (l:=v35) (l2:=([IntKind.wrap .u8 (ior .i64 (xJ .i64 x42 127) 128)]:List Int)) (n:=v33) (e:=5) (e2:=5) (bytes:=1) (b2:=1) (tok2:= .exact) (by kernel_rfl) hx43)<|kE ⟨[1],2,[],0⟩)<|zy<|rsN zp [0] [(1,qi a1),(6,qi (IntKind.wrap .i64 (v34-1)))] (kE ⟨[0],1,[],0⟩)<|⟨(v33+List.length ([IntKind.wrap .u8 (ior .i64 (xJ .i64 x42 127) 128)]:List Int),IntKind.wrap .i64 (v34-1),x43),h,wk ⟨[0],1,[],0⟩⟩) fun h=>zL<|zw<|zv<|⟨(v33,v35),sI h,wk ⟨[0],1,[],0⟩⟩)) fun y27 h=>za<|bE h fun x44 hx44 h=>rm [] [(4,.own 0 (y27.1+List.length ([IntKind.wrap .u8 (xJ .i64 a1 127)]:List Int)) 1)] ⟨[[.buf (List.map (vI .u8) x44)]],[]⟩ (kV 5 1 0 0 (pp (T:=tyT) (c:=(vI .u8)) (l:=y27.2) (l2:=([IntKind.wrap .u8 (xJ .i64 a1 127)]:List Int)) (n:=y27.1) (e:=5) (e2:=5) (bytes:=1) (b2:=1) (tok2:= .exact) (by kernel_rfl) hx44)<|kE ⟨[1],2,[],0⟩)<|zh<|by cases h; exact rt ⟨[0],1,[],0⟩
def uX (n:Nat) (a1:Int):Nat→Int→Option Int
 |0,_=>none
 | k+1,v7=>
  (Uc .i64 a1 (IntKind.wrap .u64 ((7:Int)*(IntKind.wrap .u64 v7)))).bind fun x9=>
  if(decide (x9>0))=true then(uX n a1 k (IntKind.wrap .i64 (v7+1)))else(some v7)
def uY (n:Nat) (a1:Int):Nat→Nat→Int→(List Int)→Option (Nat×(List Int))
 |0,_,_,_=>none
 | k+1,v33,v34,v35=>
  if(decide (v34>0))=true then((Uc .i64 a1 (IntKind.wrap .u64 ((7:Int)*(IntKind.wrap .u64 v34)))).bind fun x42=>
  (gv 1 v33 v35 ([IntKind.wrap .u8 (ior .i64 (xJ .i64 x42 127) 128)]:List Int)).bind fun x43=>
  uY n a1 k (v33+List.length ([IntKind.wrap .u8 (ior .i64 (xJ .i64 x42 127) 128)]:List Int)) (IntKind.wrap .i64 (v34-1)) x43)else(some (v33,v35))
def bz (n:Nat) (a0:Nat) (a1:Int) (m0:(List Int)):Option (Nat×(List Int)):=
 (uX n a1 n 1).bind fun y5=>
 (uY n a1 n a0 (IntKind.wrap .i64 (y5-1)) m0).bind fun y27=>
 (gv 1 y27.1 y27.2 ([IntKind.wrap .u8 (xJ .i64 a1 127)]:List Int)).bind fun x44=>
 some (y27.1+List.length ([IntKind.wrap .u8 (xJ .i64 a1 127)]:List Int),x44)
theorem WU {n:Nat} {a0:Nat} {a1:Int} {m0:(List Int)} {r:(Nat×(List Int))} (h:bz n a0 a1 m0=some r):AC mx 117 [.own 0 a0 1,qi a1] [[.buf (List.map (vI .u8) m0)]] (.own 1 r.1 1) [[],[.buf (List.map (vI .u8) r.2)]]:=by
 delta bz at h
 exact fnc Tryz.func117 rfl<|vF (Wk.mov (cells:= [.buf (List.map (vI .u8) m0)]) 0 0 a0 1 1 (by kernel_rfl))<|vF (wk (fr':=⟨38,[(0,.own 1 a0 1),(1,qi a1)]⟩) (st':=⟨[[],[.buf (List.map (vI .u8) m0)]],[]⟩) ⟨[0,1],2,[],0⟩)<|za<|rs [0] [(1,qi a1)] (kE ⟨[0,1],2,[],0⟩)<|za<|rs [0] [(1,qi a1),(5,qi 1)] (kE ⟨[0,1],2,[],0⟩)<|za<|blE h (fun y5=>⟨38,[(0,.own 1 a0 1),(1,qi a1),(5,qi y5)]⟩) (fun y5=>⟨[[],[.buf (List.map (vI .u8) m0)]],[]⟩) (fun y5 h=>zN (X:=Int) (fun x=>⟨38,[(0,.own 1 a0 1),(1,qi a1),(5,qi x)]⟩) (fun x=>⟨[[],[.buf (List.map (vI .u8) m0)]],[]⟩) (fun k x=>uX n a1 k x=some y5) (fun _ hx=>by simp [uX]at hx) n 1 h (wk ⟨[0,1],2,[],0⟩) (fun k x h=>by revert h; revert x; intro v7 h; rw [uX]at h; exact za<|za<|bE h fun x9 hx9 h=>rs [0] [(1,qi a1),(5,qi v7),(12,qb (decide (x9>0)))] (kP 4 (XY (k:= .i64) (d:=(tyT 3).d) (k':= .u64) hx9)<|kE ⟨[0,1],2,[],0⟩)<|bF h (fun h=>zg<|zx<|rsN (ju (P:=Tryz.prog) (gl:=gl0 mx) zp) [0] [(1,qi a1),(5,qi (IntKind.wrap .i64 (v7+1)))] (kE ⟨[0,1],2,[],0⟩)<|zy<|⟨IntKind.wrap .i64 (v7+1),h,wk ⟨[0,1],2,[],0⟩⟩) fun h=>zL<|zw<|zv<|⟨v7,sI h,wk ⟨[0,1],2,[],0⟩⟩)) fun y5 h=>za<|za<|rs [0] [(1,qi a1),(6,qi (IntKind.wrap .i64 (y5-1)))] (kE ⟨[0,1],2,[],0⟩)<|blE h (fun y27=>⟨38,[(0,.own 1 y27.1 1),(1,qi a1)]⟩) (fun y27=>⟨[[],[.buf (List.map (vI .u8) y27.2)]],[]⟩) (fun y27 h=>zN (X:=(Nat×Int×(List Int))) (fun x=>⟨38,[(0,.own 1 x.1 1),(1,qi a1),(6,qi x.2.1)]⟩) (fun x=>⟨[[],[.buf (List.map (vI .u8) x.2.2)]],[]⟩) (fun k x=>uY n a1 k x.1 x.2.1 x.2.2=some y27) (fun _ hx=>by simp [uY]at hx) n (a0,IntKind.wrap .i64 (y5-1),m0) h (wk ⟨[0,1],2,[],0⟩) (fun k x h=>by obtain⟨v33,v34,v35⟩:=x; rw [uY]at h; exact za<|za<|rs [0] [(1,qi a1),(6,qi v34),(18,qb (decide (v34>0)))] (kE ⟨[0,1],2,[],0⟩)<|bF h (fun h=>zg<|za<|zx<|bE h fun x42 hx42 h=>bE h fun x43 hx43 h=>rmN zP [] [(0,.own 1 (v33+List.length ([IntKind.wrap .u8 (ior .i64 (xJ .i64 x42 127) 128)]:List Int)) 1),(1,qi a1),(6,qi v34)] ⟨[[],[.buf (List.map (vI .u8) x43)]],[]⟩ (kP 5 (XY (k:= .i64) (d:=(tyT 3).d) (k':= .u64) hx42)<|kV 10 2 0 1 (pp (T:=tyT) (c:=(vI .u8)) (l:=v35) (l2:=([IntKind.wrap .u8 (ior .i64 (xJ .i64 x42 127) 128)]:List Int)) (n:=v33) (e:=5) (e2:=5) (bytes:=1) (b2:=1) (tok2:= .exact) (by kernel_rfl) hx43)<|kE ⟨[0,2],3,[],0⟩)<|zy<|rsN zp [0] [(1,qi a1),(6,qi (IntKind.wrap .i64 (v34-1)))] (kE ⟨[0,1],2,[],0⟩)<|⟨(v33+List.length ([IntKind.wrap .u8 (ior .i64 (xJ .i64 x42 127) 128)]:List Int),IntKind.wrap .i64 (v34-1),x43),h,wk ⟨[0,1],2,[],0⟩⟩) fun h=>zL<|zw<|zv<|⟨(v33,v35),sI h,wk ⟨[0,1],2,[],0⟩⟩)) fun y27 h=>za<|bE h fun x44 hx44 h=>rm [] [(4,.own 1 (y27.1+List.length ([IntKind.wrap .u8 (xJ .i64 a1 127)]:List Int)) 1)] ⟨[[],[.buf (List.map (vI .u8) x44)]],[]⟩ (kV 5 2 0 1 (pp (T:=tyT) (c:=(vI .u8)) (l:=y27.2) (l2:=([IntKind.wrap .u8 (xJ .i64 a1 127)]:List Int)) (n:=y27.1) (e:=5) (e2:=5) (bytes:=1) (b2:=1) (tok2:= .exact) (by kernel_rfl) hx44)<|kE ⟨[0,2],3,[],0⟩)<|zh<|by cases h; exact rt ⟨[0,1],2,[],0⟩
def vJ (n:Nat) (x9:(List Int)):Nat→Nat→Int→(List Int)→Option (Nat×(List Int))
 |0,_,_,_=>none
 | k+1,v33,v34,v35=>
  if(decide (v34<(List.length x9:Int)))=true then((zX x9 v34).bind fun x42=>
  (bz n v33 x42 v35).bind fun r43=>
  vJ n x9 k r43.1 (IntKind.wrap .i64 (v34+1)) r43.2)else(some (v33,v35))
def jM (n:Nat) (a0:(List UInt8)):Option ((List UInt8)×Int):=
 ((be n a0).bind fun r1=>
 onE r1 (some ([]:List Int)) (fun l2=>some l2)).bind fun y4=>
 (lne y4).bind fun x5=>
 (zX y4 0).bind fun x6=>
 (zX y4 1).bind fun x7=>
 (dH n (IntKind.wrap .i64 ((IntKind.wrap .i64 ((40:Int)*x6))+x7))).bind fun r8=>
 (lsl y4 2 (List.length y4)).bind fun x9=>
 (vJ n x9 n r8.1 0 r8.2).bind fun y27=>
 (V8 y27.1 y27.2).bind fun x44=>
 some (x44,0)
theorem bU {n:Nat} {a0:(List UInt8)} {r:((List UInt8)×Int)} (h:jM n a0=some r):AC mx 45 [qs a0] [] (.tuple [qs r.1,qi r.2]) []:=by
 delta jM at h
 exact fnc Tryz.func45 rfl<|za<|rs [] [(0,qs a0)] (kE ⟨[],0,[],0⟩)<|za<|bE h fun y4 hE h=>reg ⟨34,[(4,ql 1 (cI .i64) y4)]⟩ ⟨[],[]⟩ (have h:=hE; bE h fun r1 hr1 h=>kC 1 ⟨[],0,[],0⟩ (ZJ hr1)<|by cases r1 with|none=>exact(have h:=onN h; by cases h; exact kE ⟨[],0,[],0⟩)|some l2=>exact(have h:=onS h; by cases h; exact kE ⟨[],0,[],0⟩))<|za<|za<|bE h fun x5 hx5 h=>rs [4] [(11,qb false)] (kP 1 (Gq (c:=(cI .i64)) (e:=3) (sz:=1) (b:=8) (tok:= .none) hx5)<|kE ⟨[],0,[],0⟩)<|bN<|zg<|za<|bE h fun x6 hx6 h=>bE h fun x7 hx7 h=>bE h fun r8 hr8 h=>zm [0,1,2,3,4,5,6,7,8,9] [8] [[],[0],[0,1],[0,1,2],[],[4],[4,5],[0,1,2,3,4,5,6],[0,1,2,3,4,5,6,7],[0,1,2,3,4,5,6,7,8]] [4] [(5,.own 0 r8.1 1)] ⟨[[.buf (List.map (vI .u8) r8.2)]],[]⟩ (dS [0]<|dP (zz (c:=(cI .i64)) (e:=3) (sz:=1) (b:=8) (tok:= .none) hx6)<|dS [2,3,4]<|dP (zz (c:=(cI .i64)) (e:=3) (sz:=1) (b:=8) (tok:= .none) hx7)<|dS [6,7]<|dC (zF 5 (zz (c:=(cI .i64)) (e:=3) (sz:=1) (b:=8) (tok:= .none) hx7) (zF 1 (zz (c:=(cI .i64)) (e:=3) (sz:=1) (b:=8) (tok:= .none) hx6) xI)) ⟨[],0,[],0⟩ (Ua hr8)<|dS [9]<|dE ⟨[0],1,[],0⟩)<|za<|za<|bE h fun x9 hx9 h=>rs [5] [(22,ql 1 (cI .i64) x9),(23,qi (List.length x9:Int)),(24,qi 0)] (kP 1 (ub (k:= .i64) (c:=(cI .i64)) (e:=3) (sz:=1) (b:=8) (tok:= .none) hx9)<|kP 2 (zU (c:=(cI .i64)) (l:=x9) (e:=3) (sz:=1) (sz':=1) (b:=8) (tok:= .none))<|kE ⟨[0],1,[],0⟩)<|blE h (fun y27=>⟨34,[(5,.own 0 y27.1 1)]⟩) (fun y27=>⟨[[.buf (List.map (vI .u8) y27.2)]],[]⟩) (fun y27 h=>zN (X:=(Nat×Int×(List Int))) (fun x=>⟨34,[(5,.own 0 x.1 1),(22,ql 1 (cI .i64) x9),(23,qi (List.length x9:Int)),(24,qi x.2.1)]⟩) (fun x=>⟨[[.buf (List.map (vI .u8) x.2.2)]],[]⟩) (fun k x=>vJ n x9 k x.1 x.2.1 x.2.2=some y27) (fun _ hx=>by simp [vJ]at hx) n (r8.1,0,r8.2) h (wk ⟨[0],1,[],0⟩) (fun k x h=>by obtain⟨v33,v34,v35⟩:=x; rw [vJ]at h; exact za<|rs [5,22,23] [(24,qi v34),(25,qb (decide (v34<(List.length x9:Int))))] (kE ⟨[0],1,[],0⟩)<|za<|bF h (fun h=>zg<|za<|zx<|za<|bE h fun x42 hx42 h=>rs [5,22,23] [(7,qi x42),(24,qi v34)] (kP 0 (zz (c:=(cI .i64)) (e:=3) (sz:=1) (b:=8) (tok:= .none) hx42)<|kE ⟨[0],1,[],0⟩)<|bE h fun r43 hr43 h=>rmN zP [22,23] [(5,.own 0 r43.1 1),(24,qi v34)] ⟨[[.buf (List.map (vI .u8) r43.2)]],[]⟩ (kC 2 ⟨[0],1,[],0⟩ (WU hr43)<|kE ⟨[1],2,[],0⟩)<|zy<|rsN zp [5,22,23] [(24,qi (IntKind.wrap .i64 (v34+1)))] (kE ⟨[0],1,[],0⟩)<|⟨(r43.1,IntKind.wrap .i64 (v34+1),r43.2),h,wk ⟨[0],1,[],0⟩⟩) fun h=>zL<|zw<|zv<|⟨(v33,v35),sI h,wk ⟨[0],1,[],0⟩⟩)) fun y27 h=>za<|bE h fun x44 hx44 h=>rm [] [(2,qs x44),(3,qi 0)] ⟨[],[]⟩ (kP 1 (Jv hx44)<|kE ⟨[],1,[],0⟩)<|zh<|by cases h; exact rt ⟨[],0,[],0⟩
def yM (n:Nat) (a1:Int) (a2:(List UInt8)) (m0:zf):Option zf:=
 (xZ n a1 ([a2]:List (List UInt8))).bind fun r1=>
 (yI n r1.1 r1.2 m0).bind fun r2=>
 some r2
theorem wb {n:Nat} {a1:Int} {a2:(List UInt8)} {m0:zf} {r:zf} (h:yM n a1 a2 m0=some r):AC mx 46 [qp 0,qi a1,qs a2] [zf.cells m0] (.tuple []) [zf.cells r]:=by
 delta yM at h
 exact fnc Tryz.func46 rfl<|bE h fun r1 hr1 h=>bE h fun r2 hr2 h=>rmN gV [] [] ⟨[zf.cells r2],[]⟩ (kC 4 ⟨[],1,[],0⟩ (wi hr1)<|kC 7 ⟨[0],1,[],0⟩ (xq hr2)<|kE ⟨[0],1,[],0⟩)<|by cases h; exact rno ⟨[0],1,[],0⟩
def Zh (n:Nat) (m0:zf):Option zf:=
 some m0
theorem WR {n:Nat} {m0:zf} {r:zf} (h:Zh n m0=some r):AC mx 49 [qp 0] [zf.cells m0] (.func (.func 118) [qp 0] []) [zf.cells r]:=by
 delta Zh at h
 exact fnc Tryz.func49 rfl<|za<|rs [] [(0,qp 0)] (kE ⟨[0],1,[],0⟩)<|za<|rs [] [(2,.func (.func 118) [qp 0] [])] (kE ⟨[0],1,[],0⟩)<|zh<|by cases h; exact rt ⟨[0],1,[],0⟩
def u9 (n:Nat) (a2:(List (List UInt8))):Nat→Option Unit
 |0=>none
 | k+1=>
  if(decide ((0:Int)<(List.length a2:Int)))=true then(none)else(some ())
def jV (n:Nat) (a1:Int) (a2:(List (List UInt8))) (m0:zf):Option zf:=
 (Zh n (zf.mk ([]:List UInt8) 0)).bind fun r1=>
 (u9 n a2 n).bind fun y4=>
 (yI n ([]:List UInt8) r1.f_e m0).bind fun r8=>
 (yM n a1 r1.f_b r8).bind fun r9=>
 some r9
theorem bB {n:Nat} {a1:Int} {a2:(List (List UInt8))} {m0:zf} {r:zf} (h:jV n a1 a2 m0=some r):AC mx 48 [qp 0,qi a1,ql 1 cS a2,.func (.func 49) [] []] [zf.cells m0] (.tuple []) [zf.cells r]:=by
 delta jV at h
 exact fnc Tryz.func48 rfl<|za<|rm [2,3] [(0,qp 0),(1,qi a1),(8,qp 1)] ⟨[zf.cells m0,[qs ([]:List UInt8),qi 0]],[]⟩ (kE ⟨[0,1],2,[],0⟩)<|za<|bE h fun r1 hr1 h=>rm [2] [(0,qp 0),(1,qi a1),(8,qp 1),(9,.func (.func 118) [qp 1] [])] ⟨[zf.cells m0,zf.cells r1],[]⟩ (kC 1 ⟨[1],2,[],0⟩ (WR hr1)<|kE ⟨[0,1],2,[],0⟩)<|za<|za<|rs [9] [(0,qp 0),(1,qi a1),(8,qp 1),(14,ql 1 cS a2),(15,qi (List.length a2:Int)),(16,qi 0)] (kP 1 (zU (c:=cS) (l:=a2) (e:=9) (sz:=1) (sz':=1) (b:=16) (tok:= .none))<|kE ⟨[0,1],2,[],0⟩)<|blE h (fun _=>⟨33,[(0,qp 0),(1,qi a1),(8,qp 1)]⟩) (fun _=>⟨[zf.cells m0,zf.cells r1],[]⟩) (fun y4 h=>zN (X:=Unit) (fun _=>⟨33,[(0,qp 0),(1,qi a1),(8,qp 1),(9,.func (.func 118) [qp 1] []),(14,ql 1 cS a2),(15,qi (List.length a2:Int)),(16,qi 0)]⟩) (fun _=>⟨[zf.cells m0,zf.cells r1],[]⟩) (fun k _=>u9 n a2 k  =some y4) (fun _ hx=>by simp [u9]at hx) n () h (wk ⟨[0,1],2,[],0⟩) (fun k x h=>by rw [u9]at h; exact za<|rs [9,14,15] [(0,qp 0),(1,qi a1),(8,qp 1),(16,qi 0),(17,qb (decide ((0:Int)<(List.length a2:Int))))] (kE ⟨[0,1],2,[],0⟩)<|za<|bF h (fun h=>nE h) fun h=>zL<|zw<|zv<|⟨(),sI h,wk ⟨[0,1],2,[],0⟩⟩)) fun y4 h=>za<|bE h fun r8 hr8 h=>rm [] [(0,qp 0),(1,qi a1),(8,qp 1)] ⟨[zf.cells r8,zf.cells r1],[]⟩ (kC 3 ⟨[0],2,[],0⟩ (xq hr8)<|kE ⟨[0,1],2,[],0⟩)<|bE h fun r9 hr9 h=>rmN gV [] [] ⟨[zf.cells r9],[]⟩ (kC 4 ⟨[0],2,[],0⟩ (wb hr9)<|kE ⟨[0],2,[],0⟩)<|by cases h; exact rno ⟨[0],1,[],0⟩
def wT (n:Nat) (a1:Int) (a2:Bool) (m0:zf):Option zf:=
 if a2=true then(none)else(some m0)
theorem ui {n:Nat} {a1:Int} {a2:Bool} {m0:zf} {r:zf} (h:wT n a1 a2 m0=some r):AC mx 50 [qp 0,qi a1,qb a2] [zf.cells m0] (.tuple []) [zf.cells r]:=by
 delta wT at h
 exact fnc Tryz.func50 rfl<|za<|rs [] [(0,qp 0),(1,qi a1),(6,qb a2)] (kE ⟨[0],1,[],0⟩)<|bF h (fun h=>nE h) fun h=>zg<|by cases h; exact rno ⟨[0],1,[],0⟩
def um (n:Nat):Nat→Int→Int→Option Int
 |0,_,_=>none
 | k+1,v14,v15=>
  (if(decide (v15<(-128)))=true then(some true)else(some (decide (v15>127)))).bind fun y19=>
  if y19=true then(um n k (IntKind.wrap .i64 (v14+1)) (Int.fdiv v15 256))else(some v14)
def uk (n:Nat) (y10:Int) (a0:Int):Nat→(List Int)→Int→Option (List Int)
 |0,_,_=>none
 | k+1,v43,v44=>
  if(decide (v44<y10))=true then((Uc .i64 a0 (IntKind.wrap .u64 ((8:Int)*(IntKind.wrap .u64 (IntKind.wrap .i64 ((IntKind.wrap .i64 (y10-1))-v44)))))).bind fun x51=>
  (q7 1 v43 ([IntKind.wrap .u8 x51]:List Int)).bind fun x52=>
  uk n y10 a0 k x52 (IntKind.wrap .i64 (v44+1)))else(some v43)
def kU (n:Nat) (a0:Int):Option (List UInt8):=
 (um n  n 1 a0).bind fun y10=>
 (uk n y10 a0 n ([]:List Int) 0).bind fun y36=>
 some (b2s y36)
theorem ZC {n:Nat} {a0:Int} {r:(List UInt8)} (h:kU n a0=some r):AC mx 157 [qi a0] [] (qs r) []:=by
 delta kU at h
 exact fnc Tryz.func157 rfl<|za<|rs [] [(0,qi a0)] (kE ⟨[],0,[],0⟩)<|za<|rs [] [(0,qi a0),(3,qi 1)] (kE ⟨[],0,[],0⟩)<|za<|za<|rs [] [(0,qi a0),(3,qi 1),(4,qi a0)] (kE ⟨[],0,[],0⟩)<|blE h (fun y10=>⟨37,[(0,qi a0),(3,qi y10)]⟩) (fun y10=>⟨[],[]⟩) (fun y10 h=>zN (X:=(Int×Int)) (fun x=>⟨37,[(0,qi a0),(3,qi x.1),(4,qi x.2)]⟩) (fun x=>⟨[],[]⟩) (fun k x=>um n  k x.1 x.2=some y10) (fun _ hx=>by simp [um]at hx) n (1,a0) h (wk ⟨[],0,[],0⟩) (fun k x h=>by obtain⟨v14,v15⟩:=x; rw [um]at h; exact za<|za<|bE h fun y19 hE h=>reg ⟨37,[(0,qi a0),(3,qi v14),(4,qi v15),(13,qb y19)]⟩ ⟨[],[]⟩ (have h:=hE; gF 3 10 h (fun h=>by cases h; exact kE ⟨[],0,[],0⟩) fun h=>by cases h; exact kE ⟨[],0,[],0⟩)<|bF h (fun h=>zg<|za<|zx<|rsN zP [] [(0,qi a0),(3,qi (IntKind.wrap .i64 (v14+1))),(4,qi v15)] (kE ⟨[],0,[],0⟩)<|zy<|rsN zp [3] [(0,qi a0),(4,qi (Int.fdiv v15 256))] (kE ⟨[],0,[],0⟩)<|⟨(IntKind.wrap .i64 (v14+1),Int.fdiv v15 256),h,wk ⟨[],0,[],0⟩⟩) fun h=>zL<|zw<|zv<|⟨v14,sI h,wk ⟨[],0,[],0⟩⟩)) fun y10 h=>za<|rs [] [(0,qi a0),(3,qi y10),(5,qn)] (kE ⟨[],0,[],0⟩)<|za<|za<|rs [] [(0,qi a0),(3,qi y10),(5,qn),(18,qi y10),(19,qi 0)] (kE ⟨[],0,[],0⟩)<|blE h (fun y36=>⟨37,[(5,.sl 1 (List.map (cI .u8) y36) (.fam 0 (List.length y36)))]⟩) (fun y36=>⟨[],[List.length y36]⟩) (fun y36 h=>vF (wk (fr':=⟨37,[(0,qi a0),(3,qi y10),(5,qn),(18,qi y10),(19,qi 0)]⟩) (st':=⟨[],[]⟩) ⟨[],0,[],0⟩)<|vF Wk.nilFam<|zN (X:=((List Int)×Int)) (fun x=>⟨37,[(0,qi a0),(3,qi y10),(5,.sl 1 (List.map (cI .u8) x.1) (.fam 0 (List.length x.1))),(18,qi y10),(19,qi x.2)]⟩) (fun x=>⟨[],[List.length x.1]⟩) (fun k x=>uk n y10 a0 k x.1 x.2=some y36) (fun _ hx=>by simp [uk]at hx) n (([]:List Int),0) h (wk ⟨[],0,[0],1⟩) (fun k x h=>by obtain⟨v43,v44⟩:=x; rw [uk]at h; exact za<|rs [5] [(0,qi a0),(3,qi y10),(18,qi y10),(19,qi v44),(20,qb (decide (v44<y10)))] (kE ⟨[],0,[0],1⟩)<|za<|bF h (fun h=>zg<|za<|zx<|za<|rs [5] [(0,qi a0),(3,qi y10),(6,qi v44),(18,qi y10),(19,qi v44)] (kE ⟨[],0,[0],1⟩)<|bE h fun x51 hx51 h=>bE h fun x52 hx52 h=>rmN zP [] [(0,qi a0),(3,qi y10),(5,.sl 1 (List.map (cI .u8) x52) (.fam 0 (List.length x52))),(18,qi y10),(19,qi v44)] ⟨[],[List.length x52]⟩ (kP 8 (XY (k:= .i64) (d:=(tyT 3).d) (k':= .u64) hx51)<|kA 11 0 (cI .u8) (e:=5) (e2:=5) (sz:=1) (bytes:=1) (b2:=1) (tok2:= .exact) hx52<|kE ⟨[],0,[0],1⟩)<|zy<|rsN zp [5] [(0,qi a0),(3,qi y10),(18,qi y10),(19,qi (IntKind.wrap .i64 (v44+1)))] (kE ⟨[],0,[0],1⟩)<|⟨(x52,IntKind.wrap .i64 (v44+1)),h,wk ⟨[],0,[0],1⟩⟩) fun h=>zL<|zw<|zv<|⟨v43,sI h,wk ⟨[],0,[0],1⟩⟩)) fun y36 h=>za<|rm [] [(2,qs (b2s y36))] ⟨[],[]⟩ (kB 1 y36<|kE ⟨[],0,[],1⟩)<|zh<|by cases h; exact rt ⟨[],0,[],0⟩
def jb (n:Nat) (a1:Int) (a2:Int) (m0:zf):Option zf:=
 (kU n a2).bind fun r1=>
 (yM n a1 r1 m0).bind fun r2=>
 some r2
theorem kl {n:Nat} {a1:Int} {a2:Int} {m0:zf} {r:zf} (h:jb n a1 a2 m0=some r):AC mx 91 [qp 0,qi a1,qi a2] [zf.cells m0] (.tuple []) [zf.cells r]:=by
 delta jb at h
 exact fnc Tryz.func91 rfl<|bE h fun r1 hr1 h=>bE h fun r2 hr2 h=>rmN gV [] [] ⟨[zf.cells r2],[]⟩ (kC 3 ⟨[],1,[],0⟩ (ZC hr1)<|kC 4 ⟨[0],1,[],0⟩ (wb hr2)<|kE ⟨[0],1,[],0⟩)<|by cases h; exact rno ⟨[0],1,[],0⟩
def vb (n:Nat) (a1:Int) (m0:zf):Option zf:=
 (jb n 2 a1 m0).bind fun r1=>
 some r1
theorem uz {n:Nat} {a1:Int} {m0:zf} {r:zf} (h:vb n a1 m0=some r):AC mx 52 [qp 0,qi a1] [zf.cells m0] (.tuple []) [zf.cells r]:=by
 delta vb at h
 exact fnc Tryz.func52 rfl<|bE h fun r1 hr1 h=>rmN gV [] [] ⟨[zf.cells r1],[]⟩ (kC 2 ⟨[0],1,[],0⟩ (kl hr1)<|kE ⟨[0],1,[],0⟩)<|by cases h; exact rno ⟨[0],1,[],0⟩
def gR (n:Nat) (m0:zf):Option zf:=
 some m0
theorem YK {n:Nat} {m0:zf} {r:zf} (h:gR n m0=some r):AC mx 54 [qp 0] [zf.cells m0] (.func (.func 104) [qp 0] []) [zf.cells r]:=by
 delta gR at h
 exact fnc Tryz.func54 rfl<|za<|rs [] [(0,qp 0)] (kE ⟨[0],1,[],0⟩)<|za<|rs [] [(2,.func (.func 104) [qp 0] [])] (kE ⟨[0],1,[],0⟩)<|zh<|by cases h; exact rt ⟨[0],1,[],0⟩
def vg (n:Nat) (a0:zb):Option ((List UInt8)×Int):=
 (jM n a0.yA).bind fun r1=>
 if(r1.2 !=0)=true then(some (([]:List UInt8),r1.2))else((xZ n 6 ([r1.1]:List (List UInt8))).bind fun r2=>
 if(r2.2 !=0)=true then(some (([]:List UInt8),r2.2))else((xZ n a0.vT ([a0.xo]:List (List UInt8))).bind fun r3=>
 if(r3.2 !=0)=true then(some (([]:List UInt8),r3.2))else((xZ n 48 ([r2.1,r3.1]:List (List UInt8))).bind fun r4=>
 some (r4.1,r4.2))))
theorem gZ {n:Nat} {a0:zb} {r:((List UInt8)×Int)} (h:vg n a0=some r):AC mx 214 [.agg (zb.cells a0)] [] (.tuple [qs r.1,qi r.2]) []:=by
 delta vg at h
 exact fnc Tryz.func214 rfl<|za<|rm [] [(1,qp 0)] ⟨[zb.cells a0],[]⟩ (kE ⟨[0],1,[],0⟩)<|za<|bE h fun r1 hr1 h=>rs [] [(1,qp 0),(4,qs r1.1),(5,qi r1.2)] (kC 2 ⟨[],1,[],0⟩ (bU hr1)<|kE ⟨[0],1,[],0⟩)<|za<|za<|rs [4,5] [(1,qp 0),(15,qb (r1.2 !=0))] (kE ⟨[0],1,[],0⟩)<|bF h (fun h=>za<|rm [] [(2,qs ([]:List UInt8)),(3,qi r1.2)] ⟨[],[]⟩ (kE ⟨[],1,[],0⟩)<|zh<|by cases h; exact rt ⟨[],0,[],0⟩) fun h=>zg<|za<|bE h fun r2 hr2 h=>rs [] [(1,qp 0),(5,qi r2.2),(6,qs r2.1)] (kC 2 ⟨[],1,[],0⟩ (wi hr2)<|kE ⟨[0],1,[],0⟩)<|za<|za<|rs [5,6] [(1,qp 0),(24,qb (r2.2 !=0))] (kE ⟨[0],1,[],0⟩)<|bF h (fun h=>za<|rm [] [(2,qs ([]:List UInt8)),(3,qi r2.2)] ⟨[],[]⟩ (kE ⟨[],1,[],0⟩)<|zh<|by cases h; exact rt ⟨[],0,[],0⟩) fun h=>zg<|za<|bE h fun r3 hr3 h=>rm [6] [(5,qi r3.2),(7,qs r3.1)] ⟨[],[]⟩ (kC 5 ⟨[],1,[],0⟩ (wi hr3)<|kE ⟨[],1,[],0⟩)<|za<|za<|rs [5,6,7] [(36,qb (r3.2 !=0))] (kE ⟨[],0,[],0⟩)<|bF h (fun h=>za<|rs [] [(2,qs ([]:List UInt8)),(3,qi r3.2)] (kE ⟨[],0,[],0⟩)<|zh<|by cases h; exact rt ⟨[],0,[],0⟩) fun h=>zg<|za<|bE h fun r4 hr4 h=>rs [] [(2,qs r4.1),(3,qi r4.2)] (kC 3 ⟨[],0,[],0⟩ (wi hr4)<|kE ⟨[],0,[],0⟩)<|zh<|by cases h; exact rt ⟨[],0,[],0⟩
def bj (n:Nat) (a0:(List (List UInt8))):Option (List UInt8):=
 (WE 16 a0).bind fun x1=>
 (Xa n (List.length x1) x1).bind fun r2=>
 (ZP n (List.length x1) ([]:List UInt8) r2).bind fun r3=>
 some r3.1
theorem WV {n:Nat} {a0:(List (List UInt8))} {r:(List UInt8)} (h:bj n a0=some r):AC mx 215 [ql 1 cS a0] [] (qs r) []:=by
 delta bj at h
 exact fnc Tryz.func215 rfl<|za<|rs [0] [] (kE ⟨[],0,[],0⟩)<|za<|bE h fun x1 hx1 h=>rm [] [(3,.own 0 (List.length x1) 1)] ⟨[[.buf (List.map vS x1)]],[]⟩ (kV 1 0 0 0 (BG (T:=tyT) (c:=vS) (l2:=a0) (e:=9) (e2:=9) (bytes:=16) (b2:=16) (tok2:= .none) (cell:=none) (by kernel_rfl) hx1)<|kE ⟨[0],1,[],0⟩)<|za<|bE h fun r2 hr2 h=>rm [3] [] ⟨[[.buf (List.map vS r2)]],[]⟩ (kC 1 ⟨[0],1,[],0⟩ (KC hr2)<|kE ⟨[0],1,[],0⟩)<|za<|bE h fun r3 hr3 h=>rm [] [(2,qs r3.1)] ⟨[],[]⟩ (kC 1 ⟨[0],1,[],0⟩ (QR hr3)<|kE ⟨[],1,[],0⟩)<|zh<|by cases h; exact rt ⟨[],0,[],0⟩
def vp (n:Nat) (x862:(List zb)):Nat→(List (List UInt8))→Int→Option (Ctl ((List UInt8)×Int) (List (List UInt8)))
 |0,_,_=>none
 | k+1,v895,v896=>
  if(decide (v896<(List.length x862:Int)))=true then((zX x862 v896).bind fun x906=>
  (vg n x906).bind fun r907=>
  if(r907.2 !=0)=true then(some (.ret (([]:List UInt8),r907.2)))else((q7 16 v895 ([r907.1]:List (List UInt8))).bind fun x908=>
  vp n x862 k x908 (IntKind.wrap .i64 (v896+1))))else(some (.nxt v895))
def vt (n:Nat) (a0:zt):Nat→(List (List UInt8))→Int→Option (Ctl ((List UInt8)×Int) (List (List UInt8)))
 |0,_,_=>none
 | k+1,v610,v611=>
  if(decide (v611<(List.length a0.zl:Int)))=true then((zX a0.zl v611).bind fun x862=>
  ym (vp n x862 n ([]:List (List UInt8)) 0) (fun r=>some (.ret r)) (fun y885=>
  (bj n y885).bind fun r909=>
  (xZ n 49 ([r909]:List (List UInt8))).bind fun r910=>
  if(r910.2 !=0)=true then(some (.ret (([]:List UInt8),r910.2)))else((q7 16 v610 ([r910.1]:List (List UInt8))).bind fun x911=>
  vt n a0 k x911 (IntKind.wrap .i64 (v611+1)))))else(some (.nxt v610))
def qr (n:Nat) (a0:zt):Option ((List UInt8)×Int):=
 (uD n a0).bind fun r1=>
 if(r1 !=0)=true then(some (([]:List UInt8),r1))else(ym (vt n a0 n ([]:List (List UInt8)) 0) (fun r=>some r) (fun y456=>
 (xZ n 48 y456).bind fun r912=>
 some (r912.1,r912.2)))
theorem YY {n:Nat} {a0:zt} {r:((List UInt8)×Int)} (h:qr n a0=some r):AC mx 164 [.agg [ql 1 (cL 3 zb.cells) a0.zl]] [] (.tuple [qs r.1,qi r.2]) []:=by
 delta qr at h
 exact fnc Tryz.func164 rfl<|za<|rm [] [(1,qp 0)] ⟨[[ql 1 (cL 3 zb.cells) a0.zl]],[]⟩ (kE ⟨[0],1,[],0⟩)<|za<|za<|bE h fun r1 hr1 h=>rs [] [(1,qp 0),(4,qi r1)] (kC 1 ⟨[],1,[],0⟩ (qE hr1)<|kE ⟨[0],1,[],0⟩)<|za<|rs [] [(1,qp 0),(4,qi r1),(18,qb (r1 !=0))] (kE ⟨[0],1,[],0⟩)<|bF h (fun h=>za<|rm [] [(2,qs ([]:List UInt8)),(3,qi r1)] ⟨[],[]⟩ (kE ⟨[],1,[],0⟩)<|zh<|by cases h; exact rt ⟨[],0,[],0⟩) fun h=>zg<|za<|rs [] [(1,qp 0),(5,qn)] (kE ⟨[0],1,[],0⟩)<|za<|za<|rm [] [(5,qn),(21,ql 1 (cL 3 zb.cells) a0.zl),(22,qi (List.length a0.zl:Int)),(23,qi 0)] ⟨[],[]⟩ (kP 2 (zU (c:=(cL 3 zb.cells)) (l:=a0.zl) (e:=141) (sz:=1) (sz':=1) (b:=24) (tok:= .none))<|kE ⟨[],1,[],0⟩)<|blC h (fun y456=>⟨65,[(5,.sl 1 (List.map cS y456) (.fam 0 (List.length y456)))]⟩) (fun y456=>⟨[],[List.length y456]⟩) (fun o457 h hr458=>vF (wk (fr':=⟨65,[(5,qn),(21,ql 1 (cL 3 zb.cells) a0.zl),(22,qi (List.length a0.zl:Int)),(23,qi 0)]⟩) (st':=⟨[],[]⟩) ⟨[],0,[],0⟩)<|vF Wk.nilFam<|zN (X:=((List (List UInt8))×Int)) (fun x=>⟨65,[(5,.sl 1 (List.map cS x.1) (.fam 0 (List.length x.1))),(21,ql 1 (cL 3 zb.cells) a0.zl),(22,qi (List.length a0.zl:Int)),(23,qi x.2)]⟩) (fun x=>⟨[],[List.length x.1]⟩) (fun k x=>vt n a0 k x.1 x.2=some o457) (fun _ hx=>by simp [vt]at hx) n (([]:List (List UInt8)),0) h (wk ⟨[],0,[0],1⟩) (fun k x h=>by obtain⟨v610,v611⟩:=x; rw [vt]at h; exact za<|rs [5,21,22,23] [(24,qb (decide (v611<(List.length a0.zl:Int))))] (kE ⟨[],0,[0],1⟩)<|za<|bF h (fun h=>zg<|za<|zx<|za<|bE h fun x862 hx862 h=>rs [5,21,22,23] [(7,ql 3 zb.cells x862)] (kP 0 (zz (c:=(cL 3 zb.cells)) (e:=141) (sz:=1) (b:=24) (tok:= .none) hx862)<|kE ⟨[],0,[0],1⟩)<|za<|rs [5,7,21,22,23] [(8,qn)] (kE ⟨[],0,[0],1⟩)<|za<|za<|rs [5,21,22,23] [(8,qn),(27,ql 3 zb.cells x862),(28,qi (List.length x862:Int)),(29,qi 0)] (kP 1 (zU (c:=zb.cells) (l:=x862) (e:=140) (sz:=3) (sz':=3) (b:=40) (tok:= .none))<|kE ⟨[],0,[0],1⟩)<|blC h (fun y885=>⟨65,[(5,.sl 1 (List.map cS v610) (.fam 0 (List.length v610))),(8,.sl 1 (List.map cS y885) (.fam 1 (List.length y885))),(21,ql 1 (cL 3 zb.cells) a0.zl),(22,qi (List.length a0.zl:Int)),(23,qi v611)]⟩) (fun y885=>⟨[],[List.length v610,List.length y885]⟩) (fun o886 h hr887=>vF (wk (fr':=⟨65,[(5,.sl 1 (List.map cS v610) (.fam 0 (List.length v610))),(8,qn),(21,ql 1 (cL 3 zb.cells) a0.zl),(22,qi (List.length a0.zl:Int)),(23,qi v611),(27,ql 3 zb.cells x862),(28,qi (List.length x862:Int)),(29,qi 0)]⟩) (st':=⟨[],[List.length v610]⟩) ⟨[],0,[0],1⟩)<|vF Wk.nilFam<|zN (X:=((List (List UInt8))×Int)) (fun x=>⟨65,[(5,.sl 1 (List.map cS v610) (.fam 0 (List.length v610))),(8,.sl 1 (List.map cS x.1) (.fam 1 (List.length x.1))),(21,ql 1 (cL 3 zb.cells) a0.zl),(22,qi (List.length a0.zl:Int)),(23,qi v611),(27,ql 3 zb.cells x862),(28,qi (List.length x862:Int)),(29,qi x.2)]⟩) (fun x=>⟨[],[List.length v610,List.length x.1]⟩) (fun k x=>vp n x862 k x.1 x.2=some o886) (fun _ hx=>by simp [vp]at hx) n (([]:List (List UInt8)),0) h (wk ⟨[],0,[0,1],2⟩) (fun k x h=>by obtain⟨v895,v896⟩:=x; rw [vp]at h; exact za<|rs [5,8,21,22,23,27,28,29] [(30,qb (decide (v896<(List.length x862:Int))))] (kE ⟨[],0,[0,1],2⟩)<|za<|bF h (fun h=>zg<|za<|zx<|za<|bE h fun x906 hx906 h=>rm [5,8,21,22,23,27,28,29] [(10,qp 0)] ⟨[zb.cells x906],[List.length v610,List.length v895]⟩ (kP 0 (zz (c:=zb.cells) (e:=140) (sz:=3) (b:=40) (tok:= .none) hx906)<|kE ⟨[0],1,[0,1],2⟩)<|za<|bE h fun r907 hr907 h=>rm [5,8,21,22,23,27,28,29] [(11,qs r907.1),(12,qi r907.2)] ⟨[],[List.length v610,List.length v895]⟩ (kC 1 ⟨[],1,[],2⟩ (gZ hr907)<|kE ⟨[],1,[0,1],2⟩)<|za<|za<|rs [5,8,11,12,21,22,23,27,28,29] [(39,qb (r907.2 !=0))] (kE ⟨[],0,[0,1],2⟩)<|bF h (fun h=>za<|rm [] [(2,qs ([]:List UInt8)),(3,qi r907.2)] ⟨[],[]⟩ (kE ⟨[],0,[],2⟩)<|zh<|zO<|zQ<|have h:=hr887 _ (sI h); zH<|zO<|zQ<|have h:=hr458 _ (sI h); zH<|by cases h; exact rt ⟨[],0,[],0⟩) fun h=>zg<|bE h fun x908 hx908 h=>rmN zP [5,21,22,23,27,28,29] [(8,.sl 1 (List.map cS x908) (.fam 1 (List.length x908)))] ⟨[],[List.length v610,List.length x908]⟩ (kA 3 1 cS (e:=9) (e2:=9) (sz:=1) (bytes:=16) (b2:=16) (tok2:= .exact) hx908<|kE ⟨[],0,[0,1],2⟩)<|zy<|rsN zp [5,8,21,22,23,27,28] [(29,qi (IntKind.wrap .i64 (v896+1)))] (kE ⟨[],0,[0,1],2⟩)<|⟨(x908,IntKind.wrap .i64 (v896+1)),h,wk ⟨[],0,[0,1],2⟩⟩) fun h=>zL<|zw<|zv<|⟨v895,sI h,wk ⟨[],0,[0,1],2⟩⟩)) fun y885 h=>za<|bE h fun r909 hr909 h=>bE h fun r910 hr910 h=>rm [5,21,22,23] [(13,qs r910.1),(14,qi r910.2)] ⟨[],[List.length v610]⟩ (kC 1 ⟨[],0,[],2⟩ (WV hr909)<|kC 3 ⟨[],0,[],2⟩ (wi hr910)<|kE ⟨[],0,[0],2⟩)<|za<|za<|rs [5,13,14,21,22,23] [(54,qb (r910.2 !=0))] (kE ⟨[],0,[0],1⟩)<|bF h (fun h=>za<|rm [] [(2,qs ([]:List UInt8)),(3,qi r910.2)] ⟨[],[]⟩ (kE ⟨[],0,[],1⟩)<|zh<|zO<|zQ<|have h:=hr458 _ (sI h); zH<|by cases h; exact rt ⟨[],0,[],0⟩) fun h=>zg<|bE h fun x911 hx911 h=>rmN zP [21,22,23] [(5,.sl 1 (List.map cS x911) (.fam 0 (List.length x911)))] ⟨[],[List.length x911]⟩ (kA 3 0 cS (e:=9) (e2:=9) (sz:=1) (bytes:=16) (b2:=16) (tok2:= .exact) hx911<|kE ⟨[],0,[0],1⟩)<|zy<|rsN zp [5,21,22] [(23,qi (IntKind.wrap .i64 (v611+1)))] (kE ⟨[],0,[0],1⟩)<|⟨(x911,IntKind.wrap .i64 (v611+1)),h,wk ⟨[],0,[0],1⟩⟩) fun h=>zL<|zw<|zv<|⟨v610,sI h,wk ⟨[],0,[0],1⟩⟩)) fun y456 h=>za<|bE h fun r912 hr912 h=>rm [] [(2,qs r912.1),(3,qi r912.2)] ⟨[],[]⟩ (kC 1 ⟨[],0,[],1⟩ (wi hr912)<|kE ⟨[],0,[],1⟩)<|zh<|by cases h; exact rt ⟨[],0,[],0⟩
def jn (n:Nat) (a0:zo):Option (List UInt8):=
 (jt (b2s ([IntKind.wrap .u8 a0.zq]:List Int)) a0.xM).bind fun x1=>
 (jt x1 a0.zR).bind fun x2=>
 some x2
theorem ZD {n:Nat} {a0:zo} {r:(List UInt8)} (h:jn n a0=some r):AC mx 162 [.agg (zo.cells a0)] [] (qs r) []:=by
 delta jn at h
 exact fnc Tryz.func162 rfl<|za<|rm [] [(1,qp 0)] ⟨[zo.cells a0],[]⟩ (kE ⟨[0],1,[],0⟩)<|za<|bE h fun x1 hx1 h=>bE h fun x2 hx2 h=>rm [] [(2,qs x2)] ⟨[],[]⟩ (kB 4 ([IntKind.wrap .u8 a0.zq]:List Int)<|kP 7 (wE (d:=(tyT 9).d) hx1)<|kP 10 (wE (d:=(tyT 9).d) hx2)<|kE ⟨[],1,[],0⟩)<|zh<|by cases h; exact rt ⟨[],0,[],0⟩
def qA (n:Nat) (a0:(List UInt8)) (a1:Int):Option Bool:=
 if(a1==0)=true then(some true)else((if(!(a0==([]:List UInt8)))=true then((xD a0 (IntKind.wrap .i64 ((List.length a0:Int)-1))).bind fun x1=>
 (Ue .u8 1 (IntKind.wrap .u64 a1)).bind fun x2=>
 some ((xJ .u8 x1 (IntKind.wrap .u8 (x2-1)))==0))else(some false)).bind fun y4=>
 some y4)
theorem pH {n:Nat} {a0:(List UInt8)} {a1:Int} {r:Bool} (h:qA n a0 a1=some r):AC mx 213 [qs a0,qi a1] [] (qb r) []:=by
 delta qA at h
 exact fnc Tryz.func213 rfl<|za<|rs [] [(0,qs a0),(1,qi a1)] (kE ⟨[],0,[],0⟩)<|za<|za<|rs [] [(0,qs a0),(1,qi a1),(6,qb (a1==0))] (kE ⟨[],0,[],0⟩)<|bF h (fun h=>za<|rs [] [(4,qb true)] (kE ⟨[],0,[],0⟩)<|zh<|by cases h; exact rt ⟨[],0,[],0⟩) fun h=>zg<|za<|bE h fun y4 hE h=>reg ⟨22,[(4,qb y4)]⟩ ⟨[],[]⟩ (have h:=hE; gF 3 9 h (fun h=>bE h fun x1 hx1 h=>bE h fun x2 hx2 h=>kP 7 (z7 hx1)<|kP 10 (KI (k:= .u8) (d:=(tyT 5).d) (k':= .u64) hx2)<|by cases h; exact kE ⟨[],0,[],0⟩) fun h=>by cases h; exact kE ⟨[],0,[],0⟩)<|zh<|by cases h; exact rt ⟨[],0,[],0⟩
def qx (n:Nat) (a0:(List UInt8)) (a1:Int):Option ((List UInt8)×Int):=
 (if(decide (a1<0))=true then(some true)else(some (decide (a1>7)))).bind fun y2=>
 if y2=true then(some (([]:List UInt8),1))else((qA n a0 a1).bind fun r3=>
 if(!r3)=true then(some (([]:List UInt8),7))else((jt (b2s ([IntKind.wrap .u8 a1]:List Int)) a0).bind fun x4=>
 some (x4,0)))
theorem YJ {n:Nat} {a0:(List UInt8)} {a1:Int} {r:((List UInt8)×Int)} (h:qx n a0 a1=some r):AC mx 161 [qs a0,qi a1] [] (.tuple [qs r.1,qi r.2]) []:=by
 delta qx at h
 exact fnc Tryz.func161 rfl<|za<|rs [] [(0,qs a0),(1,qi a1)] (kE ⟨[],0,[],0⟩)<|za<|za<|bE h fun y2 hE h=>reg ⟨22,[(0,qs a0),(1,qi a1),(11,qb y2)]⟩ ⟨[],[]⟩ (have h:=hE; gF 3 8 h (fun h=>by cases h; exact kE ⟨[],0,[],0⟩) fun h=>by cases h; exact kE ⟨[],0,[],0⟩)<|bF h (fun h=>za<|rs [] [(4,qs ([]:List UInt8)),(5,qi 1)] (kE ⟨[],0,[],0⟩)<|zh<|by cases h; exact rt ⟨[],0,[],0⟩) fun h=>zg<|za<|za<|bE h fun r3 hr3 h=>rs [] [(0,qs a0),(1,qi a1),(15,qb (!r3))] (kC 2 ⟨[],0,[],0⟩ (pH hr3)<|kE ⟨[],0,[],0⟩)<|bF h (fun h=>za<|rs [] [(4,qs ([]:List UInt8)),(5,qi 7)] (kE ⟨[],0,[],0⟩)<|zh<|by cases h; exact rt ⟨[],0,[],0⟩) fun h=>zg<|za<|bE h fun x4 hx4 h=>rs [] [(4,qs x4),(5,qi 0)] (kB 3 ([IntKind.wrap .u8 a1]:List Int)<|kP 5 (wE (d:=(tyT 9).d) hx4)<|kE ⟨[],0,[],0⟩)<|zh<|by cases h; exact rt ⟨[],0,[],0⟩
def jD (n:Nat):Option (List UInt8):=
 (jM n ([49,46,51,46,54,46,49,46,52,46,49,46,53,56,56,56,56,46,49,46,49]:List UInt8)).bind fun r1=>
 (xZ n 6 ([r1.1]:List (List UInt8))).bind fun r2=>
 (xZ n 48 ([r2.1]:List (List UInt8))).bind fun r3=>
 some r3.1
theorem pM {n:Nat} {r:(List UInt8)} (h:jD n  =some r):AC mx 163 [] [] (qs r) []:=by
 delta jD at h
 exact fnc Tryz.func163 rfl<|za<|rs [] [] (kE ⟨[],0,[],0⟩)<|za<|bE h fun r1 hr1 h=>rs [] [(1,qs r1.1)] (kC 0 ⟨[],0,[],0⟩ (bU hr1)<|kE ⟨[],0,[],0⟩)<|za<|bE h fun r2 hr2 h=>rs [] [(3,qs r2.1)] (kC 2 ⟨[],0,[],0⟩ (wi hr2)<|kE ⟨[],0,[],0⟩)<|za<|bE h fun r3 hr3 h=>rs [] [(5,qs r3.1)] (kC 2 ⟨[],0,[],0⟩ (wi hr3)<|kE ⟨[],0,[],0⟩)<|za<|rs [] [(0,qs r3.1)] (kE ⟨[],0,[],0⟩)<|zh<|by cases h; exact rt ⟨[],0,[],0⟩
def uR (n:Nat) (a0:zo):Option ((List UInt8)×Int):=
 (uV n a0).bind fun r1=>
 if(r1 !=0)=true then(some (([]:List UInt8),r1))else((jn n a0).bind fun r2=>
 (qx n r2 0).bind fun r3=>
 if(r3.2 !=0)=true then(some (([]:List UInt8),r3.2))else((xZ n 3 ([r3.1]:List (List UInt8))).bind fun r4=>
 if(r4.2 !=0)=true then(some (([]:List UInt8),r4.2))else((jD n).bind fun r5=>
 (xZ n 48 ([r5,r4.1]:List (List UInt8))).bind fun r6=>
 some (r6.1,r6.2))))
theorem gH {n:Nat} {a0:zo} {r:((List UInt8)×Int)} (h:uR n a0=some r):AC mx 103 [.agg (zo.cells a0)] [] (.tuple [qs r.1,qi r.2]) []:=by
 delta uR at h
 exact fnc Tryz.func103 rfl<|za<|rm [] [(1,qp 0)] ⟨[zo.cells a0],[]⟩ (kE ⟨[0],1,[],0⟩)<|za<|za<|bE h fun r1 hr1 h=>rs [] [(1,qp 0),(4,qi r1)] (kC 1 ⟨[],1,[],0⟩ (ba hr1)<|kE ⟨[0],1,[],0⟩)<|za<|rs [] [(1,qp 0),(4,qi r1),(11,qb (r1 !=0))] (kE ⟨[0],1,[],0⟩)<|bF h (fun h=>za<|rm [] [(2,qs ([]:List UInt8)),(3,qi r1)] ⟨[],[]⟩ (kE ⟨[],1,[],0⟩)<|zh<|by cases h; exact rt ⟨[],0,[],0⟩) fun h=>zg<|za<|bE h fun r2 hr2 h=>bE h fun r3 hr3 h=>rm [] [(5,qs r3.1),(6,qi r3.2)] ⟨[],[]⟩ (kC 1 ⟨[],1,[],0⟩ (ZD hr2)<|kC 2 ⟨[],1,[],0⟩ (YJ hr3)<|kE ⟨[],1,[],0⟩)<|za<|za<|rs [5,6] [(20,qb (r3.2 !=0))] (kE ⟨[],0,[],0⟩)<|bF h (fun h=>za<|rs [] [(2,qs ([]:List UInt8)),(3,qi r3.2)] (kE ⟨[],0,[],0⟩)<|zh<|by cases h; exact rt ⟨[],0,[],0⟩) fun h=>zg<|za<|bE h fun r4 hr4 h=>rs [] [(6,qi r4.2),(7,qs r4.1)] (kC 2 ⟨[],0,[],0⟩ (wi hr4)<|kE ⟨[],0,[],0⟩)<|za<|za<|rs [6,7] [(29,qb (r4.2 !=0))] (kE ⟨[],0,[],0⟩)<|bF h (fun h=>za<|rs [] [(2,qs ([]:List UInt8)),(3,qi r4.2)] (kE ⟨[],0,[],0⟩)<|zh<|by cases h; exact rt ⟨[],0,[],0⟩) fun h=>zg<|za<|bE h fun r5 hr5 h=>bE h fun r6 hr6 h=>rs [] [(2,qs r6.1),(3,qi r6.2)] (kC 0 ⟨[],0,[],0⟩ (pM hr5)<|kC 3 ⟨[],0,[],0⟩ (wi hr6)<|kE ⟨[],0,[],0⟩)<|zh<|by cases h; exact rt ⟨[],0,[],0⟩
def ww (n:Nat) (a1:zd) (m0:zf):Option zf:=
 (qr n (zt.mk a1.zS.zl)).bind fun r1=>
 (yI n r1.1 r1.2 (zf.mk ([]:List UInt8) 0)).bind fun r2=>
 (uR n (zo.mk a1.zJ.zq a1.zJ.xM a1.zJ.zR)).bind fun r3=>
 (yI n r3.1 r3.2 r2).bind fun r4=>
 (yI n ([]:List UInt8) r4.f_e m0).bind fun r5=>
 (yM n 48 r4.f_b r5).bind fun r6=>
 some r6
theorem kK {n:Nat} {a1:zd} {m0:zf} {r:zf} (h:ww n a1 m0=some r):AC mx 104 [qp 0,.agg [ql 1 (cL 3 zb.cells) a1.zS.zl,qi a1.zJ.zq,qs a1.zJ.xM,qs a1.zJ.zR]] [zf.cells m0] (.tuple []) [zf.cells r]:=by
 delta ww at h
 exact fnc Tryz.func104 rfl<|za<|rm [] [(0,qp 0),(3,qp 1)] ⟨[zf.cells m0,[ql 1 (cL 3 zb.cells) a1.zS.zl,qi a1.zJ.zq,qs a1.zJ.xM,qs a1.zJ.zR]],[]⟩ (kE ⟨[0,1],2,[],0⟩)<|za<|rm [] [(0,qp 0),(3,qp 1),(4,qp 2)] ⟨[zf.cells m0,[ql 1 (cL 3 zb.cells) a1.zS.zl,qi a1.zJ.zq,qs a1.zJ.xM,qs a1.zJ.zR],[qs ([]:List UInt8),qi 0]],[]⟩ (kE ⟨[0,1,2],3,[],0⟩)<|za<|bE h fun r1 hr1 h=>bE h fun r2 hr2 h=>rm [] [(0,qp 0),(3,qp 1),(4,qp 2)] ⟨[zf.cells m0,[ql 1 (cL 3 zb.cells) a1.zS.zl,qi a1.zJ.zq,qs a1.zJ.xM,qs a1.zJ.zR],zf.cells r2],[]⟩ (kC 2 ⟨[],3,[],0⟩ (YY hr1)<|kC 5 ⟨[2],3,[],0⟩ (xq hr2)<|kE ⟨[0,1,2],3,[],0⟩)<|za<|bE h fun r3 hr3 h=>bE h fun r4 hr4 h=>rm [] [(0,qp 0),(4,qp 1)] ⟨[zf.cells m0,zf.cells r4],[]⟩ (kC 2 ⟨[],3,[],0⟩ (gH hr3)<|kC 5 ⟨[2],3,[],0⟩ (xq hr4)<|kE ⟨[0,2],3,[],0⟩)<|za<|bE h fun r5 hr5 h=>rm [] [(0,qp 0),(4,qp 1)] ⟨[zf.cells r5,zf.cells r4],[]⟩ (kC 3 ⟨[0],2,[],0⟩ (xq hr5)<|kE ⟨[0,1],2,[],0⟩)<|bE h fun r6 hr6 h=>rmN gV [] [] ⟨[zf.cells r6],[]⟩ (kC 3 ⟨[0],2,[],0⟩ (wb hr6)<|kE ⟨[0],2,[],0⟩)<|by cases h; exact rno ⟨[0],1,[],0⟩
def wO (n:Nat) (a2:(List zd)):Nat→Int→(List UInt8)→Int→Option ((List UInt8)×Int)
 |0,_,_,_=>none
 | k+1,v25,v26,v27=>
  if(decide (v25<(List.length a2:Int)))=true then((zX a2 v25).bind fun x34=>
  (ww n (zd.mk (zt.mk x34.zS.zl) (zo.mk x34.zJ.zq x34.zJ.xM x34.zJ.zR)) (zf.mk v26 v27)).bind fun r35=>
  wO n a2 k (IntKind.wrap .i64 (v25+1)) r35.f_b r35.f_e)else(some (v26,v27))
def jX (n:Nat) (a1:Int) (a2:(List zd)) (m0:zf):Option zf:=
 (gR n (zf.mk ([]:List UInt8) 0)).bind fun r1=>
 (wO n a2 n 0 r1.f_b r1.f_e).bind fun y19=>
 (yI n ([]:List UInt8) y19.2 m0).bind fun r36=>
 (yM n a1 y19.1 r36).bind fun r37=>
 some r37
theorem dM {n:Nat} {a1:Int} {a2:(List zd)} {m0:zf} {r:zf} (h:jX n a1 a2 m0=some r):AC mx 53 [qp 0,qi a1,ql 4 zd.cells a2,.func (.func 54) [] []] [zf.cells m0] (.tuple []) [zf.cells r]:=by
 delta jX at h
 exact fnc Tryz.func53 rfl<|za<|rm [2,3] [(0,qp 0),(1,qi a1),(8,qp 1)] ⟨[zf.cells m0,[qs ([]:List UInt8),qi 0]],[]⟩ (kE ⟨[0,1],2,[],0⟩)<|za<|bE h fun r1 hr1 h=>rm [2] [(0,qp 0),(1,qi a1),(8,qp 1),(9,.func (.func 104) [qp 1] [])] ⟨[zf.cells m0,zf.cells r1],[]⟩ (kC 1 ⟨[1],2,[],0⟩ (YK hr1)<|kE ⟨[0,1],2,[],0⟩)<|za<|za<|rs [9] [(0,qp 0),(1,qi a1),(8,qp 1),(14,ql 4 zd.cells a2),(15,qi (List.length a2:Int)),(16,qi 0)] (kP 1 (zU (c:=zd.cells) (l:=a2) (e:=68) (sz:=4) (sz':=4) (b:=64) (tok:= .none))<|kE ⟨[0,1],2,[],0⟩)<|blE h (fun y19=>⟨33,[(0,qp 0),(1,qi a1),(8,qp 1)]⟩) (fun y19=>⟨[zf.cells m0,[qs y19.1,qi y19.2]],[]⟩) (fun y19 h=>zN (X:=(Int×(List UInt8)×Int)) (fun x=>⟨33,[(0,qp 0),(1,qi a1),(8,qp 1),(9,.func (.func 104) [qp 1] []),(14,ql 4 zd.cells a2),(15,qi (List.length a2:Int)),(16,qi x.1)]⟩) (fun x=>⟨[zf.cells m0,[qs x.2.1,qi x.2.2]],[]⟩) (fun k x=>wO n a2 k x.1 x.2.1 x.2.2=some y19) (fun _ hx=>by simp [wO]at hx) n (0,r1.f_b,r1.f_e) h (wk ⟨[0,1],2,[],0⟩) (fun k x h=>by obtain⟨v25,v26,v27⟩:=x; rw [wO]at h; exact za<|rs [9,14,15] [(0,qp 0),(1,qi a1),(8,qp 1),(16,qi v25),(17,qb (decide (v25<(List.length a2:Int))))] (kE ⟨[0,1],2,[],0⟩)<|za<|bF h (fun h=>zg<|za<|zx<|za<|bE h fun x34 hx34 h=>rm [9,14,15] [(0,qp 0),(1,qi a1),(8,qp 1),(11,qp 2),(16,qi v25)] ⟨[zf.cells m0,[qs v26,qi v27],[ql 1 (cL 3 zb.cells) x34.zS.zl,qi x34.zJ.zq,qs x34.zJ.xM,qs x34.zJ.zR]],[]⟩ (kP 0 (zz (c:=zd.cells) (e:=68) (sz:=4) (b:=64) (tok:= .none) hx34)<|kE ⟨[0,1,2],3,[],0⟩)<|bE h fun r35 hr35 h=>rmN zP [9,14,15] [(0,qp 0),(1,qi a1),(8,qp 1),(16,qi v25)] ⟨[zf.cells m0,zf.cells r35],[]⟩ (kC 2 ⟨[1],3,[],0⟩ (kK hr35)<|kE ⟨[0,1],3,[],0⟩)<|zy<|rsN zp [9,14,15] [(0,qp 0),(1,qi a1),(8,qp 1),(16,qi (IntKind.wrap .i64 (v25+1)))] (kE ⟨[0,1],2,[],0⟩)<|⟨(IntKind.wrap .i64 (v25+1),r35.f_b,r35.f_e),h,wk ⟨[0,1],2,[],0⟩⟩) fun h=>zL<|zw<|zv<|⟨(v26,v27),sI h,wk ⟨[0,1],2,[],0⟩⟩)) fun y19 h=>za<|bE h fun r36 hr36 h=>rm [] [(0,qp 0),(1,qi a1),(8,qp 1)] ⟨[zf.cells r36,[qs y19.1,qi y19.2]],[]⟩ (kC 3 ⟨[0],2,[],0⟩ (xq hr36)<|kE ⟨[0,1],2,[],0⟩)<|bE h fun r37 hr37 h=>rmN gV [] [] ⟨[zf.cells r37],[]⟩ (kC 4 ⟨[0],2,[],0⟩ (wb hr37)<|kE ⟨[0],2,[],0⟩)<|by cases h; exact rno ⟨[0],1,[],0⟩
def xe (n:Nat) (m0:zf):Option ((List UInt8)×Int×zf):=
 (xZ n 48 ([m0.f_b]:List (List UInt8))).bind fun r1=>
 (if(m0.f_e !=0)=true then(some true)else(some (r1.2 !=0))).bind fun y3=>
 if y3=true then(some (([]:List UInt8),2,m0))else(some (r1.1,0,m0))
theorem uU {n:Nat} {m0:zf} {r:((List UInt8)×Int×zf)} (h:xe n m0=some r):AC mx 55 [qp 0] [zf.cells m0] (.tuple [qs r.1,qi r.2.1]) [zf.cells r.2.2]:=by
 delta xe at h
 exact fnc Tryz.func55 rfl<|za<|rs [] [(0,qp 0)] (kE ⟨[0],1,[],0⟩)<|za<|bE h fun r1 hr1 h=>rs [] [(0,qp 0),(4,qs r1.1),(5,qi r1.2)] (kC 5 ⟨[],1,[],0⟩ (wi hr1)<|kE ⟨[0],1,[],0⟩)<|za<|za<|bE h fun y3 hE h=>reg ⟨25,[(4,qs r1.1),(23,qb y3)]⟩ ⟨[zf.cells m0],[]⟩ (have h:=hE; gF 6 20 h (fun h=>by cases h; exact kE ⟨[0],1,[],0⟩) fun h=>by cases h; exact kE ⟨[0],1,[],0⟩)<|bF h (fun h=>za<|rs [] [(2,qs ([]:List UInt8)),(3,qi 2)] (kE ⟨[0],1,[],0⟩)<|zh<|by cases h; exact rt ⟨[0],1,[],0⟩) fun h=>zg<|za<|rs [] [(2,qs r1.1),(3,qi 0)] (kE ⟨[0],1,[],0⟩)<|zh<|by cases h; exact rt ⟨[0],1,[],0⟩
def jR (n:Nat) (a0:zu):Option ((List UInt8)×Int):=
 (bm n a0).bind fun r1=>
 if(r1 !=0)=true then(some (([]:List UInt8),r1))else((dO n a0.U9).bind fun r2=>
 (yI n r2.1 r2.2 (zf.mk ([]:List UInt8) 0)).bind fun r3=>
 (if(!(a0.dm==([]:List UInt8)))=true then((jM n a0.dm).bind fun r11=>
 (yI n ([]:List UInt8) r11.2 r3).bind fun r12=>
 (yM n 128 r11.1 r12).bind fun r13=>
 some (r13.f_b,r13.f_e))else(some (r3.f_b,r3.f_e))).bind fun y9=>
 if(a0.Xh !=0)=true then(none)else((if(decide ((List.length a0.z8:Int)>0))=true then((jV n 162 a0.z8 (zf.mk y9.1 y9.2)).bind fun r19=>
 some (r19.f_b,r19.f_e))else(some (y9.1,y9.2))).bind fun y17=>
 (wT n 131 a0.VI (zf.mk y17.1 y17.2)).bind fun r20=>
 (wT n 132 a0.Wx r20).bind fun r21=>
 (wT n 133 a0.B4 r21).bind fun r22=>
 if(decide ((List.length a0.qX:Int)>0))=true then(none)else((vb n a0.gz r22).bind fun r23=>
 (wT n 135 a0.Q8 r23).bind fun r24=>
 if(decide ((List.length a0.uv:Int)>0))=true then((jX n 168 a0.uv r24).bind fun r25=>
 (xe n r25).bind fun r26=>
 some (r26.1,r26.2.1))else((xe n r24).bind fun r27=>
 some (r27.1,r27.2.1)))))
theorem bt {n:Nat} {a0:zu} {r:((List UInt8)×Int)} (h:jR n a0=some r):AC mx 14 [.agg (zu.cells a0)] [] (.tuple [qs r.1,qi r.2]) []:=by
 delta jR at h
 exact fnc Tryz.func14 rfl<|za<|rm [] [(1,qp 0)] ⟨[zu.cells a0],[]⟩ (kE ⟨[0],1,[],0⟩)<|za<|za<|bE h fun r1 hr1 h=>rs [] [(1,qp 0),(4,qi r1)] (kC 1 ⟨[],1,[],0⟩ (ZS hr1)<|kE ⟨[0],1,[],0⟩)<|za<|rs [] [(1,qp 0),(4,qi r1),(15,qb (r1 !=0))] (kE ⟨[0],1,[],0⟩)<|bF h (fun h=>za<|rm [] [(2,qs ([]:List UInt8)),(3,qi r1)] ⟨[],[]⟩ (kE ⟨[],1,[],0⟩)<|zh<|by cases h; exact rt ⟨[],0,[],0⟩) fun h=>zg<|za<|rm [] [(1,qp 0),(5,qp 1)] ⟨[zu.cells a0,[qs ([]:List UInt8),qi 0]],[]⟩ (kE ⟨[0,1],2,[],0⟩)<|za<|bE h fun r2 hr2 h=>bE h fun r3 hr3 h=>rm [] [(1,qp 0),(5,qp 1)] ⟨[zu.cells a0,zf.cells r3],[]⟩ (kC 2 ⟨[],2,[],0⟩ (XB hr2)<|kC 5 ⟨[1],2,[],0⟩ (xq hr3)<|kE ⟨[0,1],2,[],0⟩)<|za<|za<|rs [] [(1,qp 0),(5,qp 1),(25,qb (!(a0.dm==([]:List UInt8))))] (kE ⟨[0,1],2,[],0⟩)<|cuE h (fun y9=>⟨95,[(1,qp 0),(5,qp 1)]⟩) (fun y9=>⟨[zu.cells a0,[qs y9.1,qi y9.2]],[]⟩) (fun y9 h=>bF h (fun h=>za<|bE h fun r11 hr11 h=>rs [] [(1,qp 0),(5,qp 1),(6,qs r11.1),(7,qi r11.2)] (kC 2 ⟨[],2,[],0⟩ (bU hr11)<|kE ⟨[0,1],2,[],0⟩)<|za<|bE h fun r12 hr12 h=>rm [6] [(1,qp 0),(5,qp 1)] ⟨[zu.cells a0,zf.cells r12],[]⟩ (kC 1 ⟨[1],2,[],0⟩ (xq hr12)<|kE ⟨[0,1],2,[],0⟩)<|bE h fun r13 hr13 h=>rmN zp [] [(1,qp 0),(5,qp 1)] ⟨[zu.cells a0,zf.cells r13],[]⟩ (kC 1 ⟨[1],2,[],0⟩ (wb hr13)<|kE ⟨[0,1],2,[],0⟩)<|⟨(r13.f_b,r13.f_e),sI h,wk ⟨[0,1],2,[],0⟩⟩) fun h=>zg<|⟨(r3.f_b,r3.f_e),sI h,wk ⟨[0,1],2,[],0⟩⟩) fun y9 h=>za<|za<|rs [] [(1,qp 0),(5,qp 1),(38,qb (a0.Xh !=0))] (kE ⟨[0,1],2,[],0⟩)<|bF h (fun h=>nE h) fun h=>zg<|za<|za<|rs [] [(1,qp 0),(5,qp 1),(52,qb (decide ((List.length a0.z8:Int)>0)))] (kP 2 (zU (c:=cS) (l:=a0.z8) (e:=9) (sz:=1) (sz':=1) (b:=16) (tok:= .none))<|kE ⟨[0,1],2,[],0⟩)<|cuE h (fun y17=>⟨95,[(1,qp 0),(5,qp 1)]⟩) (fun y17=>⟨[zu.cells a0,[qs y17.1,qi y17.2]],[]⟩) (fun y17 h=>bF h (fun h=>bE h fun r19 hr19 h=>rmN zp [] [(1,qp 0),(5,qp 1)] ⟨[zu.cells a0,zf.cells r19],[]⟩ (kC 2 ⟨[1],2,[],0⟩ (bB hr19)<|kE ⟨[0,1],2,[],0⟩)<|⟨(r19.f_b,r19.f_e),sI h,wk ⟨[0,1],2,[],0⟩⟩) fun h=>zg<|⟨(y9.1,y9.2),sI h,wk ⟨[0,1],2,[],0⟩⟩) fun y17 h=>za<|bE h fun r20 hr20 h=>rm [] [(1,qp 0),(5,qp 1)] ⟨[zu.cells a0,zf.cells r20],[]⟩ (kC 2 ⟨[1],2,[],0⟩ (ui hr20)<|kE ⟨[0,1],2,[],0⟩)<|za<|bE h fun r21 hr21 h=>rm [] [(1,qp 0),(5,qp 1)] ⟨[zu.cells a0,zf.cells r21],[]⟩ (kC 2 ⟨[1],2,[],0⟩ (ui hr21)<|kE ⟨[0,1],2,[],0⟩)<|za<|bE h fun r22 hr22 h=>rm [] [(1,qp 0),(5,qp 1)] ⟨[zu.cells a0,zf.cells r22],[]⟩ (kC 2 ⟨[1],2,[],0⟩ (ui hr22)<|kE ⟨[0,1],2,[],0⟩)<|za<|za<|rs [] [(1,qp 0),(5,qp 1),(68,qb (decide ((List.length a0.qX:Int)>0)))] (kP 2 (zU (c:=yj.cells) (l:=a0.qX) (e:=59) (sz:=3) (sz':=3) (b:=48) (tok:= .none))<|kE ⟨[0,1],2,[],0⟩)<|bF h (fun h=>nE h) fun h=>zg<|za<|bE h fun r23 hr23 h=>rm [] [(1,qp 0),(5,qp 1)] ⟨[zu.cells a0,zf.cells r23],[]⟩ (kC 2 ⟨[1],2,[],0⟩ (uz hr23)<|kE ⟨[0,1],2,[],0⟩)<|za<|bE h fun r24 hr24 h=>rm [] [(1,qp 0),(5,qp 1)] ⟨[zu.cells a0,zf.cells r24],[]⟩ (kC 2 ⟨[1],2,[],0⟩ (ui hr24)<|kE ⟨[0,1],2,[],0⟩)<|za<|za<|rs [] [(1,qp 0),(5,qp 1),(88,qb (decide ((List.length a0.uv:Int)>0)))] (kP 2 (zU (c:=zd.cells) (l:=a0.uv) (e:=68) (sz:=4) (sz':=4) (b:=64) (tok:= .none))<|kE ⟨[0,1],2,[],0⟩)<|bF h (fun h=>bE h fun r25 hr25 h=>rm [] [(5,qp 0)] ⟨[zf.cells r25],[]⟩ (kC 2 ⟨[1],2,[],0⟩ (dM hr25)<|kE ⟨[1],2,[],0⟩)<|za<|bE h fun r26 hr26 h=>rm [] [(2,qs r26.1),(3,qi r26.2.1)] ⟨[],[]⟩ (kC 0 ⟨[0],1,[],0⟩ (uU hr26)<|kE ⟨[],1,[],0⟩)<|zh<|by cases h; exact rt ⟨[],0,[],0⟩) fun h=>zg<|za<|bE h fun r27 hr27 h=>rm [] [(2,qs r27.1),(3,qi r27.2.1)] ⟨[],[]⟩ (kC 0 ⟨[1],2,[],0⟩ (uU hr27)<|kE ⟨[],2,[],0⟩)<|zh<|by cases h; exact rt ⟨[],0,[],0⟩
def gX (n:Nat) (a0:Int):Option Int:=
 if(a0==1)=true then(some 128)else((Ue .i64 1 (IntKind.wrap .u64 ((8:Int)*(IntKind.wrap .u64 (IntKind.wrap .i64 (a0-1)))))).bind fun x1=>
 some x1)
theorem WZ {n:Nat} {a0:Int} {r:Int} (h:gX n a0=some r):AC mx 238 [qi a0] [] (qi r) []:=by
 delta gX at h
 exact fnc Tryz.func238 rfl<|za<|rs [] [(0,qi a0)] (kE ⟨[],0,[],0⟩)<|za<|za<|rs [] [(0,qi a0),(4,qb (a0==1))] (kE ⟨[],0,[],0⟩)<|bF h (fun h=>za<|rs [] [(2,qi 128)] (kE ⟨[],0,[],0⟩)<|zh<|by cases h; exact rt ⟨[],0,[],0⟩) fun h=>zg<|za<|bE h fun x1 hx1 h=>rs [] [(2,qi x1)] (kP 4 (KI (k:= .i64) (d:=(tyT 3).d) (k':= .u64) hx1)<|kE ⟨[],0,[],0⟩)<|zh<|by cases h; exact rt ⟨[],0,[],0⟩
def jm (n:Nat) (x33:(List UInt8)):Nat→Int→Int→Option Int
 |0,_,_=>none
 | k+1,v47,v48=>
  if(decide (v48<(List.length (s2b x33):Int)))=true then((zX (s2b x33) v48).bind fun x52=>
  jm n x33 k (ior .i64 (IntKind.wrap .i64 (v47*256)) (IntKind.wrap .i64 x52)) (IntKind.wrap .i64 (v48+1)))else(some v47)
def qK (n:Nat) (a0:(List UInt8)):Option (zc×(List UInt8)×Int):=
 if(a0==([]:List UInt8))=true then(some ((zc.mk 0 ([]:List UInt8) ([]:List UInt8)),([]:List UInt8),3))else((xD a0 0).bind fun x1=>
 if((xJ .i64 (IntKind.wrap .i64 x1) 31)==31)=true then(some ((zc.mk 0 ([]:List UInt8) ([]:List UInt8)),([]:List UInt8),5))else(if(decide ((List.length a0:Int)<2))=true then(some ((zc.mk 0 ([]:List UInt8) ([]:List UInt8)),([]:List UInt8),3))else((xD a0 1).bind fun x2=>
 (if((IntKind.wrap .i64 x2)==128)=true then(some true)else(some (decide ((IntKind.wrap .i64 x2)>131)))).bind fun y4=>
 if y4=true then(some ((zc.mk 0 ([]:List UInt8) ([]:List UInt8)),([]:List UInt8),6))else(ym (if(decide ((IntKind.wrap .i64 x2)>128))=true then(if(decide ((List.length a0:Int)<(IntKind.wrap .i64 ((2:Int)+(IntKind.wrap .i64 ((IntKind.wrap .i64 x2)-128))))))=true then(some (.ret ((zc.mk 0 ([]:List UInt8) ([]:List UInt8)),([]:List UInt8),3)))else((ssl a0 2 (IntKind.wrap .i64 ((2:Int)+(IntKind.wrap .i64 ((IntKind.wrap .i64 x2)-128))))).bind fun x33=>
 (jm n x33 n 0 0).bind fun y43=>
 ((gX n (IntKind.wrap .i64 ((IntKind.wrap .i64 x2)-128))).bind fun r53=>
 if(decide (y43<r53))=true then(some true)else(some (decide (y43>131072)))).bind fun y55=>
 if y55=true then(some (.ret ((zc.mk 0 ([]:List UInt8) ([]:List UInt8)),([]:List UInt8),6)))else(some (.nxt (y43,IntKind.wrap .i64 ((2:Int)+(IntKind.wrap .i64 ((IntKind.wrap .i64 x2)-128))))))))else(some (.nxt (IntKind.wrap .i64 x2,2)))) (fun r=>some r) (fun y30=>
 if(decide ((IntKind.wrap .i64 ((List.length a0:Int)-y30.2))<y30.1))=true then(some ((zc.mk 0 ([]:List UInt8) ([]:List UInt8)),([]:List UInt8),3))else((ssl a0 y30.2 (IntKind.wrap .i64 (y30.2+y30.1))).bind fun x56=>
 (ssl a0 0 (IntKind.wrap .i64 (y30.2+y30.1))).bind fun x57=>
 (ssl a0 (IntKind.wrap .i64 (y30.2+y30.1)) (List.length a0)).bind fun x58=>
 some ((zc.mk (IntKind.wrap .i64 x1) x56 x57),x58,0)))))))
theorem dr {n:Nat} {a0:(List UInt8)} {r:(zc×(List UInt8)×Int)} (h:qK n a0=some r):AC mx 192 [qs a0] [] (.tuple [.agg (zc.cells r.1),qs r.2.1,qi r.2.2]) []:=by
 delta qK at h
 exact fnc Tryz.func192 rfl<|za<|rm [] [(0,qs a0),(2,qp 0)] ⟨[[qi 0,qs ([]:List UInt8),qs ([]:List UInt8)]],[]⟩ (kE ⟨[0],1,[],0⟩)<|za<|rm [] [(0,qs a0),(2,qp 0),(5,qp 1)] ⟨[[qi 0,qs ([]:List UInt8),qs ([]:List UInt8)],[qi 0,qs ([]:List UInt8),qs ([]:List UInt8)]],[]⟩ (kE ⟨[0,1],2,[],0⟩)<|za<|za<|rs [] [(0,qs a0),(2,qp 0),(5,qp 1),(13,qb (a0==([]:List UInt8)))] (kE ⟨[0,1],2,[],0⟩)<|bF h (fun h=>za<|rm [] [(2,qp 0),(3,qs ([]:List UInt8)),(4,qi 3)] ⟨[[qi 0,qs ([]:List UInt8),qs ([]:List UInt8)]],[]⟩ (kE ⟨[0],2,[],0⟩)<|zh<|by cases h; exact rt ⟨[],1,[],0⟩) fun h=>zg<|za<|bE h fun x1 hx1 h=>rs [] [(0,qs a0),(2,qp 0),(5,qp 1),(6,qi (IntKind.wrap .i64 x1))] (kP 1 (z7 hx1)<|kE ⟨[0,1],2,[],0⟩)<|za<|za<|rs [6] [(0,qs a0),(2,qp 0),(5,qp 1),(20,qb ((xJ .i64 (IntKind.wrap .i64 x1) 31)==31))] (kE ⟨[0,1],2,[],0⟩)<|bF h (fun h=>za<|rm [] [(2,qp 0),(3,qs ([]:List UInt8)),(4,qi 5)] ⟨[[qi 0,qs ([]:List UInt8),qs ([]:List UInt8)]],[]⟩ (kE ⟨[0],2,[],0⟩)<|zh<|by cases h; exact rt ⟨[],1,[],0⟩) fun h=>zg<|za<|za<|rs [6] [(0,qs a0),(2,qp 0),(5,qp 1),(24,qb (decide ((List.length a0:Int)<2)))] (kE ⟨[0,1],2,[],0⟩)<|bF h (fun h=>za<|rm [] [(2,qp 0),(3,qs ([]:List UInt8)),(4,qi 3)] ⟨[[qi 0,qs ([]:List UInt8),qs ([]:List UInt8)]],[]⟩ (kE ⟨[0],2,[],0⟩)<|zh<|by cases h; exact rt ⟨[],1,[],0⟩) fun h=>zg<|za<|bE h fun x2 hx2 h=>rs [6] [(0,qs a0),(2,qp 0),(5,qp 1),(7,qi (IntKind.wrap .i64 x2)),(8,qi 2)] (kP 1 (z7 hx2)<|kE ⟨[0,1],2,[],0⟩)<|za<|za<|bE h fun y4 hE h=>reg ⟨99,[(0,qs a0),(2,qp 0),(5,qp 1),(6,qi (IntKind.wrap .i64 x1)),(7,qi (IntKind.wrap .i64 x2)),(8,qi 2),(34,qb y4)]⟩ ⟨[[qi 0,qs ([]:List UInt8),qs ([]:List UInt8)],[qi 0,qs ([]:List UInt8),qs ([]:List UInt8)]],[]⟩ (have h:=hE; gF 3 31 h (fun h=>by cases h; exact kE ⟨[0,1],2,[],0⟩) fun h=>by cases h; exact kE ⟨[0,1],2,[],0⟩)<|bF h (fun h=>za<|rm [] [(2,qp 0),(3,qs ([]:List UInt8)),(4,qi 6)] ⟨[[qi 0,qs ([]:List UInt8),qs ([]:List UInt8)]],[]⟩ (kE ⟨[0],2,[],0⟩)<|zh<|by cases h; exact rt ⟨[],1,[],0⟩) fun h=>zg<|za<|za<|rs [6,7] [(0,qs a0),(2,qp 0),(5,qp 1),(8,qi 2),(37,qb (decide ((IntKind.wrap .i64 x2)>128)))] (kE ⟨[0,1],2,[],0⟩)<|cuC h (fun y30=>⟨99,[(0,qs a0),(2,qp 0),(5,qp 1),(6,qi (IntKind.wrap .i64 x1)),(7,qi y30.1),(8,qi y30.2)]⟩) (fun y30=>⟨[[qi 0,qs ([]:List UInt8),qs ([]:List UInt8)],[qi 0,qs ([]:List UInt8),qs ([]:List UInt8)]],[]⟩) (fun o31 h hr32=>bF h (fun h=>za<|rs [6] [(0,qs a0),(2,qp 0),(5,qp 1),(8,qi 2),(9,qi (IntKind.wrap .i64 ((IntKind.wrap .i64 x2)-128)))] (kE ⟨[0,1],2,[],0⟩)<|za<|za<|rs [6,9] [(0,qs a0),(2,qp 0),(5,qp 1),(8,qi 2),(44,qb (decide ((List.length a0:Int)<(IntKind.wrap .i64 ((2:Int)+(IntKind.wrap .i64 ((IntKind.wrap .i64 x2)-128)))))))] (kE ⟨[0,1],2,[],0⟩)<|bF h (fun h=>za<|rm [] [(2,qp 0),(3,qs ([]:List UInt8)),(4,qi 3)] ⟨[[qi 0,qs ([]:List UInt8),qs ([]:List UInt8)]],[]⟩ (kE ⟨[0],2,[],0⟩)<|zh<|have h:=hr32 _ (sI h); zQ<|by cases h; exact rt ⟨[],1,[],0⟩) fun h=>zg<|za<|rs [6,9] [(0,qs a0),(2,qp 0),(5,qp 1),(7,qi 0),(8,qi 2)] (kE ⟨[0,1],2,[],0⟩)<|za<|za<|bE h fun x33 hx33 h=>rs [6,9] [(0,qs a0),(2,qp 0),(5,qp 1),(7,qi 0),(8,qi 2),(50,ql 1 (cI .u8) (s2b x33)),(51,qi (List.length (s2b x33):Int)),(52,qi 0)] (kP 3 (vO (k:= .i64) (k':= .i64) hx33)<|kS 4 x33<|kP 5 (zU (c:=(cI .u8)) (l:=s2b x33) (e:=5) (sz:=1) (sz':=1) (b:=1) (tok:= .none))<|kE ⟨[0,1],2,[],0⟩)<|blE h (fun y43=>⟨99,[(0,qs a0),(2,qp 0),(5,qp 1),(6,qi (IntKind.wrap .i64 x1)),(7,qi y43),(8,qi 2),(9,qi (IntKind.wrap .i64 ((IntKind.wrap .i64 x2)-128)))]⟩) (fun y43=>⟨[[qi 0,qs ([]:List UInt8),qs ([]:List UInt8)],[qi 0,qs ([]:List UInt8),qs ([]:List UInt8)]],[]⟩) (fun y43 h=>zN (X:=(Int×Int)) (fun x=>⟨99,[(0,qs a0),(2,qp 0),(5,qp 1),(6,qi (IntKind.wrap .i64 x1)),(7,qi x.1),(8,qi 2),(9,qi (IntKind.wrap .i64 ((IntKind.wrap .i64 x2)-128))),(50,ql 1 (cI .u8) (s2b x33)),(51,qi (List.length (s2b x33):Int)),(52,qi x.2)]⟩) (fun x=>⟨[[qi 0,qs ([]:List UInt8),qs ([]:List UInt8)],[qi 0,qs ([]:List UInt8),qs ([]:List UInt8)]],[]⟩) (fun k x=>jm n x33 k x.1 x.2=some y43) (fun _ hx=>by simp [jm]at hx) n (0,0) h (wk ⟨[0,1],2,[],0⟩) (fun k x h=>by obtain⟨v47,v48⟩:=x; rw [jm]at h; exact za<|rs [6,9,50,51] [(0,qs a0),(2,qp 0),(5,qp 1),(7,qi v47),(8,qi 2),(52,qi v48),(53,qb (decide (v48<(List.length (s2b x33):Int))))] (kE ⟨[0,1],2,[],0⟩)<|za<|bF h (fun h=>zg<|za<|zx<|za<|bE h fun x52 hx52 h=>rs [6,9,50,51] [(0,qs a0),(2,qp 0),(5,qp 1),(7,qi v47),(8,qi 2),(11,qu x52),(52,qi v48)] (kP 0 (zz (c:=(cI .u8)) (e:=5) (sz:=1) (b:=1) (tok:= .none) hx52)<|kE ⟨[0,1],2,[],0⟩)<|rsN zP [6,9,50,51] [(0,qs a0),(2,qp 0),(5,qp 1),(7,qi (ior .i64 (IntKind.wrap .i64 (v47*256)) (IntKind.wrap .i64 x52))),(8,qi 2),(52,qi v48)] (kE ⟨[0,1],2,[],0⟩)<|zy<|rsN zp [6,7,9,50,51] [(0,qs a0),(2,qp 0),(5,qp 1),(8,qi 2),(52,qi (IntKind.wrap .i64 (v48+1)))] (kE ⟨[0,1],2,[],0⟩)<|⟨(ior .i64 (IntKind.wrap .i64 (v47*256)) (IntKind.wrap .i64 x52),IntKind.wrap .i64 (v48+1)),h,wk ⟨[0,1],2,[],0⟩⟩) fun h=>zL<|zw<|zv<|⟨v47,sI h,wk ⟨[0,1],2,[],0⟩⟩)) fun y43 h=>za<|rs [6,9] [(0,qs a0),(2,qp 0),(5,qp 1),(7,qi y43),(8,qi (IntKind.wrap .i64 ((2:Int)+(IntKind.wrap .i64 ((IntKind.wrap .i64 x2)-128)))))] (kE ⟨[0,1],2,[],0⟩)<|za<|bE h fun y55 hE h=>reg ⟨99,[(0,qs a0),(2,qp 0),(5,qp 1),(6,qi (IntKind.wrap .i64 x1)),(7,qi y43),(8,qi (IntKind.wrap .i64 ((2:Int)+(IntKind.wrap .i64 ((IntKind.wrap .i64 x2)-128))))),(72,qb y55)]⟩ ⟨[[qi 0,qs ([]:List UInt8),qs ([]:List UInt8)],[qi 0,qs ([]:List UInt8),qs ([]:List UInt8)]],[]⟩ (have h:=hE; bE h fun r53 hr53 h=>kC 2 ⟨[],2,[],0⟩ (WZ hr53)<|gF 5 69 h (fun h=>by cases h; exact kE ⟨[0,1],2,[],0⟩) fun h=>by cases h; exact kE ⟨[0,1],2,[],0⟩)<|bF h (fun h=>za<|rm [] [(2,qp 0),(3,qs ([]:List UInt8)),(4,qi 6)] ⟨[[qi 0,qs ([]:List UInt8),qs ([]:List UInt8)]],[]⟩ (kE ⟨[0],2,[],0⟩)<|zh<|have h:=hr32 _ (sI h); zQ<|by cases h; exact rt ⟨[],1,[],0⟩) fun h=>zg<|⟨(y43,IntKind.wrap .i64 ((2:Int)+(IntKind.wrap .i64 ((IntKind.wrap .i64 x2)-128)))),sI h,wk ⟨[0,1],2,[],0⟩⟩) fun h=>zg<|⟨(IntKind.wrap .i64 x2,2),sI h,wk ⟨[0,1],2,[],0⟩⟩) fun y30 h=>za<|za<|rs [6,7,8] [(0,qs a0),(2,qp 0),(5,qp 1),(79,qb (decide ((IntKind.wrap .i64 ((List.length a0:Int)-y30.2))<y30.1)))] (kE ⟨[0,1],2,[],0⟩)<|bF h (fun h=>za<|rm [] [(2,qp 0),(3,qs ([]:List UInt8)),(4,qi 3)] ⟨[[qi 0,qs ([]:List UInt8),qs ([]:List UInt8)]],[]⟩ (kE ⟨[0],2,[],0⟩)<|zh<|by cases h; exact rt ⟨[],1,[],0⟩) fun h=>zg<|za<|bE h fun x56 hx56 h=>bE h fun x57 hx57 h=>bE h fun x58 hx58 h=>zm [0,1,2,3,4,5,6,7,8,9,10,11,12,13,14,15,16,17,18,19,20] [18] [[],[],[],[],[],[3,4],[1,2,3,4,5],[],[],[],[8,9],[7,8,9,10],[0,1,2,3,4,5,6,7,8,9,10,11],[],[],[],[14,15],[13,14,15,16],[0,1,2,3,4,5,6,7,8,9,10,11,12],[0,1,2,3,4,5,6,7,8,9,10,11,12,13,14,15,16,17,18],[0,1,2,3,4,5,6,7,8,9,10,11,12,13,14,15,16,17,18,19]] [] [(2,qp 0),(3,qs x58),(4,qi 0)] ⟨[[qi (IntKind.wrap .i64 x1),qs x56,qs x57]],[]⟩ (dS [0,1,2,3,4,5]<|dP (vO (k:= .i64) (k':= .i64) hx56)<|dS [7,8,9,10]<|dP (ve (k:= .i64) hx57)<|dS [12,13,14,15,16]<|dP (wM (k:= .i64) hx58)<|dF (zF 17 (wM (k:= .i64) hx58) (zF 11 (ve (k:= .i64) hx57) (zF 6 (vO (k:= .i64) (k':= .i64) hx56) xI)))<|dS [19,20]<|dE ⟨[0],2,[],0⟩)<|zh<|by cases h; exact rt ⟨[],1,[],0⟩
def jH (n:Nat) (a0:(List UInt8)):Option (zc×Int):=
 (qK n a0).bind fun r1=>
 if(r1.2.2 !=0)=true then(some ((zc.mk 0 ([]:List UInt8) ([]:List UInt8)),r1.2.2))else(if(!(r1.2.1==([]:List UInt8)))=true then(some ((zc.mk 0 ([]:List UInt8) ([]:List UInt8)),4))else(some (r1.1,0)))
theorem qB {n:Nat} {a0:(List UInt8)} {r:(zc×Int)} (h:jH n a0=some r):AC mx 136 [qs a0] [] (.tuple [.agg (zc.cells r.1),qi r.2]) []:=by
 delta jH at h
 exact fnc Tryz.func136 rfl<|za<|rm [] [(0,qs a0),(2,qp 0)] ⟨[[qi 0,qs ([]:List UInt8),qs ([]:List UInt8)]],[]⟩ (kE ⟨[0],1,[],0⟩)<|za<|bE h fun r1 hr1 h=>rm [] [(2,qp 0),(4,qp 1),(5,qs r1.2.1),(6,qi r1.2.2)] ⟨[[qi 0,qs ([]:List UInt8),qs ([]:List UInt8)],zc.cells r1.1],[]⟩ (kC 1 ⟨[],1,[],0⟩ (dr hr1)<|kE ⟨[0,1],2,[],0⟩)<|za<|za<|rs [5,6] [(2,qp 0),(4,qp 1),(14,qb (r1.2.2 !=0))] (kE ⟨[0,1],2,[],0⟩)<|bF h (fun h=>za<|rm [] [(2,qp 0),(3,qi r1.2.2)] ⟨[[qi 0,qs ([]:List UInt8),qs ([]:List UInt8)]],[]⟩ (kE ⟨[0],2,[],0⟩)<|zh<|by cases h; exact rt ⟨[],1,[],0⟩) fun h=>zg<|za<|za<|rs [] [(2,qp 0),(4,qp 1),(18,qb (!(r1.2.1==([]:List UInt8))))] (kE ⟨[0,1],2,[],0⟩)<|bF h (fun h=>za<|rm [] [(2,qp 0),(3,qi 4)] ⟨[[qi 0,qs ([]:List UInt8),qs ([]:List UInt8)]],[]⟩ (kE ⟨[0],2,[],0⟩)<|zh<|by cases h; exact rt ⟨[],1,[],0⟩) fun h=>zg<|za<|rm [] [(2,qp 0),(3,qi 0)] ⟨[zc.cells r1.1],[]⟩ (kE ⟨[0],2,[],0⟩)<|zh<|by cases h; exact rt ⟨[],1,[],0⟩
def ux (n:Nat) (rc:zc→Int→Option Int) (a1:Int):Nat→(List UInt8)→Option (Ctl Int Unit)
 |0,_=>none
 | k+1,v21=>
  if(!(v21==([]:List UInt8)))=true then((qK n v21).bind fun r28=>
  if(r28.2.2 !=0)=true then(some (.ret r28.2.2))else(if(decide (a1≥16))=true then(some (.ret 8))else((rc r28.1 (IntKind.wrap .i64 (a1+1))).bind fun r29=>
  if(r29 !=0)=true then(some (.ret r29))else(ux n rc a1 k r28.2.1))))else(some (.nxt ()))
def uA (n:Nat):Nat→zc→Int→Option Int
 |0,_,_=>none
 | kk+1,a0,a1=>
  if((xJ .i64 a0.zG 32)==0)=true then(some 0)else(ym (ux n (uA n kk) a1 n a0.zj) (fun r=>some r) (fun y14=>
  some 0))
theorem X1 {n:Nat}:∀(kk:Nat) {a0:zc} {a1:Int} {r:Int} (_:uA n kk a0 a1=some r),AC mx 191 [.agg (zc.cells a0),qi a1] [] (qi r) []:=by
 intro kk
 induction kk with
 |zero=>intro a0 a1 r h; simp [uA]at h
 | succ kk ih=>
  intro a0 a1 r h
  rw [uA]at h
  exact fnc Tryz.func191 rfl<|za<|rm [] [(1,qi a1),(2,qp 0)] ⟨[zc.cells a0],[]⟩ (kE ⟨[0],1,[],0⟩)<|za<|za<|rs [] [(1,qi a1),(2,qp 0),(13,qb ((xJ .i64 a0.zG 32)==0))] (kE ⟨[0],1,[],0⟩)<|bF h (fun h=>za<|rm [] [(4,qi 0)] ⟨[],[]⟩ (kE ⟨[],1,[],0⟩)<|zh<|by cases h; exact rt ⟨[],0,[],0⟩) fun h=>zg<|za<|za<|rm [] [(1,qi a1),(5,qs a0.zj)] ⟨[],[]⟩ (kE ⟨[],1,[],0⟩)<|blC h (fun _=>⟨37,[]⟩) (fun _=>⟨[],[]⟩) (fun o15 h hr16=>zN (X:=(List UInt8)) (fun x=>⟨37,[(1,qi a1),(5,qs x)]⟩) (fun x=>⟨[],[]⟩) (fun k x=>ux n (uA n kk) a1 k x=some o15) (fun _ hx=>by simp [ux]at hx) n a0.zj h (wk ⟨[],0,[],0⟩) (fun k x h=>by revert h; revert x; intro v21 h; rw [ux]at h; exact za<|za<|rs [] [(1,qi a1),(5,qs v21),(17,qb (!(v21==([]:List UInt8))))] (kE ⟨[],0,[],0⟩)<|bF h (fun h=>zg<|zx<|za<|bE h fun r28 hr28 h=>rm [] [(1,qi a1),(6,qp 0),(7,qs r28.2.1),(8,qi r28.2.2)] ⟨[zc.cells r28.1],[]⟩ (kC 1 ⟨[],0,[],0⟩ (dr hr28)<|kE ⟨[0],1,[],0⟩)<|za<|za<|rs [7,8] [(1,qi a1),(6,qp 0),(25,qb (r28.2.2 !=0))] (kE ⟨[0],1,[],0⟩)<|bF h (fun h=>za<|rm [] [(4,qi r28.2.2)] ⟨[],[]⟩ (kE ⟨[],1,[],0⟩)<|zh<|zO<|zQ<|have h:=hr16 _ (sI h); zH<|by cases h; exact rt ⟨[],0,[],0⟩) fun h=>zg<|za<|za<|rs [7] [(1,qi a1),(6,qp 0),(28,qb (decide (a1≥16)))] (kE ⟨[0],1,[],0⟩)<|bF h (fun h=>za<|rm [] [(4,qi 8)] ⟨[],[]⟩ (kE ⟨[],1,[],0⟩)<|zh<|zO<|zQ<|have h:=hr16 _ (sI h); zH<|by cases h; exact rt ⟨[],0,[],0⟩) fun h=>zg<|za<|za<|bE h fun r29 hr29 h=>rm [7] [(1,qi a1),(9,qi r29)] ⟨[],[]⟩ (kC 3 ⟨[],1,[],0⟩ (ih hr29)<|kE ⟨[],1,[],0⟩)<|za<|rs [7] [(1,qi a1),(9,qi r29),(34,qb (r29 !=0))] (kE ⟨[],0,[],0⟩)<|bF h (fun h=>za<|rs [] [(4,qi r29)] (kE ⟨[],0,[],0⟩)<|zh<|zO<|zQ<|have h:=hr16 _ (sI h); zH<|by cases h; exact rt ⟨[],0,[],0⟩) fun h=>zg<|rsN (ju (P:=Tryz.prog) (gl:=gl0 mx) zp) [] [(1,qi a1),(5,qs r28.2.1)] (kE ⟨[],0,[],0⟩)<|zy<|⟨r28.2.1,h,wk ⟨[],0,[],0⟩⟩) fun h=>zL<|zw<|zv<|⟨(),sI h,wk ⟨[],0,[],0⟩⟩)) fun y14 h=>za<|rs [] [(4,qi 0)] (kE ⟨[],0,[],0⟩)<|zh<|by cases h; exact rt ⟨[],0,[],0⟩
def jz (n:Nat) (a0:(List UInt8)):Option Int:=
 (jH n a0).bind fun r1=>
 if(r1.2 !=0)=true then(some r1.2)else((uA n n r1.1 1).bind fun r2=>
 some r2)
theorem gI {n:Nat} {a0:(List UInt8)} {r:Int} (h:jz n a0=some r):AC mx 135 [qs a0] [] (qi r) []:=by
 delta jz at h
 exact fnc Tryz.func135 rfl<|za<|rs [] [(0,qs a0)] (kE ⟨[],0,[],0⟩)<|za<|bE h fun r1 hr1 h=>rm [] [(3,qp 0),(4,qi r1.2)] ⟨[zc.cells r1.1],[]⟩ (kC 1 ⟨[],0,[],0⟩ (qB hr1)<|kE ⟨[0],1,[],0⟩)<|za<|za<|rs [4] [(3,qp 0),(11,qb (r1.2 !=0))] (kE ⟨[0],1,[],0⟩)<|bF h (fun h=>za<|rm [] [(2,qi r1.2)] ⟨[],[]⟩ (kE ⟨[],1,[],0⟩)<|zh<|by cases h; exact rt ⟨[],0,[],0⟩) fun h=>zg<|za<|bE h fun r2 hr2 h=>rm [] [(2,qi r2)] ⟨[],[]⟩ (kC 1 ⟨[],1,[],0⟩ (X1 _ hr2)<|kE ⟨[],1,[],0⟩)<|zh<|by cases h; exact rt ⟨[],0,[],0⟩
def jo (n:Nat):Nat→(List UInt8)→(List zc)→Option (Ctl ((List zc)×Int) (List zc))
 |0,_,_=>none
 | k+1,v25,v26=>
  if(!(v25==([]:List UInt8)))=true then((qK n v25).bind fun r33=>
  if(r33.2.2 !=0)=true then(some (.ret (([]:(List zc)),r33.2.2)))else((q7 40 v26 ([r33.1]:List zc)).bind fun x34=>
  jo n k r33.2.1 x34))else(some (.nxt v26))
def je (n:Nat) (a0:(List UInt8)):Option ((List zc)×Int):=
 ym (jo n  n a0 ([]:List zc)) (fun r=>some r) (fun y17=>
 some (y17,0))
theorem jZ {n:Nat} {a0:(List UInt8)} {r:((List zc)×Int)} (h:je n a0=some r):AC mx 201 [qs a0] [] (.tuple [ql 3 zc.cells r.1,qi r.2]) []:=by
 delta je at h
 exact fnc Tryz.func201 rfl<|za<|rs [] [(0,qs a0)] (kE ⟨[],0,[],0⟩)<|za<|rs [] [(0,qs a0),(4,qn)] (kE ⟨[],0,[],0⟩)<|za<|blC h (fun y17=>⟨25,[(4,.sl 3 (List.map zc.cells y17) (.fam 0 (List.length y17)))]⟩) (fun y17=>⟨[],[List.length y17]⟩) (fun o18 h hr19=>vF (wk (fr':=⟨25,[(0,qs a0),(4,qn)]⟩) (st':=⟨[],[]⟩) ⟨[],0,[],0⟩)<|vF Wk.nilFam<|zN (X:=((List UInt8)×(List zc))) (fun x=>⟨25,[(0,qs x.1),(4,.sl 3 (List.map zc.cells x.2) (.fam 0 (List.length x.2)))]⟩) (fun x=>⟨[],[List.length x.2]⟩) (fun k x=>jo n  k x.1 x.2=some o18) (fun _ hx=>by simp [jo]at hx) n (a0,([]:List zc)) h (wk ⟨[],0,[0],1⟩) (fun k x h=>by obtain⟨v25,v26⟩:=x; rw [jo]at h; exact za<|za<|rs [4] [(0,qs v25),(9,qb (!(v25==([]:List UInt8))))] (kE ⟨[],0,[0],1⟩)<|bF h (fun h=>zg<|zx<|za<|bE h fun r33 hr33 h=>rm [4] [(5,qp 0),(6,qs r33.2.1),(7,qi r33.2.2)] ⟨[zc.cells r33.1],[List.length v26]⟩ (kC 1 ⟨[],0,[],1⟩ (dr hr33)<|kE ⟨[0],1,[0],1⟩)<|za<|za<|rs [4,6,7] [(5,qp 0),(17,qb (r33.2.2 !=0))] (kE ⟨[0],1,[0],1⟩)<|bF h (fun h=>za<|rm [] [(2,qn),(3,qi r33.2.2)] ⟨[],[]⟩ (kE ⟨[],1,[],1⟩)<|zh<|zO<|zQ<|have h:=hr19 _ (sI h); zH<|by cases h; exact rt ⟨[],0,[],0⟩) fun h=>zg<|za<|bE h fun x34 hx34 h=>rm [6] [(4,.sl 3 (List.map zc.cells x34) (.fam 0 (List.length x34)))] ⟨[],[List.length x34]⟩ (kA 3 0 zc.cells (e:=103) (e2:=103) (sz:=3) (bytes:=40) (b2:=40) (tok2:= .exact) hx34<|kE ⟨[],1,[0],1⟩)<|rsN (ju (P:=Tryz.prog) (gl:=gl0 mx) zp) [4] [(0,qs r33.2.1)] (kE ⟨[],0,[0],1⟩)<|zy<|⟨(r33.2.1,x34),h,wk ⟨[],0,[0],1⟩⟩) fun h=>zL<|zw<|zv<|⟨v26,sI h,wk ⟨[],0,[0],1⟩⟩)) fun y17 h=>za<|rs [] [(2,.sl 3 (List.map zc.cells y17) (.fam 0 (List.length y17))),(3,qi 0)] (kE ⟨[],0,[0],1⟩)<|zh<|by cases h; exact rt ⟨[],0,[],1⟩
def uw (n:Nat) (a0:(List UInt8)):Option ze:=
 (je n a0).bind fun r1=>
 some (ze.mk r1.1 (r1.2 !=0))
theorem kq {n:Nat} {a0:(List UInt8)} {r:ze} (h:uw n a0=some r):AC mx 165 [qs a0] [] (qp 0) [ze.cells r]:=by
 delta uw at h
 exact fnc Tryz.func165 rfl<|za<|rs [] [(0,qs a0)] (kE ⟨[],0,[],0⟩)<|za<|bE h fun r1 hr1 h=>rs [] [(3,ql 3 zc.cells r1.1),(4,qi r1.2)] (kC 1 ⟨[],0,[],0⟩ (jZ hr1)<|kE ⟨[],0,[],0⟩)<|za<|rm [] [(2,qp 0)] ⟨[[ql 3 zc.cells r1.1,qb (r1.2 !=0)]],[]⟩ (kE ⟨[0],1,[],0⟩)<|zh<|by cases h; exact rt ⟨[0],1,[],0⟩
def wU (n:Nat) (a0:zc):Option ze:=
 (uw n a0.zj).bind fun r1=>
 (if r1.zY=true then(some true)else(some (a0.zG !=48))).bind fun y3=>
 some (ze.mk r1.f_l y3)
theorem u0 {n:Nat} {a0:zc} {r:ze} (h:wU n a0=some r):AC mx 137 [.agg (zc.cells a0)] [] (qp 0) [ze.cells r]:=by
 delta wU at h
 exact fnc Tryz.func137 rfl<|za<|rm [] [(1,qp 0)] ⟨[zc.cells a0],[]⟩ (kE ⟨[0],1,[],0⟩)<|za<|bE h fun r1 hr1 h=>rm [] [(1,qp 0),(3,qp 1)] ⟨[zc.cells a0,ze.cells r1],[]⟩ (kC 2 ⟨[],1,[],0⟩ (kq hr1)<|kE ⟨[0,1],2,[],0⟩)<|za<|bE h fun y3 hE h=>reg ⟨20,[(3,qp 0)]⟩ ⟨[[ql 3 zc.cells r1.f_l,qb y3]],[]⟩ (have h:=hE; gF 6 12 h (fun h=>by cases h; exact kE ⟨[1],2,[],0⟩) fun h=>by cases h; exact kE ⟨[1],2,[],0⟩)<|za<|rs [] [(2,qp 0)] (kE ⟨[0],1,[],0⟩)<|zh<|by cases h; exact rt ⟨[0],1,[],0⟩
def ya (n:Nat) (m0:ze):Option (zc×ze):=
 if((List.length m0.f_l:Int)==0)=true then(some ((zc.mk 0 ([]:List UInt8) ([]:List UInt8)),(ze.mk m0.f_l true)))else((zX m0.f_l 0).bind fun x1=>
 (lsl m0.f_l 1 (List.length m0.f_l)).bind fun x2=>
 some (x1,(ze.mk x2 m0.zY)))
theorem xc {n:Nat} {m0:ze} {r:(zc×ze)} (h:ya n m0=some r):AC mx 138 [qp 0] [ze.cells m0] (.agg (zc.cells r.1)) [ze.cells r.2]:=by
 delta ya at h
 exact fnc Tryz.func138 rfl<|za<|rm [] [(0,qp 0),(2,qp 1)] ⟨[ze.cells m0,[qi 0,qs ([]:List UInt8),qs ([]:List UInt8)]],[]⟩ (kE ⟨[0,1],2,[],0⟩)<|za<|za<|rs [] [(0,qp 0),(2,qp 1),(9,qb ((List.length m0.f_l:Int)==0))] (kP 4 (zU (c:=zc.cells) (l:=m0.f_l) (e:=103) (sz:=3) (sz':=3) (b:=40) (tok:= .none))<|kE ⟨[0,1],2,[],0⟩)<|bF h (fun h=>za<|rm [] [(2,qp 1)] ⟨[[ql 3 zc.cells m0.f_l,qb true],[qi 0,qs ([]:List UInt8),qs ([]:List UInt8)]],[]⟩ (kE ⟨[0,1],2,[],0⟩)<|za<|rs [] [(2,qp 1)] (kE ⟨[0,1],2,[],0⟩)<|zh<|by cases h; exact rt ⟨[0],2,[],0⟩) fun h=>zg<|za<|bE h fun x1 hx1 h=>rm [] [(0,qp 0),(2,qp 1),(3,qp 2)] ⟨[ze.cells m0,[qi 0,qs ([]:List UInt8),qs ([]:List UInt8)],zc.cells x1],[]⟩ (kP 4 (zz (c:=zc.cells) (e:=103) (sz:=3) (b:=40) (tok:= .none) hx1)<|kE ⟨[0,1,2],3,[],0⟩)<|za<|bE h fun x2 hx2 h=>rm [] [(2,qp 1),(3,qp 2)] ⟨[[ql 3 zc.cells x2,qb m0.zY],[qi 0,qs ([]:List UInt8),qs ([]:List UInt8)],zc.cells x1],[]⟩ (kP 5 (ub (k:= .i64) (c:=zc.cells) (e:=103) (sz:=3) (b:=40) (tok:= .none) hx2)<|kE ⟨[0,1,2],3,[],0⟩)<|za<|rm [] [(2,qp 1)] ⟨[[ql 3 zc.cells x2,qb m0.zY],zc.cells x1],[]⟩ (kE ⟨[0,1],3,[],0⟩)<|zh<|by cases h; exact rt ⟨[0],2,[],0⟩
def jE (n:Nat) (a0:(List UInt8)):Nat→Int→Int→Option (Ctl Int Int)
 |0,_,_=>none
 | k+1,v31,v32=>
  if(decide (v32<(List.length (s2b a0):Int)))=true then((zX (s2b a0) v32).bind fun x42=>
  (if(decide (x42<48))=true then(some true)else(some (decide (x42>57)))).bind fun y44=>
  if y44=true then(some (.ret (-1)))else(jE n a0 k (IntKind.wrap .i64 ((IntKind.wrap .i64 ((10:Int)*v31))+(IntKind.wrap .i64 (IntKind.wrap .u8 (x42-48))))) (IntKind.wrap .i64 (v32+1))))else(some (.nxt v31))
def uM (n:Nat) (a0:(List UInt8)):Option Int:=
 ym (jE n a0 n 0 0) (fun r=>some r) (fun y22=>
 some y22)
theorem uT {n:Nat} {a0:(List UInt8)} {r:Int} (h:uM n a0=some r):AC mx 193 [qs a0] [] (qi r) []:=by
 delta uM at h
 exact fnc Tryz.func193 rfl<|za<|rs [] [(0,qs a0)] (kE ⟨[],0,[],0⟩)<|za<|rs [] [(0,qs a0),(3,qi 0)] (kE ⟨[],0,[],0⟩)<|za<|za<|rs [] [(3,qi 0),(7,ql 1 (cI .u8) (s2b a0)),(8,qi (List.length (s2b a0):Int)),(9,qi 0)] (kS 1 a0<|kP 2 (zU (c:=(cI .u8)) (l:=s2b a0) (e:=5) (sz:=1) (sz':=1) (b:=1) (tok:= .none))<|kE ⟨[],0,[],0⟩)<|blC h (fun y22=>⟨27,[(3,qi y22)]⟩) (fun y22=>⟨[],[]⟩) (fun o23 h hr24=>zN (X:=(Int×Int)) (fun x=>⟨27,[(3,qi x.1),(7,ql 1 (cI .u8) (s2b a0)),(8,qi (List.length (s2b a0):Int)),(9,qi x.2)]⟩) (fun x=>⟨[],[]⟩) (fun k x=>jE n a0 k x.1 x.2=some o23) (fun _ hx=>by simp [jE]at hx) n (0,0) h (wk ⟨[],0,[],0⟩) (fun k x h=>by obtain⟨v31,v32⟩:=x; rw [jE]at h; exact za<|rs [7,8] [(3,qi v31),(9,qi v32),(10,qb (decide (v32<(List.length (s2b a0):Int))))] (kE ⟨[],0,[],0⟩)<|za<|bF h (fun h=>zg<|za<|zx<|za<|bE h fun x42 hx42 h=>rs [7,8] [(3,qi v31),(5,qu x42),(9,qi v32)] (kP 0 (zz (c:=(cI .u8)) (e:=5) (sz:=1) (b:=1) (tok:= .none) hx42)<|kE ⟨[],0,[],0⟩)<|za<|za<|bE h fun y44 hE h=>reg ⟨27,[(3,qi v31),(5,qu x42),(7,ql 1 (cI .u8) (s2b a0)),(8,qi (List.length (s2b a0):Int)),(9,qi v32),(18,qb y44)]⟩ ⟨[],[]⟩ (have h:=hE; gF 3 15 h (fun h=>by cases h; exact kE ⟨[],0,[],0⟩) fun h=>by cases h; exact kE ⟨[],0,[],0⟩)<|bF h (fun h=>za<|rs [] [(2,qi (-1))] (kE ⟨[],0,[],0⟩)<|zh<|zO<|zQ<|have h:=hr24 _ (sI h); zH<|by cases h; exact rt ⟨[],0,[],0⟩) fun h=>zg<|rsN zP [7,8] [(3,qi (IntKind.wrap .i64 ((IntKind.wrap .i64 ((10:Int)*v31))+(IntKind.wrap .i64 (IntKind.wrap .u8 (x42-48)))))),(9,qi v32)] (kE ⟨[],0,[],0⟩)<|zy<|rsN zp [3,7,8] [(9,qi (IntKind.wrap .i64 (v32+1)))] (kE ⟨[],0,[],0⟩)<|⟨(IntKind.wrap .i64 ((IntKind.wrap .i64 ((10:Int)*v31))+(IntKind.wrap .i64 (IntKind.wrap .u8 (x42-48)))),IntKind.wrap .i64 (v32+1)),h,wk ⟨[],0,[],0⟩⟩) fun h=>zL<|zw<|zv<|⟨v31,sI h,wk ⟨[],0,[],0⟩⟩)) fun y22 h=>za<|rs [] [(2,qi y22)] (kE ⟨[],0,[],0⟩)<|zh<|by cases h; exact rt ⟨[],0,[],0⟩
def pt (n:Nat) (a0:Int) (a1:(List UInt8)):Option yR:=
 (ssl a1 0 2).bind fun x1=>
 (ssl a1 2 4).bind fun x2=>
 (ssl a1 4 6).bind fun x3=>
 (ssl a1 6 8).bind fun x4=>
 (ssl a1 8 10).bind fun x5=>
 (uM n x1).bind fun r6=>
 (uM n x2).bind fun r7=>
 (uM n x3).bind fun r8=>
 (uM n x4).bind fun r9=>
 (uM n x5).bind fun r10=>
 some (yR.mk a0 r6 r7 r8 r9 r10)
theorem Wj {n:Nat} {a0:Int} {a1:(List UInt8)} {r:yR} (h:pt n a0 a1=some r):AC mx 195 [qi a0,qs a1] [] (.agg (yR.cells r)) []:=by
 delta pt at h
 exact fnc Tryz.func195 rfl<|za<|rm [] [(0,qi a0),(1,qs a1),(4,qp 0)] ⟨[[qi 0,qi 0,qi 0,qi 0,qi 0,qi 0]],[]⟩ (kE ⟨[0],1,[],0⟩)<|za<|bE h fun x1 hx1 h=>bE h fun x2 hx2 h=>bE h fun x3 hx3 h=>bE h fun x4 hx4 h=>bE h fun x5 hx5 h=>bE h fun r6 hr6 h=>bE h fun r7 hr7 h=>bE h fun r8 hr8 h=>bE h fun r9 hr9 h=>bE h fun r10 hr10 h=>zm [0,1,2,4,5,7,8,10,11,13,14,3,6,9,12,15,16,17] [3,6,9,12,15,17] [[],[],[1],[1,2],[],[4],[1,2,3,4,5],[],[7],[1,2,3,4,5,6,7,8],[],[10],[1,2,3,4,5,6,7,8,9,10,11],[],[13],[1,2,3,4,5,6,7,8,9,10,11,12,13,14],[0,1,2,3,4,5,6,7,8,9,10,11,12,13,14,15],[0,1,2,3,4,5,6,7,8,9,10,11,12,13,14,15,16]] [] [(4,qp 0)] ⟨[[qi a0,qi r6,qi r7,qi r8,qi r9,qi r10]],[]⟩ (dS [0,1]<|dP (ve (k:= .i64) hx1)<|dS [4]<|dP (vO (k:= .i64) (k':= .i64) hx2)<|dS [7]<|dP (vO (k:= .i64) (k':= .i64) hx3)<|dS [10]<|dP (vO (k:= .i64) (k':= .i64) hx4)<|dS [13]<|dP (vO (k:= .i64) (k':= .i64) hx5)<|dC (zF 14 (vO (k:= .i64) (k':= .i64) hx5) (zF 11 (vO (k:= .i64) (k':= .i64) hx4) (zF 8 (vO (k:= .i64) (k':= .i64) hx3) (zF 5 (vO (k:= .i64) (k':= .i64) hx2) (zF 2 (ve (k:= .i64) hx1) xI))))) ⟨[],1,[],0⟩ (uT hr6)<|dC (zF 14 (vO (k:= .i64) (k':= .i64) hx5) (zF 11 (vO (k:= .i64) (k':= .i64) hx4) (zF 8 (vO (k:= .i64) (k':= .i64) hx3) (zF 5 (vO (k:= .i64) (k':= .i64) hx2) (zF 2 (ve (k:= .i64) hx1) xI))))) ⟨[],1,[],0⟩ (uT hr7)<|dC (zF 14 (vO (k:= .i64) (k':= .i64) hx5) (zF 11 (vO (k:= .i64) (k':= .i64) hx4) (zF 8 (vO (k:= .i64) (k':= .i64) hx3) (zF 5 (vO (k:= .i64) (k':= .i64) hx2) (zF 2 (ve (k:= .i64) hx1) xI))))) ⟨[],1,[],0⟩ (uT hr8)<|dC (zF 14 (vO (k:= .i64) (k':= .i64) hx5) (zF 11 (vO (k:= .i64) (k':= .i64) hx4) (zF 8 (vO (k:= .i64) (k':= .i64) hx3) (zF 5 (vO (k:= .i64) (k':= .i64) hx2) (zF 2 (ve (k:= .i64) hx1) xI))))) ⟨[],1,[],0⟩ (uT hr9)<|dC (zF 14 (vO (k:= .i64) (k':= .i64) hx5) (zF 11 (vO (k:= .i64) (k':= .i64) hx4) (zF 8 (vO (k:= .i64) (k':= .i64) hx3) (zF 5 (vO (k:= .i64) (k':= .i64) hx2) (zF 2 (ve (k:= .i64) hx1) xI))))) ⟨[],1,[],0⟩ (uT hr10)<|dS [16]<|dF (zF 14 (vO (k:= .i64) (k':= .i64) hx5) (zF 11 (vO (k:= .i64) (k':= .i64) hx4) (zF 8 (vO (k:= .i64) (k':= .i64) hx3) (zF 5 (vO (k:= .i64) (k':= .i64) hx2) (zF 2 (ve (k:= .i64) hx1) xI)))))<|dE ⟨[0],1,[],0⟩)<|zh<|by cases h; exact rt ⟨[],1,[],0⟩
def ji (n:Nat) (a0:yR):Nat→Int→Int→Option Int
 |0,_,_=>none
 | k+1,v20,v21=>
  if(decide (v21<a0.qG))=true then((j6 n a0.pu v21).bind fun r25=>
  ji n a0 k (IntKind.wrap .i64 (v20+r25)) (IntKind.wrap .i64 (v21+1)))else(some v20)
def gJ (n:Nat) (a0:yR):Option (Int×Int):=
 (if(decide (a0.pu<1950))=true then(some true)else(if(decide (a0.pu>9999))=true then(some true)else(if(decide (a0.qG<1))=true then(some true)else(if(decide (a0.qG>12))=true then(some true)else(if(decide (a0.pn<1))=true then(some true)else((j6 n a0.pu a0.qG).bind fun r1=>
 some (decide (a0.pn>r1)))))))).bind fun y3=>
 if y3=true then(some (0,12))else((if(decide (a0.bR<0))=true then(some true)else(if(decide (a0.bR>23))=true then(some true)else(if(decide (a0.j3<0))=true then(some true)else(if(decide (a0.j3>59))=true then(some true)else(if(decide (a0.j7<0))=true then(some true)else(some (decide (a0.j7>59)))))))).bind fun y5=>
 if y5=true then(some (0,12))else((qM n a0.pu).bind fun r6=>
 (ji n a0 n (IntKind.wrap .i64 ((IntKind.wrap .i64 (r6+a0.pn))-1)) 1).bind fun y16=>
 some (IntKind.wrap .i64 ((IntKind.wrap .i64 ((IntKind.wrap .i64 ((IntKind.wrap .i64 ((86400:Int)*y16))+(IntKind.wrap .i64 ((3600:Int)*a0.bR))))+(IntKind.wrap .i64 ((60:Int)*a0.j3))))+a0.j7),0)))
theorem YV {n:Nat} {a0:yR} {r:(Int×Int)} (h:gJ n a0=some r):AC mx 194 [.agg (yR.cells a0)] [] (.tuple [qi r.1,qi r.2]) []:=by
 delta gJ at h
 exact fnc Tryz.func194 rfl<|za<|rm [] [(1,qp 0)] ⟨[yR.cells a0],[]⟩ (kE ⟨[0],1,[],0⟩)<|za<|za<|bE h fun y3 hE h=>drw [0,1,2,3,4,5,6,7,8,9,10,11,12,13,14,15,16,17,18,19,20,21,22,23,24,25,26,27,28,29,30,31,32] [30] [[],[0],[0,1],[0,1,2],[0,1,2,3],[0,1,2,3,4],[0,1,2,3,4,5],[0,1,2,3,4,5,6],[0,1,2,3,4,5,6,7],[0,1,2,3,4,5,6,7,8],[0,1,2,3,4,5,6,7,8,9],[0,1,2,3,4,5,6,7,8,9,10],[0,1,2,3,4,5,6,7,8,9,10,11],[0,1,2,3,4,5,6,7,8,9,10,11,12],[0,1,2,3,4,5,6,7,8,9,10,11,12,13],[0,1,2,3,4,5,6,7,8,9,10,11,12,13,14],[0,1,2,3,4,5,6,7,8,9,10,11,12,13,14,15],[0,1,2,3,4,5,6,7,8,9,10,11,12,13,14,15,16],[0,1,2,3,4,5,6,7,8,9,10,11,12,13,14,15,16,17],[0,1,2,3,4,5,6,7,8,9,10,11,12,13,14,15,16,17,18],[0,1,2,3,4,5,6,7,8,9,10,11,12,13,14,15,16,17,18,19],[0,1,2,3,4,5,6,7,8,9,10,11,12,13,14,15,16,17,18,19,20],[0,1,2,3,4,5,6,7,8,9,10,11,12,13,14,15,16,17,18,19,20,21],[0,1,2,3,4,5,6,7,8,9,10,11,12,13,14,15,16,17,18,19,20,21,22],[0,1,2,3,4,5,6,7,8,9,10,11,12,13,14,15,16,17,18,19,20,21,22,23],[0,1,2,3,4,5,6,7,8,9,10,11,12,13,14,15,16,17,18,19,20,21,22,23,24],[0,1,2,3,4,5,6,7,8,9,10,11,12,13,14,15,16,17,18,19,20,21,22,23],[0,1,2,3,4,5,6,7,8,9,10,11,12,13,14,15,16,17,18,19,20,21,22,23,26],[0,1,2,3,4,5,6,7,8,9,10,11,12,13,14,15,16,17,18,19,20,21,22,23],[0,1,2,3,4,5,6,7,8,9,10,11,12,13,14,15,16,17,18,19,20,21,22,23,28],[0,1,2,3,4,5,6,7,8,9,10,11,12,13,14,15,16,17,18,19,20,21,22,23,26,27,28,29],[0,1,2,3,4,5,6,7,8,9,10,11,12,13,14,15,16,17,18,19,20,21,22,23,24,25,26,27,28,29,30],[0,1,2,3,4,5,6,7,8,9,10,11,12,13,14,15,16,17,18,19,20,21,22,23,24,25,26,27,28,29,30,31]] ⟨99,[(1,qp 0),(38,qb y3)]⟩ ⟨[yR.cells a0],[]⟩ (have h:=hE; dS [0,1,2,3]<|hF 9 h (fun h=>dS [4,5,6,7,8,9,10,11,12,13,14,15,16,17,18,19,20,21,22,23,24,25,26,27,28,29]<|dF xI<|dS [31,32]<|by cases h; exact dE ⟨[0],1,[],0⟩) fun h=>dS [4,5,6,7,8]<|hF 14 h (fun h=>dS [9,10,11,12,13,14,15,16,17,18,19,20,21,22,23,24,25,26,27,28,29]<|dF xI<|dS [31,32]<|by cases h; exact dE ⟨[0],1,[],0⟩) fun h=>dS [9,10,11,12,13]<|hF 19 h (fun h=>dS [14,15,16,17,18,19,20,21,22,23,24,25,26,27,28,29]<|dF xI<|dS [31,32]<|by cases h; exact dE ⟨[0],1,[],0⟩) fun h=>dS [14,15,16,17,18]<|hF 24 h (fun h=>dS [19,20,21,22,23,24,25,26,27,28,29]<|dF xI<|dS [31,32]<|by cases h; exact dE ⟨[0],1,[],0⟩) fun h=>dS [19,20,21,22,23]<|hF 29 h (fun h=>dS [24,25,26,27,28,29]<|dF xI<|dS [31,32]<|by cases h; exact dE ⟨[0],1,[],0⟩) fun h=>bE h fun r1 hr1 h=>dS [24,25,26,27,28,29]<|dC xI ⟨[],1,[],0⟩ (qF hr1)<|dS [31,32]<|by cases h; exact dE ⟨[0],1,[],0⟩)<|bF h (fun h=>za<|rm [] [(2,qi 0),(3,qi 12)] ⟨[],[]⟩ (kE ⟨[],1,[],0⟩)<|zh<|by cases h; exact rt ⟨[],0,[],0⟩) fun h=>zg<|za<|za<|bE h fun y5 hE h=>reg ⟨99,[(1,qp 0),(66,qb y5)]⟩ ⟨[yR.cells a0],[]⟩ (have h:=hE; gF 4 42 h (fun h=>by cases h; exact kE ⟨[0],1,[],0⟩) fun h=>gF 9 47 h (fun h=>by cases h; exact kE ⟨[0],1,[],0⟩) fun h=>gF 14 52 h (fun h=>by cases h; exact kE ⟨[0],1,[],0⟩) fun h=>gF 19 57 h (fun h=>by cases h; exact kE ⟨[0],1,[],0⟩) fun h=>gF 24 62 h (fun h=>by cases h; exact kE ⟨[0],1,[],0⟩) fun h=>by cases h; exact kE ⟨[0],1,[],0⟩)<|bF h (fun h=>za<|rm [] [(2,qi 0),(3,qi 12)] ⟨[],[]⟩ (kE ⟨[],1,[],0⟩)<|zh<|by cases h; exact rt ⟨[],0,[],0⟩) fun h=>zg<|za<|bE h fun r6 hr6 h=>zs [0,1,3,4,2,5,6,7] [2] [[],[0],[0,1],[],[3],[0,1,2,3,4],[0,1,2,3,4,5],[0,1,2,3,4,5,6]] [] [(1,qp 0),(4,qi (IntKind.wrap .i64 ((IntKind.wrap .i64 (r6+a0.pn))-1)))] (dS [0,1,3,4]<|dC xI ⟨[],1,[],0⟩ (bu hr6)<|dS [5,6,7]<|dE ⟨[0],1,[],0⟩)<|za<|za<|rs [4] [(1,qp 0),(5,qi 1)] (kE ⟨[0],1,[],0⟩)<|blE h (fun y16=>⟨99,[(1,qp 0),(4,qi y16)]⟩) (fun y16=>⟨[yR.cells a0],[]⟩) (fun y16 h=>zN (X:=(Int×Int)) (fun x=>⟨99,[(1,qp 0),(4,qi x.1),(5,qi x.2)]⟩) (fun x=>⟨[yR.cells a0],[]⟩) (fun k x=>ji n a0 k x.1 x.2=some y16) (fun _ hx=>by simp [ji]at hx) n (IntKind.wrap .i64 ((IntKind.wrap .i64 (r6+a0.pn))-1),1) h (wk ⟨[0],1,[],0⟩) (fun k x h=>by obtain⟨v20,v21⟩:=x; rw [ji]at h; exact za<|za<|rs [] [(1,qp 0),(4,qi v20),(5,qi v21),(77,qb (decide (v21<a0.qG)))] (kE ⟨[0],1,[],0⟩)<|bF h (fun h=>zg<|za<|zx<|bE h fun r25 hr25 h=>rsN zP [] [(1,qp 0),(4,qi (IntKind.wrap .i64 (v20+r25))),(5,qi v21)] (kC 4 ⟨[],1,[],0⟩ (qF hr25)<|kE ⟨[0],1,[],0⟩)<|zy<|rsN zp [4] [(1,qp 0),(5,qi (IntKind.wrap .i64 (v21+1)))] (kE ⟨[0],1,[],0⟩)<|⟨(IntKind.wrap .i64 (v20+r25),IntKind.wrap .i64 (v21+1)),h,wk ⟨[0],1,[],0⟩⟩) fun h=>zL<|zw<|zv<|⟨v20,sI h,wk ⟨[0],1,[],0⟩⟩)) fun y16 h=>za<|rm [] [(2,qi (IntKind.wrap .i64 ((IntKind.wrap .i64 ((IntKind.wrap .i64 ((IntKind.wrap .i64 ((86400:Int)*y16))+(IntKind.wrap .i64 ((3600:Int)*a0.bR))))+(IntKind.wrap .i64 ((60:Int)*a0.j3))))+a0.j7))),(3,qi 0)] ⟨[],[]⟩ (kE ⟨[],1,[],0⟩)<|zh<|by cases h; exact rt ⟨[],0,[],0⟩
def dG (n:Nat) (a0:Int) (a1:(List UInt8)):Option (Int×Int):=
 ym (if(a0==23)=true then(some (.nxt 2))else(if(a0==24)=true then(some (.nxt 4))else(some (.ret (0,5))))) (fun r=>some r) (fun y2=>
 (if((List.length a1:Int) !=(IntKind.wrap .i64 (y2+11)))=true then(some true)else((xD a1 (IntKind.wrap .i64 (y2+10))).bind fun x5=>
 some (x5 !=90))).bind fun y7=>
 if y7=true then(some (0,12))else((ssl a1 0 y2).bind fun x8=>
 (uM n x8).bind fun r9=>
 ym ((if(decide (r9<0))=true then(some true)else(if(y2==4)=true then(some (decide (r9<2050)))else(some false))).bind fun y23=>
 if y23=true then(some (.ret (0,12)))else((if(y2==2)=true then(some (decide (r9≥50)))else(some false)).bind fun y25=>
 if y25=true then(some (.nxt (IntKind.wrap .i64 (r9+1900))))else(if(y2==2)=true then(some (.nxt (IntKind.wrap .i64 (r9+2000))))else(some (.nxt r9))))) (fun r=>some r) (fun y19=>
 (ssl a1 y2 (List.length a1)).bind fun x26=>
 (pt n y19 x26).bind fun r27=>
 (gJ n r27).bind fun r28=>
 some (r28.1,r28.2))))
theorem Xi {n:Nat} {a0:Int} {a1:(List UInt8)} {r:(Int×Int)} (h:dG n a0 a1=some r):AC mx 139 [qi a0,qs a1] [] (.tuple [qi r.1,qi r.2]) []:=by
 delta dG at h
 exact fnc Tryz.func139 rfl<|za<|rs [] [(0,qi a0),(1,qs a1)] (kE ⟨[],0,[],0⟩)<|za<|rs [] [(0,qi a0),(1,qs a1)] (kE ⟨[],0,[],0⟩)<|za<|za<|rs [] [(1,qs a1),(8,qi a0)] (kE ⟨[],0,[],0⟩)<|blC h (fun y2=>⟨62,[(1,qs a1),(6,qi y2)]⟩) (fun y2=>⟨[],[]⟩) (fun o3 h hr4=>za<|rs [] [(1,qs a1),(8,qi a0),(9,qb (a0==23))] (kE ⟨[],0,[],0⟩)<|bF h (fun h=>rsN wc [] [(1,qs a1),(6,qi 2)] (kE ⟨[],0,[],0⟩)<|⟨2,sI h,wk ⟨[],0,[],0⟩⟩) fun h=>za<|rs [] [(1,qs a1),(11,qb (a0==24))] (kE ⟨[],0,[],0⟩)<|bF h (fun h=>rsN wc [] [(1,qs a1),(6,qi 4)] (kE ⟨[],0,[],0⟩)<|⟨4,sI h,wk ⟨[],0,[],0⟩⟩) fun h=>za<|rs [] [(4,qi 0),(5,qi 5)] (kE ⟨[],0,[],0⟩)<|zh<|have h:=hr4 _ (sI h); zH<|by cases h; exact rt ⟨[],0,[],0⟩) fun y2 h=>za<|za<|bE h fun y7 hE h=>reg ⟨62,[(1,qs a1),(6,qi y2),(24,qb y7)]⟩ ⟨[],[]⟩ (have h:=hE; gF 6 18 h (fun h=>by cases h; exact kE ⟨[],0,[],0⟩) fun h=>bE h fun x5 hx5 h=>kP 9 (z7 hx5)<|by cases h; exact kE ⟨[],0,[],0⟩)<|bF h (fun h=>za<|rs [] [(4,qi 0),(5,qi 12)] (kE ⟨[],0,[],0⟩)<|zh<|by cases h; exact rt ⟨[],0,[],0⟩) fun h=>zg<|za<|bE h fun x8 hx8 h=>bE h fun r9 hr9 h=>rs [] [(1,qs a1),(6,qi y2),(7,qi r9)] (kP 2 (ve (k:= .i64) hx8)<|kC 3 ⟨[],0,[],0⟩ (uT hr9)<|kE ⟨[],0,[],0⟩)<|za<|blC h (fun y19=>⟨62,[(1,qs a1),(6,qi y2),(7,qi y19)]⟩) (fun y19=>⟨[],[]⟩) (fun o20 h hr21=>za<|bE h fun y23 hE h=>reg ⟨62,[(1,qs a1),(6,qi y2),(7,qi r9),(29,qb y23)]⟩ ⟨[],[]⟩ (have h:=hE; gF 3 32 h (fun h=>by cases h; exact kE ⟨[],0,[],0⟩) fun h=>gF 6 35 h (fun h=>by cases h; exact kE ⟨[],0,[],0⟩) fun h=>by cases h; exact kE ⟨[],0,[],0⟩)<|bF h (fun h=>za<|rs [] [(4,qi 0),(5,qi 12)] (kE ⟨[],0,[],0⟩)<|zh<|have h:=hr21 _ (sI h); zH<|by cases h; exact rt ⟨[],0,[],0⟩) fun h=>za<|bE h fun y25 hE h=>reg ⟨62,[(1,qs a1),(6,qi y2),(7,qi r9),(40,qb y25)]⟩ ⟨[],[]⟩ (have h:=hE; gF 3 43 h (fun h=>by cases h; exact kE ⟨[],0,[],0⟩) fun h=>by cases h; exact kE ⟨[],0,[],0⟩)<|bF h (fun h=>rsN wc [] [(1,qs a1),(6,qi y2),(7,qi (IntKind.wrap .i64 (r9+1900)))] (kE ⟨[],0,[],0⟩)<|⟨IntKind.wrap .i64 (r9+1900),sI h,wk ⟨[],0,[],0⟩⟩) fun h=>za<|rs [] [(1,qs a1),(6,qi y2),(7,qi r9),(49,qb (y2==2))] (kE ⟨[],0,[],0⟩)<|bF h (fun h=>rsN wc [] [(1,qs a1),(6,qi y2),(7,qi (IntKind.wrap .i64 (r9+2000)))] (kE ⟨[],0,[],0⟩)<|⟨IntKind.wrap .i64 (r9+2000),sI h,wk ⟨[],0,[],0⟩⟩) fun h=>zg<|⟨r9,sI h,wk ⟨[],0,[],0⟩⟩) fun y19 h=>za<|bE h fun x26 hx26 h=>bE h fun r27 hr27 h=>bE h fun r28 hr28 h=>rs [] [(4,qi r28.1),(5,qi r28.2)] (kP 3 (wM (k:= .i64) hx26)<|kC 4 ⟨[],0,[],0⟩ (Wj hr27)<|kC 5 ⟨[],0,[],0⟩ (YV hr28)<|kE ⟨[],0,[],0⟩)<|zh<|by cases h; exact rt ⟨[],0,[],0⟩
def xg (n:Nat) (a1:Int) (m0:ze):Option ze:=
 (if m0.zY=true then(some true)else(some (a1 !=0))).bind fun y2=>
 some (ze.mk m0.f_l y2)
theorem wF {n:Nat} {a1:Int} {m0:ze} {r:ze} (h:xg n a1 m0=some r):AC mx 140 [qp 0,qi a1] [ze.cells m0] (.tuple []) [ze.cells r]:=by
 delta xg at h
 exact fnc Tryz.func140 rfl<|bE h fun y2 hE h=>co ⟨15,[]⟩ ⟨[[ql 3 zc.cells m0.f_l,qb y2]],[]⟩ gV (have h:=hE; gF 6 9 h (fun h=>by cases h; exact kE ⟨[0],1,[],0⟩) fun h=>by cases h; exact kE ⟨[0],1,[],0⟩)<|by cases h; exact rno ⟨[0],1,[],0⟩
def xw (n:Nat) (a1:Int) (m0:ze):Option (zc×Bool×ze):=
 (if((List.length m0.f_l:Int)==0)=true then(some true)else((zX m0.f_l 0).bind fun x1=>
 some (x1.zG !=a1))).bind fun y3=>
 if y3=true then(some ((zc.mk 0 ([]:List UInt8) ([]:List UInt8)),false,m0))else((ya n m0).bind fun r4=>
 some (r4.1,true,r4.2))
theorem xW {n:Nat} {a1:Int} {m0:ze} {r:(zc×Bool×ze)} (h:xw n a1 m0=some r):AC mx 141 [qp 0,qi a1] [ze.cells m0] (.tuple [.agg (zc.cells r.1),qb r.2.1]) [ze.cells r.2.2]:=by
 delta xw at h
 exact fnc Tryz.func141 rfl<|za<|rm [] [(0,qp 0),(1,qi a1),(4,qp 1)] ⟨[ze.cells m0,[qi 0,qs ([]:List UInt8),qs ([]:List UInt8)]],[]⟩ (kE ⟨[0,1],2,[],0⟩)<|za<|za<|bE h fun y3 hE h=>reg ⟨26,[(0,qp 0),(4,qp 1),(22,qb y3)]⟩ ⟨[ze.cells m0,[qi 0,qs ([]:List UInt8),qs ([]:List UInt8)]],[]⟩ (have h:=hE; kP 4 (zU (c:=zc.cells) (l:=m0.f_l) (e:=103) (sz:=3) (sz':=3) (b:=40) (tok:= .none))<|gF 7 12 h (fun h=>by cases h; exact kE ⟨[0,1],2,[],0⟩) fun h=>bE h fun x1 hx1 h=>kP 11 (zz (c:=zc.cells) (e:=103) (sz:=3) (b:=40) (tok:= .none) hx1)<|by cases h; exact kE ⟨[0,1],2,[],0⟩)<|bF h (fun h=>za<|rs [] [(4,qp 1),(5,qb false)] (kE ⟨[0,1],2,[],0⟩)<|zh<|by cases h; exact rt ⟨[0],2,[],0⟩) fun h=>zg<|za<|bE h fun r4 hr4 h=>rm [] [(4,qp 1),(5,qb true)] ⟨[ze.cells r4.2,zc.cells r4.1],[]⟩ (kC 1 ⟨[0],2,[],0⟩ (xc hr4)<|kE ⟨[0,1],2,[],0⟩)<|zh<|by cases h; exact rt ⟨[0],2,[],0⟩
def xi (n:Nat) (a0:(List UInt8)) (v137:(List Int)):Nat→Int→Int→Option (Ctl (List Int) ((List Int)×Int))
 |0,_,_=>none
 | k+1,v197,v198=>
  if(decide (v197<(List.length a0:Int)))=true then((xD a0 v197).bind fun x201=>
  if(decide ((ior .i64 (IntKind.wrap .i64 (v198*128)) (xJ .i64 (IntKind.wrap .i64 x201) 127))>4294967294))=true then(some (.ret ([]:(List Int))))else(if(decide ((IntKind.wrap .i64 x201)<128))=true then((q7 8 v137 ([ior .i64 (IntKind.wrap .i64 (v198*128)) (xJ .i64 (IntKind.wrap .i64 x201) 127)]:List Int)).bind fun x202=>
  some (.nxt (x202,IntKind.wrap .i64 (v197+1))))else(xi n a0 v137 k (IntKind.wrap .i64 (v197+1)) (ior .i64 (IntKind.wrap .i64 (v198*128)) (xJ .i64 (IntKind.wrap .i64 x201) 127)))))else(some (.ret ([]:(List Int))))
def xj (n:Nat) (a0:(List UInt8)):Nat→(List Int)→Int→Option (Ctl (List Int) (List Int))
 |0,_,_=>none
 | k+1,v137,v138=>
  if(decide (v138<(List.length a0:Int)))=true then(ym ((xD a0 v138).bind fun x194=>
  if(x194==128)=true then(some (.ret ([]:(List Int))))else(xi n a0 v137 n v138 0)) (fun r=>some (.ret r)) (fun y191=>
  xj n a0 k y191.1 y191.2))else(some (.nxt v137))
def uG (n:Nat) (a0:(List UInt8)):Option (List Int):=
 ym (xj n a0 n ([]:List Int) 0) (fun r=>some r) (fun y101=>
 some y101)
theorem Y9 {n:Nat} {a0:(List UInt8)} {r:(List Int)} (h:uG n a0=some r):AC mx 196 [qs a0] [] (ql 1 (cI .i64) r) []:=by
 delta uG at h
 exact fnc Tryz.func196 rfl<|za<|rs [] [(0,qs a0)] (kE ⟨[],0,[],0⟩)<|Pc<|za<|rs [] [(0,qs a0),(3,qn)] (kE ⟨[],0,[],0⟩)<|za<|rs [] [(0,qs a0),(3,qn),(4,qi 0)] (kE ⟨[],0,[],0⟩)<|za<|PG<|za<|blC h (fun y101=>⟨39,[(3,.sl 1 (List.map (cI .i64) y101) (.fam 0 (List.length y101)))]⟩) (fun y101=>⟨[],[List.length y101]⟩) (fun o102 h hr103=>vF (wk (fr':=⟨39,[(0,qs a0),(3,qn),(4,qi 0)]⟩) (st':=⟨[],[]⟩) ⟨[],0,[],0⟩)<|vF Wk.nilFam<|zN (X:=((List Int)×Int)) (fun x=>⟨39,[(0,qs a0),(3,.sl 1 (List.map (cI .i64) x.1) (.fam 0 (List.length x.1))),(4,qi x.2)]⟩) (fun x=>⟨[],[List.length x.1]⟩) (fun k x=>xj n a0 k x.1 x.2=some o102) (fun _ hx=>by simp [xj]at hx) n (([]:List Int),0) h (wk ⟨[],0,[0],1⟩) (fun k x h=>by obtain⟨v137,v138⟩:=x; rw [xj]at h; exact za<|za<|rs [3,4] [(0,qs a0),(10,qb (decide (v138<(List.length a0:Int))))] (kE ⟨[],0,[0],1⟩)<|bF h (fun h=>zg<|GG h zp (fun y191=>⟨39,[(0,qs a0),(3,.sl 1 (List.map (cI .i64) y191.1) (.fam 0 (List.length y191.1))),(4,qi y191.2)]⟩) (fun y191=>⟨[],[List.length y191.1]⟩) (fun o192 h hr193=>za<|za<|bE h fun x194 hx194 h=>rs [3,4] [(0,qs a0),(14,qb (x194==128))] (kP 2 (z7 hx194)<|kE ⟨[],0,[0],1⟩)<|bF h (fun h=>za<|rm [] [(2,qn)] ⟨[],[]⟩ (kE ⟨[],0,[],1⟩)<|zh<|have h:=hr193 _ (sI h); zH<|zQ<|have h:=hr103 _ (sI h); zH<|Ji<|by cases h; exact rt ⟨[],0,[],0⟩) fun h=>zg<|za<|rs [3,4] [(0,qs a0),(5,qi 0)] (kE ⟨[],0,[0],1⟩)<|za<|zx<|zN (X:=(Int×Int)) (fun x=>⟨39,[(0,qs a0),(3,.sl 1 (List.map (cI .i64) v137) (.fam 0 (List.length v137))),(4,qi x.1),(5,qi x.2)]⟩) (fun x=>⟨[],[List.length v137]⟩) (fun k x=>xi n a0 v137 k x.1 x.2=some o192) (fun _ hx=>by simp [xi]at hx) n (v138,0) h (wk ⟨[],0,[0],1⟩) (fun k x h=>by obtain⟨v197,v198⟩:=x; rw [xi]at h; exact za<|za<|rs [3,4,5] [(0,qs a0),(18,qb (decide (v197<(List.length a0:Int))))] (kE ⟨[],0,[0],1⟩)<|bF h (fun h=>zg<|zx<|za<|bE h fun x201 hx201 h=>rs [3,4,5] [(0,qs a0),(6,qi (IntKind.wrap .i64 x201))] (kP 2 (z7 hx201)<|kE ⟨[],0,[0],1⟩)<|za<|rs [3,5,6] [(0,qs a0),(4,qi (IntKind.wrap .i64 (v197+1)))] (kE ⟨[],0,[0],1⟩)<|za<|rs [3,4,6] [(0,qs a0),(5,qi (ior .i64 (IntKind.wrap .i64 (v198*128)) (xJ .i64 (IntKind.wrap .i64 x201) 127)))] (kE ⟨[],0,[0],1⟩)<|za<|za<|rs [3,4,5,6] [(0,qs a0),(31,qb (decide ((ior .i64 (IntKind.wrap .i64 (v198*128)) (xJ .i64 (IntKind.wrap .i64 x201) 127))>4294967294)))] (kE ⟨[],0,[0],1⟩)<|bF h (fun h=>za<|rm [] [(2,qn)] ⟨[],[]⟩ (kE ⟨[],0,[],1⟩)<|zh<|zO<|zQ<|zO<|have h:=hr193 _ (sI h); zH<|zQ<|have h:=hr103 _ (sI h); zH<|Ji<|by cases h; exact rt ⟨[],0,[],0⟩) fun h=>zg<|za<|rs [3,4,5] [(0,qs a0),(33,qb (decide ((IntKind.wrap .i64 x201)<128)))] (kE ⟨[],0,[0],1⟩)<|bF h (fun h=>za<|bE h fun x202 hx202 h=>rm [4] [(0,qs a0),(3,.sl 1 (List.map (cI .i64) x202) (.fam 0 (List.length x202)))] ⟨[],[List.length x202]⟩ (kA 3 0 (cI .i64) (e:=3) (e2:=3) (sz:=1) (bytes:=8) (b2:=8) (tok2:= .exact) hx202<|kE ⟨[],0,[0],1⟩)<|zL<|pN (by kernel_rfl)<|zw<|pN (by kernel_rfl)<|zv<|⟨(x202,IntKind.wrap .i64 (v197+1)),sI h,wk ⟨[],0,[0],1⟩⟩) fun h=>zg<|zy<|⟨(IntKind.wrap .i64 (v197+1),ior .i64 (IntKind.wrap .i64 (v198*128)) (xJ .i64 (IntKind.wrap .i64 x201) 127)),h,wk ⟨[],0,[0],1⟩⟩) fun h=>zL<|zw<|BS<|za<|rm [] [(2,qn)] ⟨[],[]⟩ (kE ⟨[],0,[],1⟩)<|zh<|have h:=hr193 _ (sI h); zH<|zQ<|have h:=hr103 _ (sI h); zH<|Ji<|by cases h; exact rt ⟨[],0,[],0⟩)) fun y191 h=>⟨(y191.1,y191.2),h,wk ⟨[],0,[0],1⟩⟩) fun h=>zL<|zw<|zv<|⟨v137,sI h,wk ⟨[],0,[0],1⟩⟩)) fun y101 h=>za<|rs [] [(2,.sl 1 (List.map (cI .i64) y101) (.fam 0 (List.length y101)))] (kE ⟨[],0,[0],1⟩)<|zh<|Ji<|by cases h; exact rt ⟨[],0,[],1⟩
end Go.Abs
end
