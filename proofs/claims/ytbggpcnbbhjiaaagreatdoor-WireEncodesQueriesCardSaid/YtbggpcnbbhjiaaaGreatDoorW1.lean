/- For each Go function: if its typed Lean form gives some result, the call returns that result (printed by a program of this hand). Condition: the typed form gives some result. -/
import Derived.Test.YtbggpcnbbhjiaaaGreatDoorT3
set_option linter.unusedVariables false
set_option linter.unusedSimpArgs false
set_option linter.unnecessarySimpa false
section
set_option maxRecDepth 100000
set_option maxHeartbeats 0
namespace Go.Abs
open Go Go.Proofs IntKind
abbrev J:Ren:=⟨[],0,[],0⟩
abbrev O:Ren:=⟨[0],1,[],0⟩
abbrev A0:Ren:=⟨[],1,[],0⟩
abbrev A1:Ren:=⟨[0,1],2,[],0⟩
abbrev A2:Ren:=⟨[],0,[0],1⟩
abbrev A3:Ren:=⟨[0],2,[],0⟩
abbrev A4:Ren:=⟨[0,1,2],3,[],0⟩
abbrev A5:Ren:=⟨[0,1,2],3,[0],1⟩
abbrev A6:Ren:=⟨[1],2,[],0⟩
abbrev A7:Ren:=⟨[0],3,[],0⟩
abbrev A8:Ren:=⟨[],2,[],0⟩
abbrev A9:Ren:=⟨[],0,[],1⟩
abbrev Aa:Ren:=⟨[0,1,2],3,[0,1],2⟩
abbrev Ab:Ren:=⟨[0],3,[],1⟩
abbrev Ac:Ren:=⟨[0,1,2,3],4,[],0⟩
abbrev Ad:Ren:=⟨[0],1,[0],1⟩
abbrev Ae:Ren:=⟨[],3,[],0⟩
abbrev Af:Ren:=⟨[0,1],2,[0,1],2⟩
abbrev Ag:Ren:=⟨[0,1],2,[0],1⟩
abbrev Ah:Ren:=⟨[],0,[0,1],2⟩
abbrev Ai:Ren:=⟨[],1,[],1⟩
abbrev Aj:Ren:=⟨[0,1,2,3],4,[0],1⟩
abbrev Ak:Ren:=⟨[0,2],3,[],0⟩
abbrev Al:Ren:=⟨[2],3,[],0⟩
abbrev Am:Ren:=⟨[0,1,2],3,[0],2⟩
abbrev An:Ren:=⟨[0,1],2,[0,1,2],3⟩
abbrev Ao:Ren:=⟨[0,1,2],4,[],0⟩
abbrev Ap:Ren:=⟨[0],4,[],0⟩
abbrev Aq:Ren:=⟨[0,1,3],4,[],0⟩
abbrev Ar:Ren:=⟨[0,1],3,[0],1⟩
abbrev As:Ren:=⟨[0],3,[],2⟩
abbrev Au:Ren:=⟨[0],2,[0],1⟩
abbrev Av:Ren:=⟨[],3,[],1⟩
abbrev Aw:Ren:=⟨[],0,[],2⟩
abbrev Ax:Ren:=⟨[0,1],3,[],0⟩
abbrev Ay:Ren:=⟨[0],4,[],1⟩
abbrev Az:Ren:=⟨[0,1,2],5,[0],1⟩
abbrev C1:Ren:=⟨[0],2,[],1⟩
abbrev C3:Ren:=⟨[0,1,2,3],4,[0,1],2⟩
abbrev C4:Ren:=⟨[],2,[],3⟩
abbrev C5:Ren:=⟨[0,1,2,3,4],5,[0],1⟩
abbrev C6:=List UInt8
variable {mx:Int}
def wi (n:Nat)(a0:List C6)(a2:Int):Nat→Int→Option (Ctl Bool Unit)
 |0,_=>none
 | k+1,v13=>
  if(decide (v13<(a0.length:Int)))=true then((z1 a0 v13).bind fun x17=>
  if(decide ((x17.length:Int)>a2))=true then(some (.ret false))else(wi n a0 a2 k (wrap .i64 (v13+1))))else(some (.nxt ()))
def js (n:Nat)(a0:List C6)(a1 a2:Int):Option Bool:=
 if(decide ((a0.length:Int)>a1))=true then(some false)else(yW (wi n a0 a2 n 0) (fun r=>some r) (fun y8=>
 some true))
theorem Z5 {n a0 a1 a2 r}(h:js n a0 a1 a2=some r):AC mx 21 [ql 1 cS a0,qi a1,qi a2] [] (qb r) []:=by
 delta js at h
 exact fnc Tryz.func21 rfl<|za<|rs [0] [(1,qi a1),(2,qi a2)] (kE J)<|za<|za<|rs [0] [(2,qi a2),(12,qb (decide ((a0.length:Int)>a1)))] (kP 1 (zX (c:=cS) (l:=a0) (e:=9) (sz:=1) (sz':=1) (b:=16) (tok:= .none))<|kE J)<|bF h (fun h=>za<|rs [] [(6,qb false)] (kE J)<|zi<|by cases h; exact rt J) fun h=>zf<|za<|za<|rs [] [(2,qi a2),(13,ql 1 cS a0),(14,qi (a0.length:Int)),(15,qi 0)] (kP 1 (zX (c:=cS) (l:=a0) (e:=9) (sz:=1) (sz':=1) (b:=16) (tok:= .none))<|kE J)<|blC h (fun _=>⟨24,[]⟩) (fun _=>⟨[],[]⟩) (fun o9 h hr10=>zK (X:=Int) (fun x=>⟨24,[(2,qi a2),(13,ql 1 cS a0),(14,qi (a0.length:Int)),(15,qi x)]⟩) (fun x=>⟨[],[]⟩) (fun k x=>wi n a0 a2 k x=some o9) (fun _ hx=>by simp [wi]at hx) n 0 h (wk J) (fun k x h=>by revert h; revert x; intro v13 h; rw [wi]at h; exact za<|rs [13,14] [(2,qi a2),(15,qi v13),(16,qb (decide (v13<(a0.length:Int))))] (kE J)<|za<|bF h (fun h=>zf<|za<|zz<|za<|bE h fun x17 hx17 h=>rs [13,14] [(2,qi a2),(8,qs x17),(15,qi v13)] (kP 0 (zC (c:=cS) (e:=9) (sz:=1) (b:=16) (tok:= .none) hx17)<|kE J)<|za<|rs [13,14] [(2,qi a2),(15,qi v13),(22,qb (decide ((x17.length:Int)>a2)))] (kE J)<|bF h (fun h=>za<|rs [] [(6,qb false)] (kE J)<|zi<|zP<|zV<|have h:=hr10 _ (sI h); zR<|by cases h; exact rt J) fun h=>zf<|zy<|rsN zt [13,14] [(2,qi a2),(15,qi (wrap .i64 (v13+1)))] (kE J)<|⟨wrap .i64 (v13+1),h,wk J⟩) fun h=>zG<|zx<|zv<|⟨(),sI h,wk J⟩)) fun y8 h=>za<|rs [] [(6,qb true)] (kE J)<|zi<|by cases h; exact rt J
def yG (n:Nat)(x720:List zb):Nat→Int→Option (Ctl Bool Unit)
 |0,_=>none
 | k+1,v749=>
  if(decide (v749<(x720.length:Int)))=true then((z1 x720 v749).bind fun x759=>
  (if(decide ((x759.yS.length:Int)>200))=true then(some true)else(some (decide ((x759.wo.length:Int)>200)))).bind fun y761=>
  if y761=true then(some (.ret false))else(yG n x720 k (wrap .i64 (v749+1))))else(some (.nxt ()))
def yC (n:Nat)(a0:zu):Nat→Int→Option (Ctl Bool Unit)
 |0,_=>none
 | k+1,v509=>
  if(decide (v509<(a0.zk.length:Int)))=true then((z1 a0.zk v509).bind fun x720=>
  if(decide ((x720.length:Int)>8))=true then(some (.ret false))else(yW (yG n x720 n 0) (fun r=>some (.ret r)) (fun y740=>
  yC n a0 k (wrap .i64 (v509+1)))))else(some (.nxt ()))
def wL (n:Nat)(a0:zu):Option Bool:=
 if(decide ((a0.zk.length:Int)>12))=true then(some false)else(yW (yC n a0 n 0) (fun r=>some r) (fun y380=>
 some true))
theorem kg {n a0 r}(h:wL n a0=some r):AC mx 98 [.agg [ql 1 (cL 3 zb.cells) a0.zk]] [] (qb r) []:=by
 delta wL at h
 exact fnc Tryz.func98 rfl<|za<|rm [] [(1,qp 0)] ⟨[[ql 1 (cL 3 zb.cells) a0.zk]],[]⟩ (kE O)<|za<|za<|rs [] [(1,qp 0),(10,qb (decide ((a0.zk.length:Int)>12)))] (kP 2 (zX (c:=(cL 3 zb.cells)) (l:=a0.zk) (e:=141) (sz:=1) (sz':=1) (b:=24) (tok:= .none))<|kE O)<|bF h (fun h=>za<|rm [] [(2,qb false)] ⟨[],[]⟩ (kE A0)<|zi<|by cases h; exact rt J) fun h=>zf<|za<|za<|rm [] [(12,ql 1 (cL 3 zb.cells) a0.zk),(13,qi (a0.zk.length:Int)),(14,qi 0)] ⟨[],[]⟩ (kP 2 (zX (c:=(cL 3 zb.cells)) (l:=a0.zk) (e:=141) (sz:=1) (sz':=1) (b:=24) (tok:= .none))<|kE A0)<|blC h (fun _=>⟨39,[]⟩) (fun _=>⟨[],[]⟩) (fun o381 h hr382=>zK (X:=Int) (fun x=>⟨39,[(12,ql 1 (cL 3 zb.cells) a0.zk),(13,qi (a0.zk.length:Int)),(14,qi x)]⟩) (fun x=>⟨[],[]⟩) (fun k x=>yC n a0 k x=some o381) (fun _ hx=>by simp [yC]at hx) n 0 h (wk J) (fun k x h=>by revert h; revert x; intro v509 h; rw [yC]at h; exact za<|rs [12,13,14] [(15,qb (decide (v509<(a0.zk.length:Int))))] (kE J)<|za<|bF h (fun h=>zf<|za<|zz<|za<|bE h fun x720 hx720 h=>rs [12,13,14] [(4,ql 3 zb.cells x720)] (kP 0 (zC (c:=(cL 3 zb.cells)) (e:=141) (sz:=1) (b:=24) (tok:= .none) hx720)<|kE J)<|za<|za<|rs [4,12,13,14] [(20,qb (decide ((x720.length:Int)>8)))] (kP 1 (zX (c:=zb.cells) (l:=x720) (e:=140) (sz:=3) (sz':=3) (b:=40) (tok:= .none))<|kE J)<|bF h (fun h=>za<|rs [] [(2,qb false)] (kE J)<|zi<|zP<|zV<|have h:=hr382 _ (sI h); zR<|by cases h; exact rt J) fun h=>zf<|za<|rs [12,13,14] [(21,ql 3 zb.cells x720),(22,qi (x720.length:Int)),(23,qi 0)] (kP 1 (zX (c:=zb.cells) (l:=x720) (e:=140) (sz:=3) (sz':=3) (b:=40) (tok:= .none))<|kE J)<|P8 h zN (fun _=>⟨39,[(12,ql 1 (cL 3 zb.cells) a0.zk),(13,qi (a0.zk.length:Int)),(14,qi v509)]⟩) (fun _=>⟨[],[]⟩) (fun o741 h hr742=>zK (X:=Int) (fun x=>⟨39,[(12,ql 1 (cL 3 zb.cells) a0.zk),(13,qi (a0.zk.length:Int)),(14,qi v509),(21,ql 3 zb.cells x720),(22,qi (x720.length:Int)),(23,qi x)]⟩) (fun x=>⟨[],[]⟩) (fun k x=>yG n x720 k x=some o741) (fun _ hx=>by simp [yG]at hx) n 0 h (wk J) (fun k x h=>by revert h; revert x; intro v749 h; rw [yG]at h; exact za<|rs [12,13,14,21,22,23] [(24,qb (decide (v749<(x720.length:Int))))] (kE J)<|za<|bF h (fun h=>zf<|za<|zz<|za<|bE h fun x759 hx759 h=>rm [12,13,14,21,22,23] [(6,qp 0)] ⟨[zb.cells x759],[]⟩ (kP 0 (zC (c:=zb.cells) (e:=140) (sz:=3) (b:=40) (tok:= .none) hx759)<|kE O)<|za<|bE h fun y761 hE h=>reg ⟨39,[(12,ql 1 (cL 3 zb.cells) a0.zk),(13,qi (a0.zk.length:Int)),(14,qi v509),(21,ql 3 zb.cells x720),(22,qi (x720.length:Int)),(23,qi v749),(36,qb y761)]⟩ ⟨[],[]⟩ (have h:=hE; gF 5 31 h (fun h=>by cases h; exact kE A0) fun h=>by cases h; exact kE A0)<|bF h (fun h=>za<|rs [] [(2,qb false)] (kE J)<|zi<|zP<|zV<|have h:=hr742 _ (sI h); zR<|zP<|zV<|have h:=hr382 _ (sI h); zR<|by cases h; exact rt J) fun h=>zf<|zy<|rsN zt [12,13,14,21,22] [(23,qi (wrap .i64 (v749+1)))] (kE J)<|⟨wrap .i64 (v749+1),h,wk J⟩) fun h=>zG<|zx<|zv<|⟨(),sI h,wk J⟩)) fun y740 h=>zy<|rsN zt [12,13] [(14,qi (wrap .i64 (v509+1)))] (kE J)<|⟨wrap .i64 (v509+1),h,wk J⟩) fun h=>zG<|zx<|zv<|⟨(),sI h,wk J⟩)) fun y380 h=>za<|rs [] [(2,qb true)] (kE J)<|zi<|by cases h; exact rt J
def yq (n:Nat)(a0:List zc):Nat→Int→Option (Ctl Bool Unit)
 |0,_=>none
 | k+1,v37=>
  if(decide (v37<(a0.length:Int)))=true then((z1 a0 v37).bind fun x50=>
  (if(decide ((x50.ye.length:Int)>300))=true then(some true)else((wL n (zu.mk x50.zr.zk)).bind fun r51=>
  some (!r51))).bind fun y53=>
  if y53=true then(some (.ret false))else(yq n a0 k (wrap .i64 (v37+1))))else(some (.nxt ()))
def w9 (n:Nat)(a0:List zc):Option Bool:=
 if(decide ((a0.length:Int)>20))=true then(some false)else(yW (yq n a0 n 0) (fun r=>some r) (fun y26=>
 some true))
theorem dn {n a0 r}(h:w9 n a0=some r):AC mx 40 [ql 3 zc.cells a0] [] (qb r) []:=by
 delta w9 at h
 exact fnc Tryz.func40 rfl<|za<|rs [0] [] (kE J)<|za<|za<|rs [0] [(7,qb (decide ((a0.length:Int)>20)))] (kP 1 (zX (c:=zc.cells) (l:=a0) (e:=59) (sz:=3) (sz':=3) (b:=48) (tok:= .none))<|kE J)<|bF h (fun h=>za<|rs [] [(2,qb false)] (kE J)<|zi<|by cases h; exact rt J) fun h=>zf<|za<|za<|rs [] [(8,ql 3 zc.cells a0),(9,qi (a0.length:Int)),(10,qi 0)] (kP 1 (zX (c:=zc.cells) (l:=a0) (e:=59) (sz:=3) (sz':=3) (b:=48) (tok:= .none))<|kE J)<|blC h (fun _=>⟨25,[]⟩) (fun _=>⟨[],[]⟩) (fun o27 h hr28=>zK (X:=Int) (fun x=>⟨25,[(8,ql 3 zc.cells a0),(9,qi (a0.length:Int)),(10,qi x)]⟩) (fun x=>⟨[],[]⟩) (fun k x=>yq n a0 k x=some o27) (fun _ hx=>by simp [yq]at hx) n 0 h (wk J) (fun k x h=>by revert h; revert x; intro v37 h; rw [yq]at h; exact za<|rs [8,9] [(10,qi v37),(11,qb (decide (v37<(a0.length:Int))))] (kE J)<|za<|bF h (fun h=>zf<|za<|zz<|za<|bE h fun x50 hx50 h=>rm [8,9] [(4,qp 0),(10,qi v37)] ⟨[zc.cells x50],[]⟩ (kP 0 (zC (c:=zc.cells) (e:=59) (sz:=3) (b:=48) (tok:= .none) hx50)<|kE O)<|za<|bE h fun y53 hE h=>reg ⟨25,[(8,ql 3 zc.cells a0),(9,qi (a0.length:Int)),(10,qi v37),(23,qb y53)]⟩ ⟨[],[]⟩ (have h:=hE; gF 5 18 h (fun h=>by cases h; exact kE A0) fun h=>bE h fun r51 hr51 h=>kC 7 A0 (kg hr51)<|by cases h; exact kE A0)<|bF h (fun h=>za<|rs [] [(2,qb false)] (kE J)<|zi<|zP<|zV<|have h:=hr28 _ (sI h); zR<|by cases h; exact rt J) fun h=>zf<|zy<|rsN zt [8,9] [(10,qi (wrap .i64 (v37+1)))] (kE J)<|⟨wrap .i64 (v37+1),h,wk J⟩) fun h=>zG<|zx<|zv<|⟨(),sI h,wk J⟩)) fun y26 h=>za<|rs [] [(2,qb true)] (kE J)<|zi<|by cases h; exact rt J
def xy (n:Nat)(a0:List ze):Nat→Int→Option (Ctl Bool Unit)
 |0,_=>none
 | k+1,v53=>
  if(decide (v53<(a0.length:Int)))=true then(((z1 a0 v53).bind fun x72=>
  (wL n (zu.mk x72.zr.zk)).bind fun r73=>
  if(!r73)=true then(some true)else((z1 a0 v53).bind fun x74=>
  if(decide ((x74.zw.wm.length:Int)>100))=true then(some true)else((z1 a0 v53).bind fun x75=>
  some (decide ((x75.zw.zT.length:Int)>100))))).bind fun y77=>
  if y77=true then(some (.ret false))else(xy n a0 k (wrap .i64 (v53+1))))else(some (.nxt ()))
def u7 (n:Nat)(a0:List ze):Option Bool:=
 yW (xy n a0 n 0) (fun r=>some r) (fun y38=>
 some (decide ((a0.length:Int)≤6)))
theorem ZK {n a0 r}(h:u7 n a0=some r):AC mx 31 [ql 4 ze.cells a0] [] (qb r) []:=by
 delta u7 at h
 exact fnc Tryz.func31 rfl<|za<|rs [0] [] (kE J)<|za<|za<|rs [0] [(3,qi 0)] (kE J)<|blC h (fun _=>⟨40,[(0,ql 4 ze.cells a0)]⟩) (fun _=>⟨[],[]⟩) (fun o39 h hr40=>zK (X:=Int) (fun x=>⟨40,[(0,ql 4 ze.cells a0),(3,qi x)]⟩) (fun x=>⟨[],[]⟩) (fun k x=>xy n a0 k x=some o39) (fun _ hx=>by simp [xy]at hx) n 0 h (wk J) (fun k x h=>by revert h; revert x; intro v53 h; rw [xy]at h; exact za<|za<|rs [0] [(3,qi v53),(7,qb (decide (v53<(a0.length:Int))))] (kP 2 (zX (c:=ze.cells) (l:=a0) (e:=68) (sz:=4) (sz':=4) (b:=64) (tok:= .none))<|kE J)<|bF h (fun h=>zf<|za<|zz<|za<|bE h fun y77 hE h=>reg ⟨40,[(0,ql 4 ze.cells a0),(3,qi v53),(36,qb y77)]⟩ ⟨[],[]⟩ (have h:=hE; bE h fun x72 hx72 h=>bE h fun r73 hr73 h=>kP 2 (zC (c:=ze.cells) (e:=68) (sz:=4) (b:=64) (tok:= .none) hx72)<|kC 5 J (kg hr73)<|gF 8 17 h (fun h=>by cases h; exact kE J) fun h=>bE h fun x74 hx74 h=>kP 10 (zC (c:=ze.cells) (e:=68) (sz:=4) (b:=64) (tok:= .none) hx74)<|gF 18 27 h (fun h=>by cases h; exact kE J) fun h=>bE h fun x75 hx75 h=>kP 20 (zC (c:=ze.cells) (e:=68) (sz:=4) (b:=64) (tok:= .none) hx75)<|by cases h; exact kE J)<|bF h (fun h=>za<|rs [] [(2,qb false)] (kE J)<|zi<|zP<|zV<|have h:=hr40 _ (sI h); zR<|by cases h; exact rt J) fun h=>zf<|zy<|rsN zt [0] [(3,qi (wrap .i64 (v53+1)))] (kE J)<|⟨wrap .i64 (v53+1),h,wk J⟩) fun h=>zG<|zx<|zv<|⟨(),sI h,wk J⟩)) fun y38 h=>za<|rs [] [(2,qb (decide ((a0.length:Int)≤6)))] (kP 1 (zX (c:=ze.cells) (l:=a0) (e:=68) (sz:=4) (sz':=4) (b:=64) (tok:= .none))<|kE J)<|zi<|by cases h; exact rt J
def uh (n:Nat)(a0:zl):Option Bool:=
 (if(decide ((a0.zM.length:Int)>200))=true then(some true)else((js n a0.zo 12 200).bind fun r1=>
 if(!r1)=true then(some true)else((w9 n a0.zD).bind fun r2=>
 some (!r2)))).bind fun y4=>
 if y4=true then(some false)else((u7 n a0.zn).bind fun r5=>
 some r5)
theorem pS {n a0 r}(h:uh n a0=some r):AC mx 10 [.agg (zl.cells a0)] [] (qb r) []:=by
 delta uh at h
 exact fnc Tryz.func10 rfl<|za<|rm [] [(1,qp 0)] ⟨[zl.cells a0],[]⟩ (kE O)<|za<|za<|bE h fun y4 hE h=>reg ⟨22,[(1,qp 0),(18,qb y4)]⟩ ⟨[zl.cells a0],[]⟩ (have h:=hE; gF 5 7 h (fun h=>by cases h; exact kE O) fun h=>bE h fun r1 hr1 h=>kC 7 A0 (Z5 hr1)<|gF 11 13 h (fun h=>by cases h; exact kE O) fun h=>bE h fun r2 hr2 h=>kC 13 A0 (dn hr2)<|by cases h; exact kE O)<|bF h (fun h=>za<|rm [] [(2,qb false)] ⟨[],[]⟩ (kE A0)<|zi<|by cases h; exact rt J) fun h=>zf<|za<|bE h fun r5 hr5 h=>rm [] [(2,qb r5)] ⟨[],[]⟩ (kC 2 A0 (ZK hr5)<|kE A0)<|zi<|by cases h; exact rt J
def wM (n:Nat)(a0:C6)(y3:Int)(a1:C6)(a2:Int)(x6:Nat):Nat→C6→Int→(List C6)→Option (C6×Int×(List C6))
 |0,_,_,_=>none
 | k+1,v35,v36,v37=>
  if(decide (v36<(wrap .i64 ((if(wrap .i64 ((a0.length:Int)+1))<y3 then wrap .i64 ((a0.length:Int)+1)else y3)-1))))=true then((df n v35 a1).bind fun r43=>
  if(decide (r43<0))=true then(some (v35,v36,v37))else((ssl v35 0 (wrap .i64 (r43+a2))).bind fun x44=>
  (qh x6 v36).bind fun x45=>
  (pT v37 (x45*1) x44).bind fun x46=>
  (ssl v35 (wrap .i64 (r43+(a1.length:Int))) (v35.length)).bind fun x47=>
  wM n a0 y3 a1 a2 x6 k x47 (wrap .i64 (v36+1)) x46))else(some (v35,v36,v37))
def qw (n:Nat)(a0 a1:C6)(a2 a3:Int):Option (List C6):=
 if(a3==0)=true then(some ([]:List C6))else(if(a1==([]:C6))=true then(none)else((if(decide (a3<0))=true then((Wu n a0 a1).bind fun r5=>
 some (wrap .i64 (r5+1)))else(some a3)).bind fun y3=>
 (Wa 16 (if(wrap .i64 ((a0.length:Int)+1))<y3 then wrap .i64 ((a0.length:Int)+1)else y3) (if(wrap .i64 ((a0.length:Int)+1))<y3 then wrap .i64 ((a0.length:Int)+1)else y3)).bind fun x6=>
 (wM n a0 y3 a1 a2 x6 n a0 0 (List.replicate x6 (([]:C6):C6))).bind fun y28=>
 (qh x6 y28.2.1).bind fun x48=>
 (pT y28.2.2 (x48*1) y28.1).bind fun x49=>
 (osl x6 (wrap .i64 (y28.2.1+1))).bind fun x50=>
 (Wn x50 x49).bind fun x51=>
 some x51))
theorem Z4 {n a0 a1 a2 a3 r}(h:qw n a0 a1 a2 a3=some r):AC mx 232 [qs a0,qs a1,qi a2,qi a3] [] (ql 1 cS r) []:=by
 delta qw at h
 exact fnc Tryz.func232 rfl<|za<|rs [] [(0,qs a0),(1,qs a1),(2,qi a2),(3,qi a3)] (kE J)<|za<|za<|rs [] [(0,qs a0),(1,qs a1),(2,qi a2),(3,qi a3),(13,qb (a3==0))] (kE J)<|bF h (fun h=>za<|rs [] [(8,qn)] (kE J)<|zi<|by cases h; exact rt J) fun h=>zf<|za<|za<|rs [] [(0,qs a0),(1,qs a1),(2,qi a2),(3,qi a3),(15,qb (a1==([]:C6)))] (kE J)<|bF h (fun h=>nE h) fun h=>zf<|za<|za<|rs [] [(0,qs a0),(1,qs a1),(2,qi a2),(3,qi a3),(20,qb (decide (a3<0)))] (kE J)<|cuE h (fun y3=>⟨66,[(0,qs a0),(1,qs a1),(2,qi a2),(3,qi y3)]⟩) (fun y3=>⟨[],[]⟩) (fun y3 h=>bF h (fun h=>bE h fun r5 hr5 h=>rsN zt [] [(0,qs a0),(1,qs a1),(2,qi a2),(3,qi (wrap .i64 (r5+1)))] (kC 2 J (QD hr5)<|kE J)<|⟨wrap .i64 (r5+1),sI h,wk J⟩) fun h=>zf<|⟨a3,sI h,wk J⟩) fun y3 h=>za<|rs [] [(0,qs a0),(1,qs a1),(2,qi a2),(3,qi (if(wrap .i64 ((a0.length:Int)+1))<y3 then wrap .i64 ((a0.length:Int)+1)else y3))] (kE J)<|za<|bE h fun x6 hx6 h=>rm [3] [(0,qs a0),(1,qs a1),(2,qi a2),(9, .own 0 x6 1)] ⟨[[.buf (List.map vS (List.replicate x6 (([]:C6):C6)))]],[]⟩ (kV 1 0 0 0 (V5 (T:=tyT) (e:=9) (k1:= .i64) (k2:= .i64) (bytes:=16) (cell:=none) (c:=vS) uS ([]:C6) ⟨by kernel_rfl,by kernel_rfl⟩ hx6)<|kE O)<|za<|rs [9] [(0,qs a0),(1,qs a1),(2,qi a2),(3,qi (wrap .i64 ((if(wrap .i64 ((a0.length:Int)+1))<y3 then wrap .i64 ((a0.length:Int)+1)else y3)-1)))] (kE O)<|za<|rs [3,9] [(0,qs a0),(1,qs a1),(2,qi a2),(10,qi 0)] (kE O)<|za<|blE h (fun y28=>⟨66,[(0,qs y28.1),(9, .own 0 x6 1),(10,qi y28.2.1)]⟩) (fun y28=>⟨[[.buf (List.map vS y28.2.2)]],[]⟩) (fun y28 h=>zK (X:=(C6×Int×(List C6))) (fun x=>⟨66,[(0,qs x.1),(1,qs a1),(2,qi a2),(3,qi (wrap .i64 ((if(wrap .i64 ((a0.length:Int)+1))<y3 then wrap .i64 ((a0.length:Int)+1)else y3)-1))),(9, .own 0 x6 1),(10,qi x.2.1)]⟩) (fun x=>⟨[[.buf (List.map vS x.2.2)]],[]⟩) (fun k x=>wM n a0 y3 a1 a2 x6 k x.1 x.2.1 x.2.2=some y28) (fun _ hx=>by simp [wM]at hx) n (a0,0,List.replicate x6 (([]:C6):C6)) h (wk O) (fun k x h=>by obtain⟨v35,v36,v37⟩:=x; rw [wM]at h; exact za<|za<|rs [3,9] [(0,qs v35),(1,qs a1),(2,qi a2),(10,qi v36),(36,qb (decide (v36<(wrap .i64 ((if(wrap .i64 ((a0.length:Int)+1))<y3 then wrap .i64 ((a0.length:Int)+1)else y3)-1)))))] (kE O)<|bF h (fun h=>zf<|zz<|za<|bE h fun r43 hr43 h=>rs [3,9] [(0,qs v35),(1,qs a1),(2,qi a2),(10,qi v36),(11,qi r43)] (kC 2 A0 (VK hr43)<|kE O)<|za<|za<|rs [3,9] [(0,qs v35),(1,qs a1),(2,qi a2),(10,qi v36),(11,qi r43),(41,qb (decide (r43<0)))] (kE O)<|bF h (fun h=>zG<|gx (by kernel_rfl)<|zx<|zv<|⟨(v35,v36,v37),sI h,wk O⟩) fun h=>zf<|za<|bE h fun x44 hx44 h=>bE h fun x45 hx45 h=>bE h fun x46 hx46 h=>rm [3,9] [(0,qs v35),(1,qs a1),(2,qi a2),(10,qi v36),(11,qi r43)] ⟨[[.buf (List.map vS x46)]],[]⟩ (kP 6 (uo (k:= .i64) hx44)<|kP 7 (kx (id:=0) (e:=9) (sz:=1) (b:=16) hx45)<|kV 8 1 0 0 (qM (T:=tyT) (t:=9) (c:=vS) (l:=v37) (off:=(x45*1)) (x:=x44) uS (by kernel_rfl) hx46)<|kE O)<|za<|bE h fun x47 hx47 h=>rs [3,9] [(0,qs x47),(1,qs a1),(2,qi a2),(10,qi v36)] (kP 5 (qI (k:= .i64) hx47)<|kE O)<|rsN (jC (P:=Tryz.prog) (gl:=gl0 mx) zt) [3,9] [(0,qs x47),(1,qs a1),(2,qi a2),(10,qi (wrap .i64 (v36+1)))] (kE O)<|zy<|⟨(x47,wrap .i64 (v36+1),x46),h,wk O⟩) fun h=>zG<|zx<|zv<|⟨(v35,v36,v37),sI h,wk O⟩)) fun y28 h=>za<|bE h fun x48 hx48 h=>bE h fun x49 hx49 h=>rm [9,10] [] ⟨[[.buf (List.map vS x49)]],[]⟩ (kP 3 (kx (id:=0) (e:=9) (sz:=1) (b:=16) hx48)<|kV 4 1 0 0 (qM (T:=tyT) (t:=9) (c:=vS) (l:=y28.2.2) (off:=(x48*1)) (x:=y28.1) uS (by kernel_rfl) hx49)<|kE O)<|za<|bE h fun x50 hx50 h=>rs [] [(8, .own 0 x50 1)] (kP 3 (PO (id:=0) (k:= .i64) (e:=9) (sz:=1) (b:=16) hx50)<|kE O)<|bE h fun x51 hx51 h=>uP (Wk.frz (c:=vS) (l:=x49) 8 0 x50 hx51 (by kernel_rfl))<|zi<|by cases h; exact rt A0
def jH (n:Nat)(a0 a1:C6):Option (List C6):=
 (qw n a0 a1 0 (-1)).bind fun r1=>
 some r1
theorem dN {n a0 a1 r}(h:jH n a0 a1=some r):AC mx 175 [qs a0,qs a1] [] (ql 1 cS r) []:=by
 delta jH at h
 exact fnc Tryz.func175 rfl<|za<|rs [] [(0,qs a0),(1,qs a1)] (kE J)<|za<|bE h fun r1 hr1 h=>rs [] [(4,ql 1 cS r1)] (kC 2 J (Z4 hr1)<|kE J)<|zi<|by cases h; exact rt J
def qo (n:Nat)(a0:C6):Nat→Int→Int→Option (Ctl Int Int)
 |0,_,_=>none
 | k+1,v50,v51=>
  if(decide (v51<(a0.length:Int)))=true then(((wl a0 v51).bind fun x67=>
  if(decide (x67<48))=true then(some true)else((wl a0 v51).bind fun x68=>
  some (decide (x68>57)))).bind fun y70=>
  if y70=true then(some (.ret (-1)))else((wl a0 v51).bind fun x71=>
  qo n a0 k (wrap .i64 ((wrap .i64 ((10:Int)*v50))+(wrap .i64 (IntKind.wrap .u8 (x71-48))))) (wrap .i64 (v51+1))))else(some (.nxt v50))
def pp (n:Nat)(a0:C6):Option Int:=
 (if(a0==([]:C6))=true then(some true)else(if(decide ((a0.length:Int)>10))=true then(some true)else((wl a0 0).bind fun x1=>
 if(x1==48)=true then(some (decide ((a0.length:Int)>1)))else(some false)))).bind fun y3=>
 if y3=true then(some (-1))else(yW (qo n a0 n 0 0) (fun r=>some r) (fun y37=>
 if(decide (y37>2147483647))=true then(some (-1))else(some y37)))
theorem UZ {n a0 r}(h:pp n a0=some r):AC mx 176 [qs a0] [] (qi r) []:=by
 delta pp at h
 exact fnc Tryz.func176 rfl<|za<|rs [] [(0,qs a0)] (kE J)<|za<|za<|bE h fun y3 hE h=>reg ⟨49,[(0,qs a0),(21,qb y3)]⟩ ⟨[],[]⟩ (have h:=hE; gF 3 7 h (fun h=>by cases h; exact kE J) fun h=>gF 8 12 h (fun h=>by cases h; exact kE J) fun h=>bE h fun x1 hx1 h=>kP 9 (yj hx1)<|gF 12 16 h (fun h=>by cases h; exact kE J) fun h=>by cases h; exact kE J)<|bF h (fun h=>za<|rs [] [(2,qi (-1))] (kE J)<|zi<|by cases h; exact rt J) fun h=>zf<|za<|rs [] [(0,qs a0),(3,qi 0)] (kE J)<|za<|za<|rs [] [(0,qs a0),(3,qi 0),(4,qi 0)] (kE J)<|blC h (fun y37=>⟨49,[(3,qi y37)]⟩) (fun y37=>⟨[],[]⟩) (fun o38 h hr39=>zK (X:=(Int×Int)) (fun x=>⟨49,[(0,qs a0),(3,qi x.1),(4,qi x.2)]⟩) (fun x=>⟨[],[]⟩) (fun k x=>qo n a0 k x.1 x.2=some o38) (fun _ hx=>by simp [qo]at hx) n (0,0) h (wk J) (fun k x h=>by obtain⟨v50,v51⟩:=x; rw [qo]at h; exact za<|za<|rs [] [(0,qs a0),(3,qi v50),(4,qi v51),(25,qb (decide (v51<(a0.length:Int))))] (kE J)<|bF h (fun h=>zf<|za<|zz<|za<|za<|bE h fun y70 hE h=>reg ⟨49,[(0,qs a0),(3,qi v50),(4,qi v51),(37,qb y70)]⟩ ⟨[],[]⟩ (have h:=hE; bE h fun x67 hx67 h=>kP 2 (yj hx67)<|gF 5 32 h (fun h=>by cases h; exact kE J) fun h=>bE h fun x68 hx68 h=>kP 7 (yj hx68)<|by cases h; exact kE J)<|bF h (fun h=>za<|rs [] [(2,qi (-1))] (kE J)<|zi<|zP<|zV<|have h:=hr39 _ (sI h); zR<|by cases h; exact rt J) fun h=>zf<|bE h fun x71 hx71 h=>rsN zN [] [(0,qs a0),(3,qi (wrap .i64 ((wrap .i64 ((10:Int)*v50))+(wrap .i64 (IntKind.wrap .u8 (x71-48)))))),(4,qi v51)] (kP 4 (yj hx71)<|kE J)<|zy<|rsN zt [3] [(0,qs a0),(4,qi (wrap .i64 (v51+1)))] (kE J)<|⟨(wrap .i64 ((wrap .i64 ((10:Int)*v50))+(wrap .i64 (IntKind.wrap .u8 (x71-48)))),wrap .i64 (v51+1)),h,wk J⟩) fun h=>zG<|zx<|zv<|⟨v50,sI h,wk J⟩)) fun y37 h=>za<|za<|rs [] [(3,qi y37),(47,qb (decide (y37>2147483647)))] (kE J)<|bF h (fun h=>za<|rs [] [(2,qi (-1))] (kE J)<|zi<|by cases h; exact rt J) fun h=>zf<|za<|rs [] [(2,qi y37)] (kE J)<|zi<|by cases h; exact rt J
def dt (n:Nat)(a0 a1:Int):Option Bool:=
 (if(decide (a0≤1))=true then(if(decide (a1≤39))=true then(some true)else(some (a0==2)))else(some (a0==2))).bind fun y2=>
 some y2
theorem UH {n a0 a1 r}(h:dt n a0 a1=some r):AC mx 177 [qi a0,qi a1] [] (qb r) []:=by
 delta dt at h
 exact fnc Tryz.func177 rfl<|za<|rs [] [(0,qi a0),(1,qi a1)] (kE J)<|za<|bE h fun y2 hE h=>reg ⟨15,[(4,qb y2)]⟩ ⟨[],[]⟩ (have h:=hE; gF 3 7 h (fun h=>gF 7 11 h (fun h=>by cases h; exact kE J) fun h=>by cases h; exact kE J) fun h=>by cases h; exact kE J)<|zi<|by cases h; exact rt J
def u6 (n:Nat)(r1:List C6):Nat→(List Int)→Int→Option (Ctl (Option (List Int)) (List Int))
 |0,_,_=>none
 | k+1,v36,v37=>
  if(decide (v37<(r1.length:Int)))=true then((z1 r1 v37).bind fun x47=>
  (pp n x47).bind fun r48=>
  if(decide (r48<0))=true then(some (.ret none))else((jV 8 v36 ([r48]:List Int)).bind fun x49=>
  u6 n r1 k x49 (wrap .i64 (v37+1))))else(some (.nxt v36))
def bW (n:Nat)(a0:C6):Option (Option (List Int)):=
 (jH n a0 ([46]:C6)).bind fun r1=>
 (if(decide ((r1.length:Int)<2))=true then(some true)else(some (decide ((r1.length:Int)>12)))).bind fun y3=>
 if y3=true then(some none)else(yW (u6 n r1 n ([]:List Int) 0) (fun r=>some r) (fun y26=>
 (z1 y26 0).bind fun x50=>
 (z1 y26 1).bind fun x51=>
 (dt n x50 x51).bind fun r52=>
 if(!r52)=true then(some none)else((lne y26).bind fun x53=>
 some (some y26))))
theorem Y0 {n a0 r}(h:bW n a0=some r):AC mx 116 [qs a0] [] (onl 1 (cI .i64) r) []:=by
 delta bW at h
 exact fnc Tryz.func116 rfl<|za<|rs [] [(0,qs a0)] (kE J)<|za<|bE h fun r1 hr1 h=>rs [] [(3,ql 1 cS r1)] (kC 1 J (dN hr1)<|kE J)<|za<|za<|bE h fun y3 hE h=>reg ⟨42,[(3,ql 1 cS r1),(17,qb y3)]⟩ ⟨[],[]⟩ (have h:=hE; kP 1 (zX (c:=cS) (l:=r1) (e:=9) (sz:=1) (sz':=1) (b:=16) (tok:= .none))<|gF 4 13 h (fun h=>by cases h; exact kE J) fun h=>kP 5 (zX (c:=cS) (l:=r1) (e:=9) (sz:=1) (sz':=1) (b:=16) (tok:= .none))<|by cases h; exact kE J)<|bF h (fun h=>za<|rs [] [(2,qn)] (kE J)<|zi<|by cases h; exact rt J) fun h=>zf<|za<|rs [3] [(4,qn)] (kE J)<|za<|za<|rs [] [(4,qn),(18,ql 1 cS r1),(19,qi (r1.length:Int)),(20,qi 0)] (kP 1 (zX (c:=cS) (l:=r1) (e:=9) (sz:=1) (sz':=1) (b:=16) (tok:= .none))<|kE J)<|blC h (fun y26=>⟨42,[(4, .sl 1 (List.map (cI .i64) y26) (.fam 0 (y26.length)))]⟩) (fun y26=>⟨[],[y26.length]⟩) (fun o27 h hr28=>uP (wk (fr':=⟨42,[(4,qn),(18,ql 1 cS r1),(19,qi (r1.length:Int)),(20,qi 0)]⟩) (st':=⟨[],[]⟩) J)<|uP Wk.nilFam<|zK (X:=((List Int)×Int)) (fun x=>⟨42,[(4, .sl 1 (List.map (cI .i64) x.1) (.fam 0 (x.1.length))),(18,ql 1 cS r1),(19,qi (r1.length:Int)),(20,qi x.2)]⟩) (fun x=>⟨[],[x.1.length]⟩) (fun k x=>u6 n r1 k x.1 x.2=some o27) (fun _ hx=>by simp [u6]at hx) n (([]:List Int),0) h (wk A2) (fun k x h=>by obtain⟨v36,v37⟩:=x; rw [u6]at h; exact za<|rs [4,18,19] [(20,qi v37),(21,qb (decide (v37<(r1.length:Int))))] (kE A2)<|za<|bF h (fun h=>zf<|za<|zz<|za<|bE h fun x47 hx47 h=>rs [4,18,19] [(6,qs x47),(20,qi v37)] (kP 0 (zC (c:=cS) (e:=9) (sz:=1) (b:=16) (tok:= .none) hx47)<|kE A2)<|za<|bE h fun r48 hr48 h=>rs [4,18,19] [(7,qi r48),(20,qi v37)] (kC 1 A9 (UZ hr48)<|kE A2)<|za<|za<|rs [4,18,19] [(7,qi r48),(20,qi v37),(27,qb (decide (r48<0)))] (kE A2)<|bF h (fun h=>za<|rm [] [(2,qn)] ⟨[],[]⟩ (kE A9)<|zi<|zP<|zV<|have h:=hr28 _ (sI h); zR<|by cases h; exact rt J) fun h=>zf<|bE h fun x49 hx49 h=>rmN zN [18,19] [(4, .sl 1 (List.map (cI .i64) x49) (.fam 0 (x49.length))),(20,qi v37)] ⟨[],[x49.length]⟩ (kA 3 0 (cI .i64) (e:=3) (e2:=3) (sz:=1) (bytes:=8) (b2:=8) (tok2:= .exact) hx49<|kE A2)<|zy<|rsN zt [4,18,19] [(20,qi (wrap .i64 (v37+1)))] (kE A2)<|⟨(x49,wrap .i64 (v37+1)),h,wk A2⟩) fun h=>zG<|zx<|zv<|⟨v36,sI h,wk A2⟩)) fun y26 h=>za<|za<|bE h fun x50 hx50 h=>bE h fun x51 hx51 h=>bE h fun r52 hr52 h=>zs [0,1,2,3,4,5,6,7] [6] [[],[0],[0,1],[],[3],[3,4],[0,1,2,3,4,5],[0,1,2,3,4,5,6]] [4] [(40,qb (!r52))] (dS [0]<|dP (zC (c:=(cI .i64)) (e:=3) (sz:=1) (b:=8) (tok:=(.fam 0 (y26.length))) hx50)<|dS [2,3]<|dP (zC (c:=(cI .i64)) (e:=3) (sz:=1) (b:=8) (tok:=(.fam 0 (y26.length))) hx51)<|dS [5]<|dC (zF 4 (zC (c:=(cI .i64)) (e:=3) (sz:=1) (b:=8) (tok:=(.fam 0 (y26.length))) hx51) (zF 1 (zC (c:=(cI .i64)) (e:=3) (sz:=1) (b:=8) (tok:=(.fam 0 (y26.length))) hx50) yg)) A9 (UH hr52)<|dS [7]<|dE A2)<|bF h (fun h=>za<|rm [] [(2,qn)] ⟨[],[]⟩ (kE A9)<|zi<|by cases h; exact rt J) fun h=>zf<|za<|rs [] [(2, .sl 1 (List.map (cI .i64) y26) (.fam 0 (y26.length)))] (kE A2)<|bE h fun x53 hx53 h=>zi<|by cases h; exact rt A9
def jy (n:Nat)(a0:C6):Option Bool:=
 ((bW n a0).bind fun r1=>
 onE r1 (some false) (fun l2=>(lne l2).bind fun x3=>
 some true)).bind fun y5=>
 some y5
theorem bR {n a0 r}(h:jy n a0=some r):AC mx 88 [qs a0] [] (qb r) []:=by
 delta jy at h
 exact fnc Tryz.func88 rfl<|za<|rs [] [(0,qs a0)] (kE J)<|za<|bE h fun y5 hE h=>reg ⟨6,[(2,qb y5)]⟩ ⟨[],[]⟩ (have h:=hE; bE h fun r1 hr1 h=>kC 1 J (Y0 hr1)<|by cases r1 with|none=>exact(have h:=onN h; by cases h; exact kE J)|some l2=>exact(have h:=onS h; bE h fun x3 hx3 h=>kP 2 (Dt (c:=(cI .i64)) (e:=3) (sz:=1) (b:=8) (tok:= .none) hx3)<|by cases h; exact kE J))<|zi<|by cases h; exact rt J
def gd (n:Nat)(a0:Int):Option Int:=
 if(a0==1)=true then(some 0)else(if(a0==2)=true then(some 1)else(if(a0==4)=true then(some 2)else(if(a0==7)=true then(some 3)else(some 4))))
theorem Ue {n a0 r}(h:gd n a0=some r):AC mx 170 [qi a0] [] (qi r) []:=by
 delta gd at h
 exact fnc Tryz.func170 rfl<|za<|rs [] [(0,qi a0)] (kE J)<|za<|za<|rs [] [(3,qi a0)] (kE J)<|zz<|za<|rs [] [(3,qi a0),(4,qb (a0==1))] (kE J)<|bF h (fun h=>za<|rs [] [(2,qi 0)] (kE J)<|zi<|zP<|by cases h; exact rt J) fun h=>za<|rs [] [(3,qi a0),(6,qb (a0==2))] (kE J)<|bF h (fun h=>za<|rs [] [(2,qi 1)] (kE J)<|zi<|zP<|by cases h; exact rt J) fun h=>za<|rs [] [(3,qi a0),(8,qb (a0==4))] (kE J)<|bF h (fun h=>za<|rs [] [(2,qi 2)] (kE J)<|zi<|zP<|by cases h; exact rt J) fun h=>za<|rs [] [(10,qb (a0==7))] (kE J)<|bF h (fun h=>za<|rs [] [(2,qi 3)] (kE J)<|zi<|zP<|by cases h; exact rt J) fun h=>zf<|zy<|za<|rs [] [(2,qi 4)] (kE J)<|zi<|by cases h; exact rt J
def yT (n:Nat)(a0 a1:C6):Option Bool:=
 (if(decide ((a0.length:Int)≥(a1.length:Int)))=true then((ssl a0 0 (a1.length:Int)).bind fun x1=>
 some (x1==a1))else(some false)).bind fun y3=>
 some y3
theorem jw {n a0 a1 r}(h:yT n a0 a1=some r):AC mx 289 [qs a0,qs a1] [] (qb r) []:=by
 delta yT at h
 exact fnc Tryz.func289 rfl<|za<|rs [] [(0,qs a0),(1,qs a1)] (kE J)<|za<|bE h fun y3 hE h=>reg ⟨18,[(4,qb y3)]⟩ ⟨[],[]⟩ (have h:=hE; gF 6 10 h (fun h=>bE h fun x1 hx1 h=>kP 9 (uo (k:= .i64) hx1)<|by cases h; exact kE J) fun h=>by cases h; exact kE J)<|zi<|by cases h; exact rt J
def u0 (n:Nat)(a0 a1:C6):Option Bool:=
 (yT n a0 a1).bind fun r1=>
 some r1
theorem ZV {n a0 a1 r}(h:u0 n a0 a1=some r):AC mx 268 [qs a0,qs a1] [] (qb r) []:=by
 delta u0 at h
 exact fnc Tryz.func268 rfl<|za<|rs [] [(0,qs a0),(1,qs a1)] (kE J)<|za<|bE h fun r1 hr1 h=>rs [] [(4,qb r1)] (kC 2 J (jw hr1)<|kE J)<|zi<|by cases h; exact rt J
def vy (n:Nat)(a0:C6):Nat→Nat→Option (Ctl Bool Unit)
 |0,_=>none
 | k+1,v53=>
  if(Nat.blt v53 (a0.length))=true then((if(decide ((((Xj a0 v53).1:Nat):Int)<32))=true then(some true)else(some ((((Xj a0 v53).1:Nat):Int)==127))).bind fun y73=>
  if y73=true then(some (.ret false))else((if((((Xj a0 v53).1:Nat):Int)==65533)=true then((ssl a0 ((v53:Nat):Int) (a0.length)).bind fun x74=>
  (u0 n x74 ([239,191,189]:C6)).bind fun r75=>
  some (!r75))else(some false)).bind fun y77=>
  if y77=true then(some (.ret false))else(vy n a0 k (v53+(Xj a0 v53).2))))else(some (.nxt ()))
def p9 (n:Nat)(a0:C6):Option Bool:=
 yW (vy n a0 n 0) (fun r=>some r) (fun y38=>
 some true)
theorem UX {n a0 r}(h:p9 n a0=some r):AC mx 240 [qs a0] [] (qb r) []:=by
 delta p9 at h
 exact fnc Tryz.func240 rfl<|za<|rs [] [(0,qs a0)] (kE J)<|za<|za<|rm [] [(0,qs a0),(6, .iter 0)] ⟨[[.sit a0 0]],[]⟩ (kE O)<|blC h (fun _=>⟨26,[]⟩) (fun _=>⟨[],[]⟩) (fun o39 h hr40=>zK (X:=Nat) (fun x=>⟨26,[(0,qs a0),(6, .iter 0)]⟩) (fun x=>⟨[[.sit a0 x]],[]⟩) (fun k x=>vy n a0 k x=some o39) (fun _ hx=>by simp [vy]at hx) n 0 h (wk O) (fun k x h=>by revert h; revert x; intro v53 h; rw [vy]at h; exact za<|K8<|kF h (fun hb h=>kV 0 1 0 0 (Pq hb)<|Vb (⟨26,[(0,qs a0),(6, .iter 0),(7, .tuple [qb true,qi ((v53:Nat):Int), .int .i32 (((Xj a0 v53).1:Nat):Int)]),(8,qb true)]⟩) (⟨[[.sit a0 (v53+(Xj a0 v53).2)]],[]⟩) zN (kE O)<|za<|bT<|zf<|zz<|za<|rs [6] [(0,qs a0),(3,qi ((v53:Nat):Int)),(4, .int .i32 (((Xj a0 v53).1:Nat):Int))] (kE O)<|za<|za<|bE h fun y73 hE h=>reg ⟨26,[(0,qs a0),(3,qi ((v53:Nat):Int)),(4, .int .i32 (((Xj a0 v53).1:Nat):Int)),(6, .iter 0),(16,qb y73)]⟩ ⟨[[.sit a0 (v53+(Xj a0 v53).2)]],[]⟩ (have h:=hE; gF 3 13 h (fun h=>by cases h; exact kE O) fun h=>by cases h; exact kE O)<|bF h (fun h=>za<|rm [] [(2,qb false)] ⟨[],[]⟩ (kE A0)<|zi<|zP<|zV<|have h:=hr40 _ (sI h); zR<|by cases h; exact rt J) fun h=>zf<|za<|bE h fun y77 hE h=>reg ⟨26,[(0,qs a0),(6, .iter 0),(25,qb y77)]⟩ ⟨[[.sit a0 (v53+(Xj a0 v53).2)]],[]⟩ (have h:=hE; gF 3 19 h (fun h=>bE h fun x74 hx74 h=>bE h fun r75 hr75 h=>kP 5 (qI (k:= .i64) hx74)<|kC 6 A0 (ZV hr75)<|by cases h; exact kE O) fun h=>by cases h; exact kE O)<|bF h (fun h=>za<|rm [] [(2,qb false)] ⟨[],[]⟩ (kE A0)<|zi<|zP<|zV<|have h:=hr40 _ (sI h); zR<|by cases h; exact rt J) fun h=>zf<|zy<|⟨v53+(Xj a0 v53).2,h,wk O⟩) fun hb h=>kV 0 1 0 0 (D0 hb)<|Vb (⟨26,[(0,qs a0),(6, .iter 0),(7, .tuple [qb false]),(8,qb false)]⟩) (⟨[[.sit a0 v53]],[]⟩) zN (kE O)<|za<|bN<|zG<|zx<|zv<|⟨(),sI h,wk A0⟩)) fun y38 h=>za<|rs [] [(2,qb true)] (kE J)<|zi<|by cases h; exact rt J
def pB (n:Nat)(a0:Int):Option Bool:=
 (if(decide (a0≥97))=true then(if(decide (a0≤122))=true then(some true)else(if(decide (a0≥65))=true then(if(decide (a0≤90))=true then(some true)else(if(decide (a0≥48))=true then(some (decide (a0≤57)))else(some false)))else(if(decide (a0≥48))=true then(some (decide (a0≤57)))else(some false))))else(if(decide (a0≥65))=true then(if(decide (a0≤90))=true then(some true)else(if(decide (a0≥48))=true then(some (decide (a0≤57)))else(some false)))else(if(decide (a0≥48))=true then(some (decide (a0≤57)))else(some false)))).bind fun y2=>
 some y2
theorem WQ {n a0 r}(h:pB n a0=some r):AC mx 243 [qu a0] [] (qb r) []:=by
 delta pB at h
 exact fnc Tryz.func243 rfl<|za<|rs [] [(0,qu a0)] (kE J)<|za<|bE h fun y2 hE h=>reg ⟨25,[(2,qb y2)]⟩ ⟨[],[]⟩ (have h:=hE; gF 3 5 h (fun h=>gF 7 9 h (fun h=>by cases h; exact kE J) fun h=>gF 10 12 h (fun h=>gF 15 17 h (fun h=>by cases h; exact kE J) fun h=>gF 18 20 h (fun h=>by cases h; exact kE J) fun h=>by cases h; exact kE J) fun h=>gF 18 20 h (fun h=>by cases h; exact kE J) fun h=>by cases h; exact kE J) fun h=>gF 10 12 h (fun h=>gF 15 17 h (fun h=>by cases h; exact kE J) fun h=>gF 18 20 h (fun h=>by cases h; exact kE J) fun h=>by cases h; exact kE J) fun h=>gF 18 20 h (fun h=>by cases h; exact kE J) fun h=>by cases h; exact kE J)<|zi<|by cases h; exact rt J
def kn (n:Nat)(a0:Int):Option Bool:=
 ((pB n a0).bind fun r1=>
 if r1=true then(some true)else((pe n ([32,39,40,41,43,44,45,46,47,58,61,63]:C6) a0).bind fun r2=>
 some (decide (r2≥0)))).bind fun y4=>
 some y4
theorem XD {n a0 r}(h:kn n a0=some r):AC mx 242 [qu a0] [] (qb r) []:=by
 delta kn at h
 exact fnc Tryz.func242 rfl<|za<|rs [] [(0,qu a0)] (kE J)<|za<|bE h fun y4 hE h=>reg ⟨10,[(2,qb y4)]⟩ ⟨[],[]⟩ (have h:=hE; bE h fun r1 hr1 h=>kC 1 J (WQ hr1)<|gF 3 5 h (fun h=>by cases h; exact kE J) fun h=>bE h fun r2 hr2 h=>kC 4 J (Yw hr2)<|by cases h; exact kE J)<|zi<|by cases h; exact rt J
def jI (n:Nat)(a0:C6):Nat→Int→Option (Ctl Bool Unit)
 |0,_=>none
 | k+1,v21=>
  if(decide (v21<(a0.length:Int)))=true then((wl a0 v21).bind fun x28=>
  (kn n x28).bind fun r29=>
  if(!r29)=true then(some (.ret false))else(jI n a0 k (wrap .i64 (v21+1))))else(some (.nxt ()))
def Zh (n:Nat)(a0:C6):Option Bool:=
 yW (jI n a0 n 0) (fun r=>some r) (fun y14=>
 some true)
theorem UE {n a0 r}(h:Zh n a0=some r):AC mx 241 [qs a0, .func (.func 242) [] []] [] (qb r) []:=by
 delta Zh at h
 exact fnc Tryz.func241 rfl<|za<|rs [1] [(0,qs a0)] (kE J)<|za<|za<|rs [1] [(0,qs a0),(5,qi 0)] (kE J)<|blC h (fun _=>⟨18,[]⟩) (fun _=>⟨[],[]⟩) (fun o15 h hr16=>zK (X:=Int) (fun x=>⟨18,[(0,qs a0),(1, .func (.func 242) [] []),(5,qi x)]⟩) (fun x=>⟨[],[]⟩) (fun k x=>jI n a0 k x=some o15) (fun _ hx=>by simp [jI]at hx) n 0 h (wk J) (fun k x h=>by revert h; revert x; intro v21 h; rw [jI]at h; exact za<|za<|rs [1] [(0,qs a0),(5,qi v21),(9,qb (decide (v21<(a0.length:Int))))] (kE J)<|bF h (fun h=>zf<|za<|zz<|za<|bE h fun x28 hx28 h=>bE h fun r29 hr29 h=>rs [1] [(0,qs a0),(5,qi v21),(17,qb (!r29))] (kP 3 (yj hx28)<|kC 4 J (XD hr29)<|kE J)<|bF h (fun h=>za<|rs [] [(4,qb false)] (kE J)<|zi<|zP<|zV<|have h:=hr16 _ (sI h); zR<|by cases h; exact rt J) fun h=>zf<|zy<|rsN zt [1] [(0,qs a0),(5,qi (wrap .i64 (v21+1)))] (kE J)<|⟨wrap .i64 (v21+1),h,wk J⟩) fun h=>zG<|zx<|zv<|⟨(),sI h,wk J⟩)) fun y14 h=>za<|rs [] [(4,qb true)] (kE J)<|zi<|by cases h; exact rt J
def kc (n:Nat)(a0:Int):Option Bool:=
 (if(decide (a0≥32))=true then(some (decide (a0≤126)))else(some false)).bind fun y2=>
 some y2
theorem XN {n a0 r}(h:kc n a0=some r):AC mx 245 [qu a0] [] (qb r) []:=by
 delta kc at h
 exact fnc Tryz.func245 rfl<|za<|rs [] [(0,qu a0)] (kE J)<|za<|bE h fun y2 hE h=>reg ⟨9,[(2,qb y2)]⟩ ⟨[],[]⟩ (have h:=hE; gF 3 5 h (fun h=>by cases h; exact kE J) fun h=>by cases h; exact kE J)<|zi<|by cases h; exact rt J
def uT (n:Nat)(a0:C6):Nat→Int→Option (Ctl Bool Unit)
 |0,_=>none
 | k+1,v21=>
  if(decide (v21<(a0.length:Int)))=true then((wl a0 v21).bind fun x28=>
  (kc n x28).bind fun r29=>
  if(!r29)=true then(some (.ret false))else(uT n a0 k (wrap .i64 (v21+1))))else(some (.nxt ()))
def db (n:Nat)(a0:C6):Option Bool:=
 yW (uT n a0 n 0) (fun r=>some r) (fun y14=>
 some true)
theorem W4 {n a0 r}(h:db n a0=some r):AC mx 241 [qs a0, .func (.func 245) [] []] [] (qb r) []:=by
 delta db at h
 exact fnc Tryz.func241 rfl<|za<|rs [1] [(0,qs a0)] (kE J)<|za<|za<|rs [1] [(0,qs a0),(5,qi 0)] (kE J)<|blC h (fun _=>⟨18,[]⟩) (fun _=>⟨[],[]⟩) (fun o15 h hr16=>zK (X:=Int) (fun x=>⟨18,[(0,qs a0),(1, .func (.func 245) [] []),(5,qi x)]⟩) (fun x=>⟨[],[]⟩) (fun k x=>uT n a0 k x=some o15) (fun _ hx=>by simp [uT]at hx) n 0 h (wk J) (fun k x h=>by revert h; revert x; intro v21 h; rw [uT]at h; exact za<|za<|rs [1] [(0,qs a0),(5,qi v21),(9,qb (decide (v21<(a0.length:Int))))] (kE J)<|bF h (fun h=>zf<|za<|zz<|za<|bE h fun x28 hx28 h=>bE h fun r29 hr29 h=>rs [1] [(0,qs a0),(5,qi v21),(17,qb (!r29))] (kP 3 (yj hx28)<|kC 4 J (XN hr29)<|kE J)<|bF h (fun h=>za<|rs [] [(4,qb false)] (kE J)<|zi<|zP<|zV<|have h:=hr16 _ (sI h); zR<|by cases h; exact rt J) fun h=>zf<|zy<|rsN zt [1] [(0,qs a0),(5,qi (wrap .i64 (v21+1)))] (kE J)<|⟨wrap .i64 (v21+1),h,wk J⟩) fun h=>zG<|zx<|zv<|⟨(),sI h,wk J⟩)) fun y14 h=>za<|rs [] [(4,qb true)] (kE J)<|zi<|by cases h; exact rt J
def bA (n:Nat)(a0:Int)(a1:C6):Option Bool:=
 if(a0==12)=true then((p9 n a1).bind fun r4=>
 some r4)else(if(a0==19)=true then((Zh n a1).bind fun r5=>
 some r5)else(if(a0==22)=true then((db n a1).bind fun r6=>
 some r6)else(some false)))
theorem Vs {n a0 a1 r}(h:bA n a0 a1=some r):AC mx 212 [qi a0,qs a1] [] (qb r) []:=by
 delta bA at h
 exact fnc Tryz.func212 rfl<|za<|rs [] [(0,qi a0),(1,qs a1)] (kE J)<|za<|za<|rs [] [(1,qs a1),(5,qi a0)] (kE J)<|zz<|za<|rs [] [(1,qs a1),(5,qi a0),(6,qb (a0==12))] (kE J)<|bF h (fun h=>za<|bE h fun r4 hr4 h=>rs [] [(4,qb r4)] (kC 1 J (UX hr4)<|kE J)<|zi<|zP<|by cases h; exact rt J) fun h=>za<|rs [] [(1,qs a1),(5,qi a0),(10,qb (a0==19))] (kE J)<|bF h (fun h=>za<|bE h fun r5 hr5 h=>rs [] [(4,qb r5)] (kC 1 J (UE hr5)<|kE J)<|zi<|zP<|by cases h; exact rt J) fun h=>za<|rs [] [(1,qs a1),(14,qb (a0==22))] (kE J)<|bF h (fun h=>za<|bE h fun r6 hr6 h=>rs [] [(4,qb r6)] (kC 1 J (W4 hr6)<|kE J)<|zi<|zP<|by cases h; exact rt J) fun h=>zf<|zy<|za<|rs [] [(4,qb false)] (kE J)<|zi<|by cases h; exact rt J
def xR (n:Nat)(x402:List zb)(x397:zb):Nat→Int→Option (Ctl Int Unit)
 |0,_=>none
 | k+1,v415=>
  if(decide (v415<(x402.length:Int)))=true then((z1 x402 v415).bind fun x419=>
  if(x419.yS==x397.yS)=true then(some (.ret 10))else(xR n x402 x397 k (wrap .i64 (v415+1))))else(some (.nxt ()))
def xe (n:Nat)(a0:List zb):Nat→Int→Option (Ctl Int Unit)
 |0,_=>none
 | k+1,v281=>
  if(decide (v281<(a0.length:Int)))=true then((z1 a0 v281).bind fun x397=>
  (jy n x397.yS).bind fun r398=>
  if(!r398)=true then(some (.ret 11))else((if(x397.wo==([]:C6))=true then(some true)else((bA n x397.zI x397.wo).bind fun r399=>
  some (!r399))).bind fun y401=>
  if y401=true then(some (.ret 13))else(if(decide ((x397.wo.length:Int)>64))=true then(some (.ret 2))else((lsl a0 0 v281).bind fun x402=>
  yW (xR n x402 x397 n 0) (fun r=>some (.ret r)) (fun y410=>
  xe n a0 k (wrap .i64 (v281+1)))))))else(some (.nxt ()))
def ui (n:Nat)(a0:List zb):Option Int:=
 if((a0.length:Int)==0)=true then(some 14)else(if(decide ((a0.length:Int)>4))=true then(some 2)else(yW (xe n a0 n 0) (fun r=>some r) (fun y209=>
 some 0)))
theorem pV {n a0 r}(h:ui n a0=some r):AC mx 160 [ql 3 zb.cells a0] [] (qi r) []:=by
 delta ui at h
 exact fnc Tryz.func160 rfl<|za<|rs [0] [] (kE J)<|za<|za<|rs [0] [(9,qb ((a0.length:Int)==0))] (kP 1 (zX (c:=zb.cells) (l:=a0) (e:=140) (sz:=3) (sz':=3) (b:=40) (tok:= .none))<|kE J)<|bF h (fun h=>za<|rs [] [(2,qi 14)] (kE J)<|zi<|by cases h; exact rt J) fun h=>zf<|za<|za<|rs [0] [(12,qb (decide ((a0.length:Int)>4)))] (kP 1 (zX (c:=zb.cells) (l:=a0) (e:=140) (sz:=3) (sz':=3) (b:=40) (tok:= .none))<|kE J)<|bF h (fun h=>za<|rs [] [(2,qi 2)] (kE J)<|zi<|by cases h; exact rt J) fun h=>zf<|za<|za<|rs [0] [(13,ql 3 zb.cells a0),(14,qi (a0.length:Int)),(15,qi 0)] (kP 1 (zX (c:=zb.cells) (l:=a0) (e:=140) (sz:=3) (sz':=3) (b:=40) (tok:= .none))<|kE J)<|blC h (fun _=>⟨54,[]⟩) (fun _=>⟨[],[]⟩) (fun o210 h hr211=>zK (X:=Int) (fun x=>⟨54,[(0,ql 3 zb.cells a0),(13,ql 3 zb.cells a0),(14,qi (a0.length:Int)),(15,qi x)]⟩) (fun x=>⟨[],[]⟩) (fun k x=>xe n a0 k x=some o210) (fun _ hx=>by simp [xe]at hx) n 0 h (wk J) (fun k x h=>by revert h; revert x; intro v281 h; rw [xe]at h; exact za<|rs [0,13,14,15] [(16,qb (decide (v281<(a0.length:Int))))] (kE J)<|za<|bF h (fun h=>zf<|za<|zz<|za<|bE h fun x397 hx397 h=>rm [0,13,14,15] [(3,qi v281),(4,qp 0)] ⟨[zb.cells x397],[]⟩ (kP 1 (zC (c:=zb.cells) (e:=140) (sz:=3) (b:=40) (tok:= .none) hx397)<|kE O)<|za<|za<|bE h fun r398 hr398 h=>rs [0,3,13,14,15] [(4,qp 0),(23,qb (!r398))] (kC 2 A0 (bR hr398)<|kE O)<|bF h (fun h=>za<|rm [] [(2,qi 11)] ⟨[],[]⟩ (kE A0)<|zi<|zP<|zV<|have h:=hr211 _ (sI h); zR<|by cases h; exact rt J) fun h=>zf<|za<|za<|bE h fun y401 hE h=>reg ⟨54,[(0,ql 3 zb.cells a0),(3,qi v281),(4,qp 0),(13,ql 3 zb.cells a0),(14,qi (a0.length:Int)),(15,qi v281),(34,qb y401)]⟩ ⟨[zb.cells x397],[]⟩ (have h:=hE; gF 4 27 h (fun h=>by cases h; exact kE O) fun h=>bE h fun r399 hr399 h=>kC 8 A0 (Vs hr399)<|by cases h; exact kE O)<|bF h (fun h=>za<|rm [] [(2,qi 13)] ⟨[],[]⟩ (kE A0)<|zi<|zP<|zV<|have h:=hr211 _ (sI h); zR<|by cases h; exact rt J) fun h=>zf<|za<|za<|rs [0,3,13,14,15] [(4,qp 0),(38,qb (decide ((x397.wo.length:Int)>64)))] (kE O)<|bF h (fun h=>za<|rm [] [(2,qi 2)] ⟨[],[]⟩ (kE A0)<|zi<|zP<|zV<|have h:=hr211 _ (sI h); zR<|by cases h; exact rt J) fun h=>zf<|za<|bE h fun x402 hx402 h=>rs [0,13,14,15] [(4,qp 0),(41,ql 3 zb.cells x402),(42,qi (x402.length:Int)),(43,qi 0)] (kP 2 (jb (k:= .i64) (c:=zb.cells) (e:=140) (sz:=3) (b:=40) (tok:= .none) hx402)<|kP 3 (zX (c:=zb.cells) (l:=x402) (e:=140) (sz:=3) (sz':=3) (b:=40) (tok:= .none))<|kE O)<|P8 h zN (fun _=>⟨54,[(0,ql 3 zb.cells a0),(13,ql 3 zb.cells a0),(14,qi (a0.length:Int)),(15,qi v281)]⟩) (fun _=>⟨[],[]⟩) (fun o411 h hr412=>zK (X:=Int) (fun x=>⟨54,[(0,ql 3 zb.cells a0),(4,qp 0),(13,ql 3 zb.cells a0),(14,qi (a0.length:Int)),(15,qi v281),(41,ql 3 zb.cells x402),(42,qi (x402.length:Int)),(43,qi x)]⟩) (fun x=>⟨[zb.cells x397],[]⟩) (fun k x=>xR n x402 x397 k x=some o411) (fun _ hx=>by simp [xR]at hx) n 0 h (wk O) (fun k x h=>by revert h; revert x; intro v415 h; rw [xR]at h; exact za<|rs [0,13,14,15,41,42,43] [(4,qp 0),(44,qb (decide (v415<(x402.length:Int))))] (kE O)<|za<|bF h (fun h=>zf<|za<|zz<|za<|bE h fun x419 hx419 h=>rm [0,13,14,15,41,42,43] [(4,qp 0),(6,qp 1)] ⟨[zb.cells x397,zb.cells x419],[]⟩ (kP 0 (zC (c:=zb.cells) (e:=140) (sz:=3) (b:=40) (tok:= .none) hx419)<|kE A1)<|za<|rm [0,13,14,15,41,42,43] [(4,qp 0),(51,qb (x419.yS==x397.yS))] ⟨[zb.cells x397],[]⟩ (kE A3)<|bF h (fun h=>za<|rm [] [(2,qi 10)] ⟨[],[]⟩ (kE A0)<|zi<|zP<|zV<|have h:=hr412 _ (sI h); zR<|zP<|zV<|have h:=hr211 _ (sI h); zR<|by cases h; exact rt J) fun h=>zf<|zy<|rsN zt [0,13,14,15,41,42] [(4,qp 0),(43,qi (wrap .i64 (v415+1)))] (kE O)<|⟨wrap .i64 (v415+1),h,wk O⟩) fun h=>zG<|zx<|zv<|⟨(),sI h,wk A0⟩)) fun y410 h=>zy<|rsN zt [0,13,14] [(15,qi (wrap .i64 (v281+1)))] (kE J)<|⟨wrap .i64 (v281+1),h,wk J⟩) fun h=>zG<|zx<|zv<|⟨(),sI h,wk J⟩)) fun y209 h=>za<|rs [] [(2,qi 0)] (kE J)<|zi<|by cases h; exact rt J
def un (n:Nat)(a0:zu):Nat→Int→Option (Ctl Int Unit)
 |0,_=>none
 | k+1,v21=>
  if(decide (v21<(a0.zk.length:Int)))=true then((z1 a0.zk v21).bind fun x28=>
  (ui n x28).bind fun r29=>
  if(r29 !=0)=true then(some (.ret r29))else(un n a0 k (wrap .i64 (v21+1))))else(some (.nxt ()))
def ut (n:Nat)(a0:zu):Option Int:=
 if(decide ((a0.zk.length:Int)>8))=true then(some 2)else(yW (un n a0 n 0) (fun r=>some r) (fun y14=>
 some 0))
theorem kG {n a0 r}(h:ut n a0=some r):AC mx 102 [.agg [ql 1 (cL 3 zb.cells) a0.zk]] [] (qi r) []:=by
 delta ut at h
 exact fnc Tryz.func102 rfl<|za<|rm [] [(1,qp 0)] ⟨[[ql 1 (cL 3 zb.cells) a0.zk]],[]⟩ (kE O)<|za<|za<|rs [] [(1,qp 0),(9,qb (decide ((a0.zk.length:Int)>8)))] (kP 2 (zX (c:=(cL 3 zb.cells)) (l:=a0.zk) (e:=141) (sz:=1) (sz':=1) (b:=24) (tok:= .none))<|kE O)<|bF h (fun h=>za<|rm [] [(2,qi 2)] ⟨[],[]⟩ (kE A0)<|zi<|by cases h; exact rt J) fun h=>zf<|za<|za<|rm [] [(11,ql 1 (cL 3 zb.cells) a0.zk),(12,qi (a0.zk.length:Int)),(13,qi 0)] ⟨[],[]⟩ (kP 2 (zX (c:=(cL 3 zb.cells)) (l:=a0.zk) (e:=141) (sz:=1) (sz':=1) (b:=24) (tok:= .none))<|kE A0)<|blC h (fun _=>⟨23,[]⟩) (fun _=>⟨[],[]⟩) (fun o15 h hr16=>zK (X:=Int) (fun x=>⟨23,[(11,ql 1 (cL 3 zb.cells) a0.zk),(12,qi (a0.zk.length:Int)),(13,qi x)]⟩) (fun x=>⟨[],[]⟩) (fun k x=>un n a0 k x=some o15) (fun _ hx=>by simp [un]at hx) n 0 h (wk J) (fun k x h=>by revert h; revert x; intro v21 h; rw [un]at h; exact za<|rs [11,12] [(13,qi v21),(14,qb (decide (v21<(a0.zk.length:Int))))] (kE J)<|za<|bF h (fun h=>zf<|za<|zz<|za<|bE h fun x28 hx28 h=>rs [11,12] [(4,ql 3 zb.cells x28),(13,qi v21)] (kP 0 (zC (c:=(cL 3 zb.cells)) (e:=141) (sz:=1) (b:=24) (tok:= .none) hx28)<|kE J)<|za<|bE h fun r29 hr29 h=>rs [11,12] [(5,qi r29),(13,qi v21)] (kC 1 J (pV hr29)<|kE J)<|za<|rs [11,12] [(5,qi r29),(13,qi v21),(20,qb (r29 !=0))] (kE J)<|bF h (fun h=>za<|rs [] [(2,qi r29)] (kE J)<|zi<|zP<|zV<|have h:=hr16 _ (sI h); zR<|by cases h; exact rt J) fun h=>zf<|zy<|rsN zt [11,12] [(13,qi (wrap .i64 (v21+1)))] (kE J)<|⟨wrap .i64 (v21+1),h,wk J⟩) fun h=>zG<|zx<|zv<|⟨(),sI h,wk J⟩)) fun y14 h=>za<|rs [] [(2,qi 0)] (kE J)<|zi<|by cases h; exact rt J
def v6 (n:Nat)(a0 a1:C6):Option (C6×C6×Bool):=
 (Y9 n a0 a1).bind fun r1=>
 if(decide (r1≥0))=true then((ssl a0 0 r1).bind fun x2=>
 (ssl a0 (wrap .i64 (r1+(a1.length:Int))) (a0.length)).bind fun x3=>
 some (x2,x3,true))else(some (a0,([]:C6),false))
theorem gP {n a0 a1 r}(h:v6 n a0 a1=some r):AC mx 274 [qs a0,qs a1] [] (.tuple [qs r.1,qs r.2.1,qb r.2.2]) []:=by
 delta v6 at h
 exact fnc Tryz.func274 rfl<|za<|rs [] [(0,qs a0),(1,qs a1)] (kE J)<|za<|za<|bE h fun r1 hr1 h=>rs [] [(0,qs a0),(1,qs a1),(7,qi r1)] (kC 2 J (J6 hr1)<|kE J)<|za<|rs [] [(0,qs a0),(1,qs a1),(7,qi r1),(12,qb (decide (r1≥0)))] (kE J)<|bF h (fun h=>za<|bE h fun x2 hx2 h=>bE h fun x3 hx3 h=>zs [0,1,2,3,4,5,6,7,8,9,10,11] [] [[],[],[0,1],[],[],[],[5],[4,5,6],[3,4,5,6,7],[0,1,2],[0,1,2,3,4,5,6,7,8,9],[0,1,2,3,4,5,6,7,8,9,10]] [] [(4,qs x2),(5,qs x3),(6,qb true)] (dS [0,1]<|dP (uo (k:= .i64) hx2)<|dS [3,4,5,6,7]<|dP (qI (k:= .i64) hx3)<|dS [9,10,11]<|dE J)<|zi<|by cases h; exact rt J) fun h=>zf<|za<|rs [] [(4,qs a0),(5,qs []),(6,qb false)] (kE J)<|zi<|by cases h; exact rt J
def gC (n:Nat)(a0 a1:C6):Option (C6×C6×Bool):=
 (v6 n a0 a1).bind fun r1=>
 some (r1.1,r1.2.1,r1.2.2)
theorem Wq {n a0 a1 r}(h:gC n a0 a1=some r):AC mx 253 [qs a0,qs a1] [] (.tuple [qs r.1,qs r.2.1,qb r.2.2]) []:=by
 delta gC at h
 exact fnc Tryz.func253 rfl<|za<|rs [] [(0,qs a0),(1,qs a1)] (kE J)<|za<|bE h fun r1 hr1 h=>rs [] [(4,qs r1.1),(5,qs r1.2.1),(6,qb r1.2.2)] (kC 2 J (gP hr1)<|kE J)<|zi<|by cases h; exact rt J
def wv (n:Nat)(a0 a1:C6):Option Bool:=
 (df n a0 a1).bind fun r1=>
 some (decide (r1≥0))
theorem gq {n a0 a1 r}(h:wv n a0 a1=some r):AC mx 256 [qs a0,qs a1] [] (qb r) []:=by
 delta wv at h
 exact fnc Tryz.func256 rfl<|za<|rs [] [(0,qs a0),(1,qs a1)] (kE J)<|za<|bE h fun r1 hr1 h=>rs [] [(4,qb (decide (r1≥0)))] (kC 2 J (VK hr1)<|kE J)<|zi<|by cases h; exact rt J
def qP (n:Nat)(a0:Int):Option Bool:=
 (if(decide (a0≥97))=true then(if(decide (a0≤122))=true then(some true)else(if(decide (a0≥65))=true then(some (decide (a0≤90)))else(some false)))else(if(decide (a0≥65))=true then(some (decide (a0≤90)))else(some false))).bind fun y2=>
 some y2
theorem Zi {n a0 r}(h:qP n a0=some r):AC mx 275 [qu a0] [] (qb r) []:=by
 delta qP at h
 exact fnc Tryz.func275 rfl<|za<|rs [] [(0,qu a0)] (kE J)<|za<|bE h fun y2 hE h=>reg ⟨17,[(2,qb y2)]⟩ ⟨[],[]⟩ (have h:=hE; gF 3 5 h (fun h=>gF 7 9 h (fun h=>by cases h; exact kE J) fun h=>gF 10 12 h (fun h=>by cases h; exact kE J) fun h=>by cases h; exact kE J) fun h=>gF 10 12 h (fun h=>by cases h; exact kE J) fun h=>by cases h; exact kE J)<|zi<|by cases h; exact rt J
def ku (n:Nat)(a0:Int):Option Bool:=
 (if(decide (a0≥48))=true then(some (decide (a0≤57)))else(some false)).bind fun y2=>
 some y2
theorem ZL {n a0 r}(h:ku n a0=some r):AC mx 276 [qu a0] [] (qb r) []:=by
 delta ku at h
 exact fnc Tryz.func276 rfl<|za<|rs [] [(0,qu a0)] (kE J)<|za<|bE h fun y2 hE h=>reg ⟨9,[(2,qb y2)]⟩ ⟨[],[]⟩ (have h:=hE; gF 3 5 h (fun h=>by cases h; exact kE J) fun h=>by cases h; exact kE J)<|zi<|by cases h; exact rt J
def uO (n:Nat)(a0:C6):Nat→Int→Option (Ctl Bool Unit)
 |0,_=>none
 | k+1,v114=>
  if(decide (v114<(List.length (s2b a0):Int)))=true then((z1 (s2b a0) v114).bind fun x154=>
  ((qP n x154).bind fun r164=>
  if r164=true then(some true)else((ku n x154).bind fun r165=>
  if r165=true then(some true)else((pe n ([33,35,36,37,38,39,42,43,45,47,61,63,94,95,96,123,124,125,126,46]:C6) x154).bind fun r166=>
  some (decide (r166≥0))))).bind fun y162=>
  if(!y162)=true then(some (.ret false))else(uO n a0 k (wrap .i64 (v114+1))))else(some (.nxt ()))
def bJ (n:Nat)(a0:C6):Option Bool:=
 (if(decide ((a0.length:Int)<1))=true then(some true)else(if(decide ((a0.length:Int)>64))=true then(some true)else((wl a0 0).bind fun x1=>
 if(x1==46)=true then(some true)else((wl a0 (wrap .i64 ((a0.length:Int)-1))).bind fun x2=>
 if(x2==46)=true then(some true)else((wv n a0 ([46,46]:C6)).bind fun r3=>
 some r3))))).bind fun y5=>
 if y5=true then(some false)else(yW (uO n a0 n 0) (fun r=>some r) (fun y85=>
 some true))
theorem Vr {n a0 r}(h:bJ n a0=some r):AC mx 254 [qs a0] [] (qb r) []:=by
 delta bJ at h
 exact fnc Tryz.func254 rfl<|za<|rs [] [(0,qs a0)] (kE J)<|za<|za<|bE h fun y5 hE h=>reg ⟨50,[(0,qs a0),(30,qb y5)]⟩ ⟨[],[]⟩ (have h:=hE; gF 4 9 h (fun h=>by cases h; exact kE J) fun h=>gF 9 14 h (fun h=>by cases h; exact kE J) fun h=>bE h fun x1 hx1 h=>kP 10 (yj hx1)<|gF 14 19 h (fun h=>by cases h; exact kE J) fun h=>bE h fun x2 hx2 h=>kP 18 (yj hx2)<|gF 22 27 h (fun h=>by cases h; exact kE J) fun h=>bE h fun r3 hr3 h=>kC 23 J (gq hr3)<|by cases h; exact kE J)<|bF h (fun h=>za<|rs [] [(2,qb false)] (kE J)<|zi<|by cases h; exact rt J) fun h=>zf<|za<|za<|rs [] [(32,ql 1 (cI .u8) (s2b a0)),(33,qi (List.length (s2b a0):Int)),(34,qi 0)] (kS 1 a0<|kP 2 (zX (c:=(cI .u8)) (l:=s2b a0) (e:=5) (sz:=1) (sz':=1) (b:=1) (tok:= .none))<|kE J)<|blC h (fun _=>⟨50,[]⟩) (fun _=>⟨[],[]⟩) (fun o86 h hr87=>zK (X:=Int) (fun x=>⟨50,[(32,ql 1 (cI .u8) (s2b a0)),(33,qi (List.length (s2b a0):Int)),(34,qi x)]⟩) (fun x=>⟨[],[]⟩) (fun k x=>uO n a0 k x=some o86) (fun _ hx=>by simp [uO]at hx) n 0 h (wk J) (fun k x h=>by revert h; revert x; intro v114 h; rw [uO]at h; exact za<|rs [32,33,34] [(35,qb (decide (v114<(List.length (s2b a0):Int))))] (kE J)<|za<|bF h (fun h=>zf<|za<|zz<|za<|bE h fun x154 hx154 h=>rs [32,33,34] [(4,qu x154)] (kP 0 (zC (c:=(cI .u8)) (e:=5) (sz:=1) (b:=1) (tok:= .none) hx154)<|kE J)<|za<|rs [4,32,33,34] [] (kE J)<|za<|blE h (fun y162=>⟨50,[(5,qb y162),(32,ql 1 (cI .u8) (s2b a0)),(33,qi (List.length (s2b a0):Int)),(34,qi v114)]⟩) (fun y162=>⟨[],[]⟩) (fun y162 h=>za<|zz<|za<|zz<|zz<|za<|za<|za<|bE h fun r164 hr164 h=>rs [4,32,33,34] [(38,qb r164)] (kC 1 J (Zi hr164)<|kE J)<|bF h (fun h=>zG<|JK<|zy<|za<|rs [32,33,34] [(5,qb true)] (kE J)<|zG<|gx (by kernel_rfl)<|zv<|⟨true,sI h,wk J⟩) fun h=>zf<|za<|bE h fun r165 hr165 h=>rs [4,32,33,34] [(41,qb r165)] (kC 1 J (ZL hr165)<|kE J)<|bF h (fun h=>zG<|gx (by kernel_rfl)<|JK<|za<|rs [32,33,34] [(5,qb true)] (kE J)<|zG<|gx (by kernel_rfl)<|zv<|⟨true,sI h,wk J⟩) fun h=>zf<|zG<|gx (by kernel_rfl)<|gx (by kernel_rfl)<|JK<|za<|bE h fun r166 hr166 h=>rs [32,33,34] [(5,qb (decide (r166≥0)))] (kC 1 J (Yw hr166)<|kE J)<|zG<|zv<|⟨decide (r166≥0),sI h,wk J⟩) fun y162 h=>za<|rs [32,33,34] [(48,qb (!y162))] (kE J)<|bF h (fun h=>za<|rs [] [(2,qb false)] (kE J)<|zi<|zP<|zV<|have h:=hr87 _ (sI h); zR<|by cases h; exact rt J) fun h=>zf<|zy<|rsN zt [32,33] [(34,qi (wrap .i64 (v114+1)))] (kE J)<|⟨wrap .i64 (v114+1),h,wk J⟩) fun h=>zG<|zx<|zv<|⟨(),sI h,wk J⟩)) fun y85 h=>za<|rs [] [(2,qb true)] (kE J)<|zi<|by cases h; exact rt J
def uM (n:Nat)(a0:C6):Nat→Int→Option (Ctl Bool Unit)
 |0,_=>none
 | k+1,v49=>
  if(decide (v49<(List.length (s2b a0):Int)))=true then((z1 (s2b a0) v49).bind fun x65=>
  ((qP n x65).bind fun r66=>
  if(!r66)=true then((ku n x65).bind fun r67=>
  if(!r67)=true then(some (x65 !=45))else(some false))else(some false)).bind fun y69=>
  if y69=true then(some (.ret false))else(uM n a0 k (wrap .i64 (v49+1))))else(some (.nxt ()))
def bB (n:Nat)(a0:C6):Option Bool:=
 (if(decide ((a0.length:Int)<1))=true then(some true)else(if(decide ((a0.length:Int)>63))=true then(some true)else((wl a0 0).bind fun x1=>
 if(x1==45)=true then(some true)else((wl a0 (wrap .i64 ((a0.length:Int)-1))).bind fun x2=>
 some (x2==45))))).bind fun y4=>
 if y4=true then(some false)else(yW (uM n a0 n 0) (fun r=>some r) (fun y36=>
 some true))
theorem Vc {n a0 r}(h:bB n a0=some r):AC mx 272 [qs a0] [] (qb r) []:=by
 delta bB at h
 exact fnc Tryz.func272 rfl<|za<|rs [] [(0,qs a0)] (kE J)<|za<|za<|bE h fun y4 hE h=>reg ⟨46,[(0,qs a0),(25,qb y4)]⟩ ⟨[],[]⟩ (have h:=hE; gF 4 8 h (fun h=>by cases h; exact kE J) fun h=>gF 9 13 h (fun h=>by cases h; exact kE J) fun h=>bE h fun x1 hx1 h=>kP 10 (yj hx1)<|gF 14 18 h (fun h=>by cases h; exact kE J) fun h=>bE h fun x2 hx2 h=>kP 18 (yj hx2)<|by cases h; exact kE J)<|bF h (fun h=>za<|rs [] [(2,qb false)] (kE J)<|zi<|by cases h; exact rt J) fun h=>zf<|za<|za<|rs [] [(27,ql 1 (cI .u8) (s2b a0)),(28,qi (List.length (s2b a0):Int)),(29,qi 0)] (kS 1 a0<|kP 2 (zX (c:=(cI .u8)) (l:=s2b a0) (e:=5) (sz:=1) (sz':=1) (b:=1) (tok:= .none))<|kE J)<|blC h (fun _=>⟨46,[]⟩) (fun _=>⟨[],[]⟩) (fun o37 h hr38=>zK (X:=Int) (fun x=>⟨46,[(27,ql 1 (cI .u8) (s2b a0)),(28,qi (List.length (s2b a0):Int)),(29,qi x)]⟩) (fun x=>⟨[],[]⟩) (fun k x=>uM n a0 k x=some o37) (fun _ hx=>by simp [uM]at hx) n 0 h (wk J) (fun k x h=>by revert h; revert x; intro v49 h; rw [uM]at h; exact za<|rs [27,28] [(29,qi v49),(30,qb (decide (v49<(List.length (s2b a0):Int))))] (kE J)<|za<|bF h (fun h=>zf<|za<|zz<|za<|bE h fun x65 hx65 h=>rs [27,28] [(4,qu x65),(29,qi v49)] (kP 0 (zC (c:=(cI .u8)) (e:=5) (sz:=1) (b:=1) (tok:= .none) hx65)<|kE J)<|za<|bE h fun y69 hE h=>reg ⟨46,[(27,ql 1 (cI .u8) (s2b a0)),(28,qi (List.length (s2b a0):Int)),(29,qi v49),(44,qb y69)]⟩ ⟨[],[]⟩ (have h:=hE; bE h fun r66 hr66 h=>kC 1 J (Zi hr66)<|gF 4 36 h (fun h=>bE h fun r67 hr67 h=>kC 5 J (ZL hr67)<|gF 9 41 h (fun h=>by cases h; exact kE J) fun h=>by cases h; exact kE J) fun h=>by cases h; exact kE J)<|bF h (fun h=>za<|rs [] [(2,qb false)] (kE J)<|zi<|zP<|zV<|have h:=hr38 _ (sI h); zR<|by cases h; exact rt J) fun h=>zf<|zy<|rsN zt [27,28] [(29,qi (wrap .i64 (v49+1)))] (kE J)<|⟨wrap .i64 (v49+1),h,wk J⟩) fun h=>zG<|zx<|zv<|⟨(),sI h,wk J⟩)) fun y36 h=>za<|rs [] [(2,qb true)] (kE J)<|zi<|by cases h; exact rt J
def jL (n:Nat)(r1:List C6):Nat→Int→Option (Ctl Bool Unit)
 |0,_=>none
 | k+1,v22=>
  if(decide (v22<(r1.length:Int)))=true then((z1 r1 v22).bind fun x29=>
  (bB n x29).bind fun r30=>
  if(!r30)=true then(some (.ret false))else(jL n r1 k (wrap .i64 (v22+1))))else(some (.nxt ()))
def kM (n:Nat)(a0:C6):Option Bool:=
 if(decide ((a0.length:Int)>128))=true then(some false)else((jH n a0 ([46]:C6)).bind fun r1=>
 yW (jL n r1 n 0) (fun r=>some r) (fun y15=>
 some true))
theorem pA {n a0 r}(h:kM n a0=some r):AC mx 251 [qs a0] [] (qb r) []:=by
 delta kM at h
 exact fnc Tryz.func251 rfl<|za<|rs [] [(0,qs a0)] (kE J)<|za<|za<|rs [] [(0,qs a0),(7,qb (decide ((a0.length:Int)>128)))] (kE J)<|bF h (fun h=>za<|rs [] [(2,qb false)] (kE J)<|zi<|by cases h; exact rt J) fun h=>zf<|za<|za<|bE h fun r1 hr1 h=>rs [] [(9,ql 1 cS r1),(10,qi (r1.length:Int)),(11,qi 0)] (kC 1 J (dN hr1)<|kP 2 (zX (c:=cS) (l:=r1) (e:=9) (sz:=1) (sz':=1) (b:=16) (tok:= .none))<|kE J)<|blC h (fun _=>⟨19,[]⟩) (fun _=>⟨[],[]⟩) (fun o16 h hr17=>zK (X:=Int) (fun x=>⟨19,[(9,ql 1 cS r1),(10,qi (r1.length:Int)),(11,qi x)]⟩) (fun x=>⟨[],[]⟩) (fun k x=>jL n r1 k x=some o16) (fun _ hx=>by simp [jL]at hx) n 0 h (wk J) (fun k x h=>by revert h; revert x; intro v22 h; rw [jL]at h; exact za<|rs [9,10] [(11,qi v22),(12,qb (decide (v22<(r1.length:Int))))] (kE J)<|za<|bF h (fun h=>zf<|za<|zz<|za<|bE h fun x29 hx29 h=>rs [9,10] [(4,qs x29),(11,qi v22)] (kP 0 (zC (c:=cS) (e:=9) (sz:=1) (b:=16) (tok:= .none) hx29)<|kE J)<|za<|bE h fun r30 hr30 h=>rs [9,10] [(11,qi v22),(17,qb (!r30))] (kC 1 J (Vc hr30)<|kE J)<|bF h (fun h=>za<|rs [] [(2,qb false)] (kE J)<|zi<|zP<|zV<|have h:=hr17 _ (sI h); zR<|by cases h; exact rt J) fun h=>zf<|zy<|rsN zt [9,10] [(11,qi (wrap .i64 (v22+1)))] (kE J)<|⟨wrap .i64 (v22+1),h,wk J⟩) fun h=>zG<|zx<|zv<|⟨(),sI h,wk J⟩)) fun y15 h=>za<|rs [] [(2,qb true)] (kE J)<|zi<|by cases h; exact rt J
def gg (n:Nat)(a0:C6):Option Bool:=
 (gC n a0 ([64]:C6)).bind fun r1=>
 (if r1.2.2=true then(if(decide ((a0.length:Int)≤128))=true then((bJ n r1.1).bind fun r2=>
 if r2=true then((kM n r1.2.1).bind fun r3=>
 some r3)else(some false))else(some false))else(some false)).bind fun y5=>
 some y5
theorem VS {n a0 r}(h:gg n a0=some r):AC mx 222 [qs a0] [] (qb r) []:=by
 delta gg at h
 exact fnc Tryz.func222 rfl<|za<|rs [] [(0,qs a0)] (kE J)<|za<|bE h fun r1 hr1 h=>rs [] [(0,qs a0),(3,qs r1.1),(4,qs r1.2.1),(5,qb r1.2.2)] (kC 1 J (Wq hr1)<|kE J)<|za<|bE h fun y5 hE h=>reg ⟨26,[(2,qb y5)]⟩ ⟨[],[]⟩ (have h:=hE; gF 2 13 h (fun h=>gF 7 18 h (fun h=>bE h fun r2 hr2 h=>kC 8 J (Vr hr2)<|gF 11 22 h (fun h=>bE h fun r3 hr3 h=>kC 12 J (pA hr3)<|by cases h; exact kE J) fun h=>by cases h; exact kE J) fun h=>by cases h; exact kE J) fun h=>by cases h; exact kE J)<|zi<|by cases h; exact rt J
def wT (n:Nat)(a0 a1:C6):Option (C6×Bool):=
 (yT n a0 a1).bind fun r1=>
 if(!r1)=true then(some (a0,false))else((ssl a0 (a1.length:Int) (a0.length)).bind fun x2=>
 some (x2,true))
theorem br {n a0 a1 r}(h:wT n a0 a1=some r):AC mx 277 [qs a0,qs a1] [] (.tuple [qs r.1,qb r.2]) []:=by
 delta wT at h
 exact fnc Tryz.func277 rfl<|za<|rs [] [(0,qs a0),(1,qs a1)] (kE J)<|za<|za<|bE h fun r1 hr1 h=>rs [] [(0,qs a0),(1,qs a1),(9,qb (!r1))] (kC 2 J (jw hr1)<|kE J)<|bF h (fun h=>za<|rs [] [(4,qs a0),(5,qb false)] (kE J)<|zi<|by cases h; exact rt J) fun h=>zf<|za<|bE h fun x2 hx2 h=>rs [] [(4,qs x2),(5,qb true)] (kP 3 (qI (k:= .i64) hx2)<|kE J)<|zi<|by cases h; exact rt J
def jd (n:Nat)(a0 a1:C6):Option (C6×Bool):=
 (wT n a0 a1).bind fun r1=>
 some (r1.1,r1.2)
theorem ZH {n a0 a1 r}(h:jd n a0 a1=some r):AC mx 255 [qs a0,qs a1] [] (.tuple [qs r.1,qb r.2]) []:=by
 delta jd at h
 exact fnc Tryz.func255 rfl<|za<|rs [] [(0,qs a0),(1,qs a1)] (kE J)<|za<|bE h fun r1 hr1 h=>rs [] [(4,qs r1.1),(5,qb r1.2)] (kC 2 J (br hr1)<|kE J)<|zi<|by cases h; exact rt J
def kj (n:Nat)(a0:C6):Option Bool:=
 (jd n a0 ([42,46]:C6)).bind fun r1=>
 if r1.2=true then((if(decide ((a0.length:Int)≤128))=true then((kM n r1.1).bind fun r2=>
 if r2=true then((wv n r1.1 ([46]:C6)).bind fun r3=>
 some r3)else(some false))else(some false)).bind fun y5=>
 some y5)else((kM n a0).bind fun r6=>
 some r6)
theorem Xu {n a0 r}(h:kj n a0=some r):AC mx 224 [qs a0] [] (qb r) []:=by
 delta kj at h
 exact fnc Tryz.func224 rfl<|za<|rs [] [(0,qs a0)] (kE J)<|za<|za<|bE h fun r1 hr1 h=>rs [] [(0,qs a0),(3,qs r1.1),(4,qb r1.2)] (kC 1 J (ZH hr1)<|kE J)<|za<|rs [3] [(0,qs a0),(10,qb r1.2)] (kE J)<|bF h (fun h=>za<|bE h fun y5 hE h=>reg ⟨24,[(2,qb y5)]⟩ ⟨[],[]⟩ (have h:=hE; gF 4 14 h (fun h=>bE h fun r2 hr2 h=>kC 5 J (pA hr2)<|gF 8 18 h (fun h=>bE h fun r3 hr3 h=>kC 9 J (gq hr3)<|by cases h; exact kE J) fun h=>by cases h; exact kE J) fun h=>by cases h; exact kE J)<|zi<|by cases h; exact rt J) fun h=>zf<|za<|bE h fun r6 hr6 h=>rs [] [(2,qb r6)] (kC 1 J (pA hr6)<|kE J)<|zi<|by cases h; exact rt J
def ki (n:Nat)(a0:C6):Option Bool:=
 (if((a0.length:Int)==4)=true then(some true)else(some ((a0.length:Int)==16))).bind fun y2=>
 some y2
theorem XZ {n a0 r}(h:ki n a0=some r):AC mx 226 [qs a0] [] (qb r) []:=by
 delta ki at h
 exact fnc Tryz.func226 rfl<|za<|rs [] [(0,qs a0)] (kE J)<|za<|bE h fun y2 hE h=>reg ⟨11,[(2,qb y2)]⟩ ⟨[],[]⟩ (have h:=hE; gF 4 6 h (fun h=>by cases h; exact kE J) fun h=>by cases h; exact kE J)<|zi<|by cases h; exact rt J
def xI (n:Nat)(a0:Int)(a1:C6)(a2:Bool):Option Bool:=
 if(a0==0)=true then((if a2=true then(none)else(if(!a2)=true then((gg n a1).bind fun r10=>
 some r10)else(some false))).bind fun y12=>
 some y12)else(if(a0==1)=true then((if a2=true then(none)else(if(!a2)=true then((kj n a1).bind fun r13=>
 some r13)else(some false))).bind fun y15=>
 some y15)else(if(a0==3)=true then((if a2=true then(none)else(if(!a2)=true then((ki n a1).bind fun r16=>
 some r16)else(some false))).bind fun y18=>
 some y18)else(some false)))
theorem Ym {n a0 a1 a2 r}(h:xI n a0 a1 a2=some r):AC mx 171 [qi a0,qs a1,qb a2] [] (qb r) []:=by
 delta xI at h
 exact fnc Tryz.func171 rfl<|za<|rs [] [(0,qi a0),(1,qs a1),(2,qb a2)] (kE J)<|za<|za<|rs [] [(1,qs a1),(2,qb a2),(7,qi a0)] (kE J)<|zz<|za<|rs [] [(1,qs a1),(2,qb a2),(7,qi a0),(8,qb (a0==0))] (kE J)<|bF h (fun h=>za<|bE h fun y12 hE h=>reg ⟨53,[(6,qb y12)]⟩ ⟨[],[]⟩ (have h:=hE; gF 2 11 h (fun h=>nE h) fun h=>gF 9 18 h (fun h=>bE h fun r10 hr10 h=>kC 10 J (VS hr10)<|by cases h; exact kE J) fun h=>by cases h; exact kE J)<|zi<|zP<|by cases h; exact rt J) fun h=>za<|rs [] [(1,qs a1),(2,qb a2),(7,qi a0),(23,qb (a0==1))] (kE J)<|bF h (fun h=>za<|bE h fun y15 hE h=>reg ⟨53,[(6,qb y15)]⟩ ⟨[],[]⟩ (have h:=hE; gF 2 26 h (fun h=>nE h) fun h=>gF 9 33 h (fun h=>bE h fun r13 hr13 h=>kC 10 J (Xu hr13)<|by cases h; exact kE J) fun h=>by cases h; exact kE J)<|zi<|zP<|by cases h; exact rt J) fun h=>za<|rs [] [(1,qs a1),(2,qb a2),(38,qb (a0==3))] (kE J)<|bF h (fun h=>za<|bE h fun y18 hE h=>reg ⟨53,[(6,qb y18)]⟩ ⟨[],[]⟩ (have h:=hE; gF 2 41 h (fun h=>nE h) fun h=>gF 9 48 h (fun h=>bE h fun r16 hr16 h=>kC 10 J (XZ hr16)<|by cases h; exact kE J) fun h=>by cases h; exact kE J)<|zi<|zP<|by cases h; exact rt J) fun h=>zf<|zy<|za<|rs [] [(6,qb false)] (kE J)<|zi<|by cases h; exact rt J
def wQ (n:Nat)(a0:zc)(a1:Bool):Option Int:=
 (gd n a0.zI).bind fun r1=>
 if(r1==4)=true then(some 14)else(if(r1==2)=true then(if(!(a0.ye==([]:C6)))=true then(some 14)else((ut n (zu.mk a0.zr.zk)).bind fun r6=>
 some r6))else((if(decide ((a0.zr.zk.length:Int)>0))=true then(some true)else((xI n r1 a0.ye a1).bind fun r7=>
 some (!r7))).bind fun y9=>
 if y9=true then(some 14)else(some 0)))
theorem Zd {n a0 a1 r}(h:wQ n a0 a1=some r):AC mx 111 [.agg (zc.cells a0),qb a1] [] (qi r) []:=by
 delta wQ at h
 exact fnc Tryz.func111 rfl<|za<|rm [] [(1,qb a1),(2,qp 0)] ⟨[zc.cells a0],[]⟩ (kE O)<|za<|za<|bE h fun r1 hr1 h=>rs [] [(1,qb a1),(2,qp 0),(5,qi r1)] (kC 2 A0 (Ue hr1)<|kE O)<|za<|rs [] [(1,qb a1),(2,qp 0),(5,qi r1),(9,qi r1)] (kE O)<|zz<|za<|rs [] [(1,qb a1),(2,qp 0),(5,qi r1),(9,qi r1),(23,qb (r1==4))] (kE O)<|bF h (fun h=>za<|rm [] [(4,qi 14)] ⟨[],[]⟩ (kE A0)<|zi<|zP<|by cases h; exact rt J) fun h=>za<|rs [] [(1,qb a1),(2,qp 0),(5,qi r1),(25,qb (r1==2))] (kE O)<|bF h (fun h=>za<|za<|rs [] [(2,qp 0),(29,qb (!(a0.ye==([]:C6))))] (kE O)<|bF h (fun h=>za<|rm [] [(4,qi 14)] ⟨[],[]⟩ (kE A0)<|zi<|zP<|by cases h; exact rt J) fun h=>zf<|za<|bE h fun r6 hr6 h=>rm [] [(4,qi r6)] ⟨[],[]⟩ (kC 2 A0 (kG hr6)<|kE A0)<|zi<|zP<|by cases h; exact rt J) fun h=>za<|bE h fun y9 hE h=>reg ⟨33,[(22,qb y9)]⟩ ⟨[],[]⟩ (have h:=hE; kP 3 (zX (c:=(cL 3 zb.cells)) (l:=a0.zr.zk) (e:=141) (sz:=1) (sz':=1) (b:=24) (tok:= .none))<|gF 6 15 h (fun h=>by cases h; exact kE A0) fun h=>bE h fun r7 hr7 h=>kC 10 A0 (Ym hr7)<|by cases h; exact kE A0)<|bF h (fun h=>za<|rs [] [(4,qi 14)] (kE J)<|zi<|zP<|by cases h; exact rt J) fun h=>zf<|zy<|za<|rs [] [(4,qi 0)] (kE J)<|zi<|by cases h; exact rt J
def jp (n:Nat)(a0:zB):Option Int:=
 (if(decide (a0.zA<0))=true then(some true)else(if(decide (a0.zA>8))=true then(some true)else(if((a0.wm.length:Int) !=16)=true then(some true)else(some ((a0.zT.length:Int) !=16))))).bind fun y2=>
 if y2=true then(some 18)else(some 0)
theorem pi {n a0 r}(h:jp n a0=some r):AC mx 112 [.agg (zB.cells a0)] [] (qi r) []:=by
 delta jp at h
 exact fnc Tryz.func112 rfl<|za<|rm [] [(1,qp 0)] ⟨[zB.cells a0],[]⟩ (kE O)<|za<|za<|bE h fun y2 hE h=>reg ⟨23,[(22,qb y2)]⟩ ⟨[],[]⟩ (have h:=hE; gF 4 6 h (fun h=>by cases h; exact kE A0) fun h=>gF 9 11 h (fun h=>by cases h; exact kE A0) fun h=>gF 15 17 h (fun h=>by cases h; exact kE A0) fun h=>by cases h; exact kE A0)<|bF h (fun h=>za<|rs [] [(2,qi 18)] (kE J)<|zi<|by cases h; exact rt J) fun h=>zf<|za<|rs [] [(2,qi 0)] (kE J)<|zi<|by cases h; exact rt J
def yb (n:Nat)(a0:zl):Nat→Int→(List (C6×Bool))→Option (Ctl Int (List (C6×Bool)))
 |0,_,_=>none
 | k+1,v41,v42=>
  if(decide (v41<(a0.zo.length:Int)))=true then((z1 a0.zo v41).bind fun x49=>
  (jy n x49).bind fun r50=>
  if(!r50)=true then(some (.ret 11))else(yb n a0 k (wrap .i64 (v41+1)) (Xg x49 true v42)))else(some (.nxt v42))
def yE (n:Nat)(a0:zl):Nat→Int→Option (Ctl Int Unit)
 |0,_=>none
 | k+1,v71=>
  if(decide (v71<(a0.zD.length:Int)))=true then((z1 a0.zD v71).bind fun x78=>
  (wQ n (zc.mk x78.zI x78.ye (zu.mk x78.zr.zk)) false).bind fun r79=>
  if(r79 !=0)=true then(some (.ret r79))else(yE n a0 k (wrap .i64 (v71+1))))else(some (.nxt ()))
def yF (n:Nat)(a0:zl):Nat→Int→Option (Ctl Int Unit)
 |0,_=>none
 | k+1,v108=>
  if(decide (v108<(a0.zn.length:Int)))=true then((z1 a0.zn v108).bind fun x118=>
  (ut n (zu.mk x118.zr.zk)).bind fun r119=>
  if(r119 !=0)=true then(some (.ret r119))else(if((x118.zr.zk.length:Int)==0)=true then(some (.ret 14))else((jp n (zB.mk x118.zw.zA x118.zw.wm x118.zw.zT)).bind fun r120=>
  if(r120 !=0)=true then(some (.ret r120))else(yF n a0 k (wrap .i64 (v108+1))))))else(some (.nxt ()))
def wh (n:Nat)(a0:zl):Option Int:=
 (if(decide (a0.qT<0))=true then(some true)else(some (decide (a0.qT>254033452799)))).bind fun y11=>
 if y11=true then(some 12)else((if(!(a0.zM==([]:C6)))=true then((jy n a0.zM).bind fun r12=>
 some (!r12))else(some false)).bind fun y14=>
 if y14=true then(some 11)else((if(decide (a0.wb<0))=true then(some true)else(if(decide (a0.wb>511))=true then(some true)else(if(decide (a0.yU<1))=true then(some true)else(some (decide (a0.yU>8)))))).bind fun y16=>
 if y16=true then(some 1)else((if(decide ((a0.zo.length:Int)>8))=true then(some true)else(if(decide ((a0.zD.length:Int)>16))=true then(some true)else(some (decide ((a0.zn.length:Int)>64))))).bind fun y18=>
 if y18=true then(some 2)else(yW (yb n a0 n 0 ([]:List (C6×Bool))) (fun r=>some r) (fun y34=>
 if(decide ((y34.length:Int)<(a0.zo.length:Int)))=true then(some 10)else(yW (yE n a0 n 0) (fun r=>some r) (fun y64=>
 yW (yF n a0 n 0) (fun r=>some r) (fun y99=>
 some 0))))))))
theorem YW {n a0 r}(h:wh n a0=some r):AC mx 42 [.agg (zl.cells a0)] [] (qi r) []:=by
 delta wh at h
 exact fnc Tryz.func42 rfl<|za<|rm [] [(1,qp 0)] ⟨[zl.cells a0],[]⟩ (kE O)<|za<|zz<|za<|bE h fun y11 hE h=>reg ⟨126,[(1,qp 0),(13,qb y11)]⟩ ⟨[zl.cells a0],[]⟩ (have h:=hE; gF 4 17 h (fun h=>by cases h; exact kE O) fun h=>by cases h; exact kE O)<|bF h (fun h=>za<|rm [] [(2,qi 12)] ⟨[],[]⟩ (kE A0)<|zi<|zP<|by cases h; exact rt J) fun h=>za<|bE h fun y14 hE h=>reg ⟨126,[(1,qp 0),(22,qb y14)]⟩ ⟨[zl.cells a0],[]⟩ (have h:=hE; gF 4 26 h (fun h=>bE h fun r12 hr12 h=>kC 6 A0 (bR hr12)<|by cases h; exact kE O) fun h=>by cases h; exact kE O)<|bF h (fun h=>za<|rm [] [(2,qi 11)] ⟨[],[]⟩ (kE A0)<|zi<|zP<|by cases h; exact rt J) fun h=>za<|bE h fun y16 hE h=>reg ⟨126,[(1,qp 0),(32,qb y16)]⟩ ⟨[zl.cells a0],[]⟩ (have h:=hE; gF 4 36 h (fun h=>by cases h; exact kE O) fun h=>gF 9 41 h (fun h=>by cases h; exact kE O) fun h=>gF 14 46 h (fun h=>by cases h; exact kE O) fun h=>by cases h; exact kE O)<|bF h (fun h=>za<|rm [] [(2,qi 1)] ⟨[],[]⟩ (kE A0)<|zi<|zP<|by cases h; exact rt J) fun h=>za<|bE h fun y18 hE h=>reg ⟨126,[(1,qp 0),(51,qb y18)]⟩ ⟨[zl.cells a0],[]⟩ (have h:=hE; kP 2 (zX (c:=cS) (l:=a0.zo) (e:=9) (sz:=1) (sz':=1) (b:=16) (tok:= .none))<|gF 5 56 h (fun h=>by cases h; exact kE O) fun h=>kP 7 (zX (c:=zc.cells) (l:=a0.zD) (e:=59) (sz:=3) (sz':=3) (b:=48) (tok:= .none))<|gF 11 62 h (fun h=>by cases h; exact kE O) fun h=>kP 13 (zX (c:=ze.cells) (l:=a0.zn) (e:=68) (sz:=4) (sz':=4) (b:=64) (tok:= .none))<|by cases h; exact kE O)<|bF h (fun h=>za<|rm [] [(2,qi 2)] ⟨[],[]⟩ (kE A0)<|zi<|zP<|by cases h; exact rt J) fun h=>zf<|zy<|za<|rm [] [(1,qp 0),(3, .mapv 1)] ⟨[zl.cells a0,[.mp (mpc vB ([]:List (C6×Bool)))]],[]⟩ (kE A1)<|za<|za<|rs [3] [(1,qp 0),(70,ql 1 cS a0.zo),(71,qi (a0.zo.length:Int)),(72,qi 0)] (kP 2 (zX (c:=cS) (l:=a0.zo) (e:=9) (sz:=1) (sz':=1) (b:=16) (tok:= .none))<|kE A1)<|blC h (fun y34=>⟨126,[(1,qp 0),(3, .mapv 1)]⟩) (fun y34=>⟨[zl.cells a0,[.mp (mpc vB y34)]],[]⟩) (fun o35 h hr36=>zK (X:=(Int×(List (C6×Bool)))) (fun x=>⟨126,[(1,qp 0),(3, .mapv 1),(70,ql 1 cS a0.zo),(71,qi (a0.zo.length:Int)),(72,qi x.1)]⟩) (fun x=>⟨[zl.cells a0,[.mp (mpc vB x.2)]],[]⟩) (fun k x=>yb n a0 k x.1 x.2=some o35) (fun _ hx=>by simp [yb]at hx) n (0,([]:List (C6×Bool))) h (wk A1) (fun k x h=>by obtain⟨v41,v42⟩:=x; rw [yb]at h; exact za<|rs [3,70,71] [(1,qp 0),(72,qi v41),(73,qb (decide (v41<(a0.zo.length:Int))))] (kE A1)<|za<|bF h (fun h=>zf<|za<|zz<|za<|bE h fun x49 hx49 h=>rs [3,70,71] [(1,qp 0),(5,qs x49),(72,qi v41)] (kP 0 (zC (c:=cS) (e:=9) (sz:=1) (b:=16) (tok:= .none) hx49)<|kE A1)<|za<|za<|bE h fun r50 hr50 h=>rs [3,70,71] [(1,qp 0),(5,qs x49),(72,qi v41),(78,qb (!r50))] (kC 1 A8 (bR hr50)<|kE A1)<|bF h (fun h=>za<|rm [] [(2,qi 11)] ⟨[],[]⟩ (kE A8)<|zi<|zP<|zV<|have h:=hr36 _ (sI h); zR<|by cases h; exact rt J) fun h=>zf<|rmN zN [3,70,71] [(1,qp 0),(72,qi v41)] ⟨[zl.cells a0,[.mp (mpc vB (Xg x49 true v42))]],[]⟩ (kV 2 2 0 1 (lv (T:=tyT) (c:=vB) (e:=v42) (k:=x49) true (kt:=9) (et:=4) (by kernel_rfl) (fun _=>rfl))<|kE A1)<|zy<|rsN zt [3,70,71] [(1,qp 0),(72,qi (wrap .i64 (v41+1)))] (kE A1)<|⟨(wrap .i64 (v41+1),Xg x49 true v42),h,wk A1⟩) fun h=>zG<|zx<|zv<|⟨v42,sI h,wk A1⟩)) fun y34 h=>za<|za<|rm [] [(1,qp 0),(87,qb (decide ((y34.length:Int)<(a0.zo.length:Int))))] ⟨[zl.cells a0],[]⟩ (kP 1 (lH (c:=vB) (e:=y34))<|kP 4 (zX (c:=cS) (l:=a0.zo) (e:=9) (sz:=1) (sz':=1) (b:=16) (tok:= .none))<|kE A3)<|bF h (fun h=>za<|rm [] [(2,qi 10)] ⟨[],[]⟩ (kE A0)<|zi<|by cases h; exact rt J) fun h=>zf<|za<|za<|rs [] [(1,qp 0),(89,ql 3 zc.cells a0.zD),(90,qi (a0.zD.length:Int)),(91,qi 0)] (kP 2 (zX (c:=zc.cells) (l:=a0.zD) (e:=59) (sz:=3) (sz':=3) (b:=48) (tok:= .none))<|kE O)<|blC h (fun _=>⟨126,[(1,qp 0)]⟩) (fun _=>⟨[zl.cells a0],[]⟩) (fun o65 h hr66=>zK (X:=Int) (fun x=>⟨126,[(1,qp 0),(89,ql 3 zc.cells a0.zD),(90,qi (a0.zD.length:Int)),(91,qi x)]⟩) (fun x=>⟨[zl.cells a0],[]⟩) (fun k x=>yE n a0 k x=some o65) (fun _ hx=>by simp [yE]at hx) n 0 h (wk O) (fun k x h=>by revert h; revert x; intro v71 h; rw [yE]at h; exact za<|rs [89,90] [(1,qp 0),(91,qi v71),(92,qb (decide (v71<(a0.zD.length:Int))))] (kE O)<|za<|bF h (fun h=>zf<|za<|zz<|za<|bE h fun x78 hx78 h=>rm [89,90] [(1,qp 0),(7,qp 1),(91,qi v71)] ⟨[zl.cells a0,zc.cells x78],[]⟩ (kP 0 (zC (c:=zc.cells) (e:=59) (sz:=3) (b:=48) (tok:= .none) hx78)<|kE A1)<|za<|bE h fun r79 hr79 h=>rm [89,90] [(1,qp 0),(8,qi r79),(91,qi v71)] ⟨[zl.cells a0],[]⟩ (kC 1 A8 (Zd hr79)<|kE A3)<|za<|rs [89,90] [(1,qp 0),(8,qi r79),(91,qi v71),(98,qb (r79 !=0))] (kE O)<|bF h (fun h=>za<|rm [] [(2,qi r79)] ⟨[],[]⟩ (kE A0)<|zi<|zP<|zV<|have h:=hr66 _ (sI h); zR<|by cases h; exact rt J) fun h=>zf<|zy<|rsN zt [89,90] [(1,qp 0),(91,qi (wrap .i64 (v71+1)))] (kE O)<|⟨wrap .i64 (v71+1),h,wk O⟩) fun h=>zG<|zx<|zv<|⟨(),sI h,wk O⟩)) fun y64 h=>za<|za<|rm [] [(102,ql 4 ze.cells a0.zn),(103,qi (a0.zn.length:Int)),(104,qi 0)] ⟨[],[]⟩ (kP 2 (zX (c:=ze.cells) (l:=a0.zn) (e:=68) (sz:=4) (sz':=4) (b:=64) (tok:= .none))<|kE A0)<|blC h (fun _=>⟨126,[]⟩) (fun _=>⟨[],[]⟩) (fun o100 h hr101=>zK (X:=Int) (fun x=>⟨126,[(102,ql 4 ze.cells a0.zn),(103,qi (a0.zn.length:Int)),(104,qi x)]⟩) (fun x=>⟨[],[]⟩) (fun k x=>yF n a0 k x=some o100) (fun _ hx=>by simp [yF]at hx) n 0 h (wk J) (fun k x h=>by revert h; revert x; intro v108 h; rw [yF]at h; exact za<|rs [102,103,104] [(105,qb (decide (v108<(a0.zn.length:Int))))] (kE J)<|za<|bF h (fun h=>zf<|za<|zz<|za<|bE h fun x118 hx118 h=>rm [102,103,104] [(10,qp 0)] ⟨[[ql 1 (cL 3 zb.cells) x118.zr.zk,qi x118.zw.zA,qs x118.zw.wm,qs x118.zw.zT]],[]⟩ (kP 0 (zC (c:=ze.cells) (e:=68) (sz:=4) (b:=64) (tok:= .none) hx118)<|kE O)<|za<|za<|bE h fun r119 hr119 h=>rs [102,103,104] [(10,qp 0),(11,qi r119)] (kC 2 A0 (kG hr119)<|kE O)<|za<|rs [11,102,103,104] [(10,qp 0),(112,qb (r119 !=0))] (kE O)<|bF h (fun h=>za<|rm [] [(2,qi r119)] ⟨[],[]⟩ (kE A0)<|zi<|zP<|zV<|have h:=hr101 _ (sI h); zR<|by cases h; exact rt J) fun h=>zf<|za<|za<|rs [102,103,104] [(10,qp 0),(118,qb ((x118.zr.zk.length:Int)==0))] (kP 3 (zX (c:=(cL 3 zb.cells)) (l:=x118.zr.zk) (e:=141) (sz:=1) (sz':=1) (b:=24) (tok:= .none))<|kE O)<|bF h (fun h=>za<|rm [] [(2,qi 14)] ⟨[],[]⟩ (kE A0)<|zi<|zP<|zV<|have h:=hr101 _ (sI h); zR<|by cases h; exact rt J) fun h=>zf<|za<|bE h fun r120 hr120 h=>rm [102,103,104] [(12,qi r120)] ⟨[],[]⟩ (kC 2 A0 (pi hr120)<|kE A0)<|za<|rs [12,102,103,104] [(123,qb (r120 !=0))] (kE J)<|bF h (fun h=>za<|rs [] [(2,qi r120)] (kE J)<|zi<|zP<|zV<|have h:=hr101 _ (sI h); zR<|by cases h; exact rt J) fun h=>zf<|zy<|rsN zt [102,103] [(104,qi (wrap .i64 (v108+1)))] (kE J)<|⟨wrap .i64 (v108+1),h,wk J⟩) fun h=>zG<|zx<|zv<|⟨(),sI h,wk J⟩)) fun y99 h=>za<|rs [] [(2,qi 0)] (kE J)<|zi<|by cases h; exact rt J
def bj (n:Nat)(a0:Int):Option Int:=
 some (wrap .i64 ((wrap .i64 ((wrap .i64 (Int.tdiv a0 4))-(wrap .i64 (Int.tdiv a0 100))))+(wrap .i64 (Int.tdiv a0 400))))
theorem dM {n a0 r}(h:bj n a0=some r):AC mx 227 [qi a0] [] (qi r) []:=by
 delta bj at h
 exact fnc Tryz.func227 rfl<|za<|rs [] [(0,qi a0)] (kE J)<|za<|rs [] [(2,qi (wrap .i64 ((wrap .i64 ((wrap .i64 (Int.tdiv a0 4))-(wrap .i64 (Int.tdiv a0 100))))+(wrap .i64 (Int.tdiv a0 400)))))] (kE J)<|zi<|by cases h; exact rt J
def qD (n:Nat)(a0:Int):Option Int:=
 (bj n (wrap .i64 (a0-1))).bind fun r1=>
 (bj n 1949).bind fun r2=>
 some (wrap .i64 ((wrap .i64 ((wrap .i64 ((365:Int)*(wrap .i64 (a0-1950))))+r1))-r2))
theorem gy {n a0 r}(h:qD n a0=some r):AC mx 172 [qi a0] [] (qi r) []:=by
 delta qD at h
 exact fnc Tryz.func172 rfl<|za<|rs [] [(0,qi a0)] (kE J)<|za<|rs [] [(0,qi a0),(3, .func (.func 227) [] [])] (kE J)<|za<|bE h fun r1 hr1 h=>bE h fun r2 hr2 h=>rs [] [(2,qi (wrap .i64 ((wrap .i64 ((wrap .i64 ((365:Int)*(wrap .i64 (a0-1950))))+r1))-r2)))] (kC 6 J (dM hr1)<|kC 9 J (dM hr2)<|kE J)<|zi<|by cases h; exact rt J
def dR (n:Nat)(a0:Int):Option Bool:=
 (if((Int.tmod a0 4)==0)=true then(if((Int.tmod a0 100) !=0)=true then(some true)else(some ((Int.tmod a0 400)==0)))else(some false)).bind fun y2=>
 some y2
theorem VV {n a0 r}(h:dR n a0=some r):AC mx 228 [qi a0] [] (qb r) []:=by
 delta dR at h
 exact fnc Tryz.func228 rfl<|za<|rs [] [(0,qi a0)] (kE J)<|za<|bE h fun y2 hE h=>reg ⟨16,[(2,qb y2)]⟩ ⟨[],[]⟩ (have h:=hE; gF 4 6 h (fun h=>gF 8 10 h (fun h=>by cases h; exact kE J) fun h=>by cases h; exact kE J) fun h=>by cases h; exact kE J)<|zi<|by cases h; exact rt J
def ja (n:Nat)(a0 a1:Int):Option Int:=
 (if(a1==2)=true then((dR n a0).bind fun r1=>
 some r1)else(some false)).bind fun y3=>
 if y3=true then(some 29)else((qh 12 (wrap .i64 (a1-1))).bind fun x4=>
 ((UQ)[(0+x4*1)]?).bind fun x5=>
 some x5)
theorem kH {n a0 a1 r}(h:ja n a0 a1=some r):AC mx 173 [qi a0,qi a1] [] (qi r) []:=by
 delta ja at h
 exact fnc Tryz.func173 rfl<|za<|rs [] [(0,qi a0),(1,qi a1)] (kE J)<|za<|za<|bE h fun y3 hE h=>reg ⟨15,[(1,qi a1),(10,qb y3)]⟩ ⟨[],[]⟩ (have h:=hE; gF 3 7 h (fun h=>bE h fun r1 hr1 h=>kC 4 J (VV hr1)<|by cases h; exact kE J) fun h=>by cases h; exact kE J)<|bF h (fun h=>za<|rs [] [(4,qi 29)] (kE J)<|zi<|by cases h; exact rt J) fun h=>zf<|za<|bE h fun x4 hx4 h=>bE h fun x5 hx5 h=>rs [] [(4,qi x5)] (kP 2 (fZ (g:=0) (off:=0) (sz:=1) hx4)<|kP 3 (GH (c:=vI .i64) (l:=UQ) (off:=(0+x4*1)) hx5)<|kE J)<|zi<|by cases h; exact rt J
def uR (n:Nat)(a0:Int):Nat→Int→Option Int
 |0,_=>none
 | k+1,v11=>
  (qD n (wrap .i64 (v11+1))).bind fun r13=>
  if(decide (r13≤(wrap .i64 (Int.tdiv a0 86400))))=true then(uR n a0 k (wrap .i64 (v11+1)))else(some v11)
def uQ (n:Nat)(y8:Int):Nat→Int→Int→Option (Int×Int)
 |0,_,_=>none
 | k+1,v33,v34=>
  (ja n y8 v34).bind fun r38=>
  if(decide (v33≥r38))=true then((ja n y8 v34).bind fun r40=>
  uQ n y8 k (wrap .i64 (v33-r40)) (wrap .i64 (v34+1)))else(some (v33,v34))
def bH (n:Nat)(a0:Int):Option (yi×Int):=
 (if(decide (a0<0))=true then(some true)else(some (decide (a0>254033452799)))).bind fun y2=>
 if y2=true then(some ((yi.mk 0 0 0 0 0 0),1))else((uR n a0 n (wrap .i64 ((1950:Int)+(wrap .i64 (Int.tdiv (wrap .i64 (Int.tdiv a0 86400)) 366))))).bind fun y8=>
 (qD n y8).bind fun r14=>
 (uQ n y8 n (wrap .i64 ((wrap .i64 (Int.tdiv a0 86400))-r14)) 1).bind fun y28=>
 some ((yi.mk y8 y28.2 (wrap .i64 (y28.1+1)) (wrap .i64 (Int.tdiv (Int.tmod a0 86400) 3600)) (Int.tmod (wrap .i64 (Int.tdiv (Int.tmod a0 86400) 60)) 60) (Int.tmod (Int.tmod a0 86400) 60)),0))
theorem Vv {n a0 r}(h:bH n a0=some r):AC mx 113 [qi a0] [] (.tuple [.agg (yi.cells r.1),qi r.2]) []:=by
 delta bH at h
 exact fnc Tryz.func113 rfl<|za<|rm [] [(0,qi a0),(2,qp 0)] ⟨[[qi 0,qi 0,qi 0,qi 0,qi 0,qi 0]],[]⟩ (kE O)<|za<|za<|bE h fun y2 hE h=>reg ⟨57,[(0,qi a0),(2,qp 0),(13,qb y2)]⟩ ⟨[[qi 0,qi 0,qi 0,qi 0,qi 0,qi 0]],[]⟩ (have h:=hE; gF 3 10 h (fun h=>by cases h; exact kE O) fun h=>by cases h; exact kE O)<|bF h (fun h=>za<|rs [] [(2,qp 0),(3,qi 1)] (kE O)<|zi<|by cases h; exact rt A0) fun h=>zf<|za<|rs [] [(2,qp 0),(4,qi (wrap .i64 (Int.tdiv a0 86400))),(5,qi (Int.tmod a0 86400))] (kE O)<|za<|rs [4,5] [(2,qp 0),(6,qi (wrap .i64 ((1950:Int)+(wrap .i64 (Int.tdiv (wrap .i64 (Int.tdiv a0 86400)) 366)))))] (kE O)<|za<|blE h (fun y8=>⟨57,[(2,qp 0),(4,qi (wrap .i64 (Int.tdiv a0 86400))),(5,qi (Int.tmod a0 86400)),(6,qi y8)]⟩) (fun y8=>⟨[[qi 0,qi 0,qi 0,qi 0,qi 0,qi 0]],[]⟩) (fun y8 h=>zK (X:=Int) (fun x=>⟨57,[(2,qp 0),(4,qi (wrap .i64 (Int.tdiv a0 86400))),(5,qi (Int.tmod a0 86400)),(6,qi x)]⟩) (fun x=>⟨[[qi 0,qi 0,qi 0,qi 0,qi 0,qi 0]],[]⟩) (fun k x=>uR n a0 k x=some y8) (fun _ hx=>by simp [uR]at hx) n (wrap .i64 ((1950:Int)+(wrap .i64 (Int.tdiv (wrap .i64 (Int.tdiv a0 86400)) 366)))) h (wk O) (fun k x h=>by revert h; revert x; intro v11 h; rw [uR]at h; exact za<|za<|bE h fun r13 hr13 h=>rs [4,5] [(2,qp 0),(6,qi v11),(26,qb (decide (r13≤(wrap .i64 (Int.tdiv a0 86400)))))] (kC 2 A0 (gy hr13)<|kE O)<|bF h (fun h=>zf<|zz<|rsN (jC (P:=Tryz.prog) (gl:=gl0 mx) zt) [4,5] [(2,qp 0),(6,qi (wrap .i64 (v11+1)))] (kE O)<|zy<|⟨wrap .i64 (v11+1),h,wk O⟩) fun h=>zG<|zx<|zv<|⟨v11,sI h,wk O⟩)) fun y8 h=>za<|bE h fun r14 hr14 h=>rs [5] [(2,qp 0),(4,qi (wrap .i64 ((wrap .i64 (Int.tdiv a0 86400))-r14))),(6,qi y8)] (kC 2 A0 (gy hr14)<|kE O)<|za<|rs [4,5] [(2,qp 0),(6,qi y8),(7,qi 1)] (kE O)<|za<|blE h (fun y28=>⟨57,[(2,qp 0),(4,qi y28.1),(5,qi (Int.tmod a0 86400)),(6,qi y8),(7,qi y28.2)]⟩) (fun y28=>⟨[[qi 0,qi 0,qi 0,qi 0,qi 0,qi 0]],[]⟩) (fun y28 h=>zK (X:=(Int×Int)) (fun x=>⟨57,[(2,qp 0),(4,qi x.1),(5,qi (Int.tmod a0 86400)),(6,qi y8),(7,qi x.2)]⟩) (fun x=>⟨[[qi 0,qi 0,qi 0,qi 0,qi 0,qi 0]],[]⟩) (fun k x=>uQ n y8 k x.1 x.2=some y28) (fun _ hx=>by simp [uQ]at hx) n (wrap .i64 ((wrap .i64 (Int.tdiv a0 86400))-r14),1) h (wk O) (fun k x h=>by obtain⟨v33,v34⟩:=x; rw [uQ]at h; exact za<|za<|bE h fun r38 hr38 h=>rs [5] [(2,qp 0),(4,qi v33),(6,qi y8),(7,qi v34),(37,qb (decide (v33≥r38)))] (kC 3 A0 (kH hr38)<|kE O)<|bF h (fun h=>zf<|zz<|za<|bE h fun r40 hr40 h=>rs [5] [(2,qp 0),(4,qi (wrap .i64 (v33-r40))),(6,qi y8),(7,qi v34)] (kC 3 A0 (kH hr40)<|kE O)<|rsN (jC (P:=Tryz.prog) (gl:=gl0 mx) zt) [4,5] [(2,qp 0),(6,qi y8),(7,qi (wrap .i64 (v34+1)))] (kE O)<|zy<|⟨(wrap .i64 (v33-r40),wrap .i64 (v34+1)),h,wk O⟩) fun h=>zG<|zx<|zv<|⟨(v33,v34),sI h,wk O⟩)) fun y28 h=>za<|rm [] [(2,qp 0),(3,qi 0)] ⟨[[qi y8,qi y28.2,qi (wrap .i64 (y28.1+1)),qi (wrap .i64 (Int.tdiv (Int.tmod a0 86400) 3600)),qi (Int.tmod (wrap .i64 (Int.tdiv (Int.tmod a0 86400) 60)) 60),qi (Int.tmod (Int.tmod a0 86400) 60)]],[]⟩ (kE O)<|zi<|by cases h; exact rt A0
def kO (n:Nat)(a2:Int):Nat→Nat→Int→(List Int)→Option (Nat×(List Int))
 |0,_,_,_=>none
 | k+1,v16,v17,v18=>
  if(decide (v17<a2))=true then((gI 1 v16 v18 ([48]:List Int)).bind fun x22=>
  kO n a2 k (v16+List.length ([48]:List Int)) (wrap .i64 (v17+1)) x22)else(some (v16,v18))
def kW (n:Nat) (y12:(Nat×(List Int))):Nat→Int→Int→(List Int)→Option (List Int)
 |0,_,_,_=>none
 | k+1,v45,v46,v47=>
  if(decide (v46≥((0:Nat):Int)))=true then((qh y12.1 v46).bind fun x54=>
  (pT v47 (x54*1) (IntKind.wrap .u8 (wrap .i64 ((48:Int)+(Int.tmod v45 10))))).bind fun x55=>
  kW n y12 k (wrap .i64 (Int.tdiv v45 10)) (wrap .i64 (v46-1)) x55)else(some v47)
def bb (n:Nat)(a1 a2:Int):Option (Nat×(List Int)):=
 (kO n a2 n 0 0 ([]:List Int)).bind fun y12=>
 (kW n y12 n a1 (wrap .i64 (((y12.1:Nat):Int)-1)) y12.2).bind fun y39=>
 some (y12.1,y39)
theorem YO {n a1 a2 r}(h:bb n a1 a2=some r):AC mx 114 [qn,qi a1,qi a2] [] (.own 0 r.1 1) [[.buf (List.map (vI .u8) r.2)]]:=by
 delta bb at h
 exact fnc Tryz.func114 rfl<|uP (Wk.nilO 0 0 1 (by kernel_rfl))<|uP (wk (fr':=⟨38,[(0, .own 0 0 1),(1,qi a1),(2,qi a2)]⟩) (st':=⟨[[.buf (List.map (vI .u8) ([]:List Int))]],[]⟩) O)<|za<|rs [0] [(1,qi a1),(2,qi a2)] (kE O)<|za<|rs [0] [(1,qi a1),(2,qi a2),(7,qi ((0:Nat):Int))] (kE O)<|za<|za<|rs [0,7] [(1,qi a1),(2,qi a2),(8,qi 0)] (kE O)<|blE h (fun y12=>⟨38,[(0, .own 0 y12.1 1),(1,qi a1),(7,qi ((0:Nat):Int))]⟩) (fun y12=>⟨[[.buf (List.map (vI .u8) y12.2)]],[]⟩) (fun y12 h=>zK (X:=(Nat×Int×(List Int))) (fun x=>⟨38,[(0, .own 0 x.1 1),(1,qi a1),(2,qi a2),(7,qi ((0:Nat):Int)),(8,qi x.2.1)]⟩) (fun x=>⟨[[.buf (List.map (vI .u8) x.2.2)]],[]⟩) (fun k x=>kO n a2 k x.1 x.2.1 x.2.2=some y12) (fun _ hx=>by simp [kO]at hx) n (0,0,([]:List Int)) h (wk O) (fun k x h=>by obtain⟨v16,v17,v18⟩:=x; rw [kO]at h; exact za<|za<|rs [0,7] [(1,qi a1),(2,qi a2),(8,qi v17),(14,qb (decide (v17<a2)))] (kE O)<|bF h (fun h=>zf<|za<|zz<|bE h fun x22 hx22 h=>rmN zN [7] [(0, .own 0 (v16+List.length ([48]:List Int)) 1),(1,qi a1),(2,qi a2),(8,qi v17)] ⟨[[.buf (List.map (vI .u8) x22)]],[]⟩ (kV 2 1 0 0 (Zn (T:=tyT) (c:=(vI .u8)) (l:=v18) (l2:=([48]:List Int)) (n:=v16) (e:=5) (e2:=5) (bytes:=1) (b2:=1) (tok2:= .exact) (by kernel_rfl) hx22)<|kE A6)<|zy<|rsN zt [0,7] [(1,qi a1),(2,qi a2),(8,qi (wrap .i64 (v17+1)))] (kE O)<|⟨(v16+List.length ([48]:List Int),wrap .i64 (v17+1),x22),h,wk O⟩) fun h=>zG<|zx<|zv<|⟨(v16,v18),sI h,wk O⟩)) fun y12 h=>za<|za<|rs [0,7] [(1,qi a1),(9,qi (wrap .i64 (((y12.1:Nat):Int)-1)))] (kE O)<|blE h (fun y39=>⟨38,[(0, .own 0 y12.1 1)]⟩) (fun y39=>⟨[[.buf (List.map (vI .u8) y39)]],[]⟩) (fun y39 h=>zK (X:=(Int×Int×(List Int))) (fun x=>⟨38,[(0, .own 0 y12.1 1),(1,qi x.1),(7,qi ((0:Nat):Int)),(9,qi x.2.1)]⟩) (fun x=>⟨[[.buf (List.map (vI .u8) x.2.2)]],[]⟩) (fun k x=>kW n y12 k x.1 x.2.1 x.2.2=some y39) (fun _ hx=>by simp [kW]at hx) n (a1,wrap .i64 (((y12.1:Nat):Int)-1),y12.2) h (wk O) (fun k x h=>by obtain⟨v45,v46,v47⟩:=x; rw [kW]at h; exact za<|za<|rs [0,7] [(1,qi v45),(9,qi v46),(25,qb (decide (v46≥((0:Nat):Int))))] (kE O)<|bF h (fun h=>zf<|za<|zz<|za<|bE h fun x54 hx54 h=>bE h fun x55 hx55 h=>rm [0,7] [(1,qi v45),(9,qi v46)] ⟨[[.buf (List.map (vI .u8) x55)]],[]⟩ (kP 6 (kx (id:=0) (e:=5) (sz:=1) (b:=1) hx54)<|kV 7 1 0 0 (qM (T:=tyT) (t:=5) (c:=(vI .u8)) (l:=v47) (off:=(x54*1)) (x:=IntKind.wrap .u8 (wrap .i64 ((48:Int)+(Int.tmod v45 10)))) (uI .u8) (by kernel_rfl) hx55)<|kE O)<|rsN zN [0,7] [(1,qi (wrap .i64 (Int.tdiv v45 10))),(9,qi v46)] (kE O)<|zy<|rsN zt [0,1,7] [(9,qi (wrap .i64 (v46-1)))] (kE O)<|⟨(wrap .i64 (Int.tdiv v45 10),wrap .i64 (v46-1),x55),h,wk O⟩) fun h=>zG<|zx<|zv<|⟨v47,sI h,wk O⟩)) fun y39 h=>za<|rs [] [(6, .own 0 y12.1 1)] (kE O)<|zi<|by cases h; exact rt O
def ve (n:Nat)(a2:Int):Nat→Nat→Int→(List Int)→Option (Nat×(List Int))
 |0,_,_,_=>none
 | k+1,v16,v17,v18=>
  if(decide (v17<a2))=true then((gI 1 v16 v18 ([48]:List Int)).bind fun x22=>
  ve n a2 k (v16+List.length ([48]:List Int)) (wrap .i64 (v17+1)) x22)else(some (v16,v18))
def vT (n:Nat) (a0:Nat) (y12:(Nat×(List Int))):Nat→Int→Int→(List Int)→Option (List Int)
 |0,_,_,_=>none
 | k+1,v45,v46,v47=>
  if(decide (v46≥((a0:Nat):Int)))=true then((qh y12.1 v46).bind fun x54=>
  (pT v47 (x54*1) (IntKind.wrap .u8 (wrap .i64 ((48:Int)+(Int.tmod v45 10))))).bind fun x55=>
  vT n a0 y12 k (wrap .i64 (Int.tdiv v45 10)) (wrap .i64 (v46-1)) x55)else(some v47)
def bC (n a0:Nat)(a1 a2:Int)(m0:List Int):Option (Nat×(List Int)):=
 (ve n a2 n a0 0 m0).bind fun y12=>
 (vT n a0 y12 n a1 (wrap .i64 (((y12.1:Nat):Int)-1)) y12.2).bind fun y39=>
 some (y12.1,y39)
theorem Vo {n a0 a1 a2 m0 r}(h:bC n a0 a1 a2 m0=some r):AC mx 114 [.own 0 a0 1,qi a1,qi a2] [[.buf (List.map (vI .u8) m0)]] (.own 1 r.1 1) [[],[.buf (List.map (vI .u8) r.2)]]:=by
 delta bC at h
 exact fnc Tryz.func114 rfl<|uP (Wk.mov (cells:= [.buf (List.map (vI .u8) m0)]) 0 0 a0 1 1 (by kernel_rfl))<|uP (wk (fr':=⟨38,[(0, .own 1 a0 1),(1,qi a1),(2,qi a2)]⟩) (st':=⟨[[],[.buf (List.map (vI .u8) m0)]],[]⟩) A1)<|za<|rs [0] [(1,qi a1),(2,qi a2)] (kE A1)<|za<|rs [0] [(1,qi a1),(2,qi a2),(7,qi ((a0:Nat):Int))] (kE A1)<|za<|za<|rs [0,7] [(1,qi a1),(2,qi a2),(8,qi 0)] (kE A1)<|blE h (fun y12=>⟨38,[(0, .own 1 y12.1 1),(1,qi a1),(7,qi ((a0:Nat):Int))]⟩) (fun y12=>⟨[[],[.buf (List.map (vI .u8) y12.2)]],[]⟩) (fun y12 h=>zK (X:=(Nat×Int×(List Int))) (fun x=>⟨38,[(0, .own 1 x.1 1),(1,qi a1),(2,qi a2),(7,qi ((a0:Nat):Int)),(8,qi x.2.1)]⟩) (fun x=>⟨[[],[.buf (List.map (vI .u8) x.2.2)]],[]⟩) (fun k x=>ve n a2 k x.1 x.2.1 x.2.2=some y12) (fun _ hx=>by simp [ve]at hx) n (a0,0,m0) h (wk A1) (fun k x h=>by obtain⟨v16,v17,v18⟩:=x; rw [ve]at h; exact za<|za<|rs [0,7] [(1,qi a1),(2,qi a2),(8,qi v17),(14,qb (decide (v17<a2)))] (kE A1)<|bF h (fun h=>zf<|za<|zz<|bE h fun x22 hx22 h=>rmN zN [7] [(0, .own 1 (v16+List.length ([48]:List Int)) 1),(1,qi a1),(2,qi a2),(8,qi v17)] ⟨[[],[.buf (List.map (vI .u8) x22)]],[]⟩ (kV 2 2 0 1 (Zn (T:=tyT) (c:=(vI .u8)) (l:=v18) (l2:=([48]:List Int)) (n:=v16) (e:=5) (e2:=5) (bytes:=1) (b2:=1) (tok2:= .exact) (by kernel_rfl) hx22)<|kE Ak)<|zy<|rsN zt [0,7] [(1,qi a1),(2,qi a2),(8,qi (wrap .i64 (v17+1)))] (kE A1)<|⟨(v16+List.length ([48]:List Int),wrap .i64 (v17+1),x22),h,wk A1⟩) fun h=>zG<|zx<|zv<|⟨(v16,v18),sI h,wk A1⟩)) fun y12 h=>za<|za<|rs [0,7] [(1,qi a1),(9,qi (wrap .i64 (((y12.1:Nat):Int)-1)))] (kE A1)<|blE h (fun y39=>⟨38,[(0, .own 1 y12.1 1)]⟩) (fun y39=>⟨[[],[.buf (List.map (vI .u8) y39)]],[]⟩) (fun y39 h=>zK (X:=(Int×Int×(List Int))) (fun x=>⟨38,[(0, .own 1 y12.1 1),(1,qi x.1),(7,qi ((a0:Nat):Int)),(9,qi x.2.1)]⟩) (fun x=>⟨[[],[.buf (List.map (vI .u8) x.2.2)]],[]⟩) (fun k x=>vT n a0 y12 k x.1 x.2.1 x.2.2=some y39) (fun _ hx=>by simp [vT]at hx) n (a1,wrap .i64 (((y12.1:Nat):Int)-1),y12.2) h (wk A1) (fun k x h=>by obtain⟨v45,v46,v47⟩:=x; rw [vT]at h; exact za<|za<|rs [0,7] [(1,qi v45),(9,qi v46),(25,qb (decide (v46≥((a0:Nat):Int))))] (kE A1)<|bF h (fun h=>zf<|za<|zz<|za<|bE h fun x54 hx54 h=>bE h fun x55 hx55 h=>rm [0,7] [(1,qi v45),(9,qi v46)] ⟨[[],[.buf (List.map (vI .u8) x55)]],[]⟩ (kP 6 (kx (id:=1) (e:=5) (sz:=1) (b:=1) hx54)<|kV 7 2 0 1 (qM (T:=tyT) (t:=5) (c:=(vI .u8)) (l:=v47) (off:=(x54*1)) (x:=IntKind.wrap .u8 (wrap .i64 ((48:Int)+(Int.tmod v45 10)))) (uI .u8) (by kernel_rfl) hx55)<|kE A1)<|rsN zN [0,7] [(1,qi (wrap .i64 (Int.tdiv v45 10))),(9,qi v46)] (kE A1)<|zy<|rsN zt [0,1,7] [(9,qi (wrap .i64 (v46-1)))] (kE A1)<|⟨(wrap .i64 (Int.tdiv v45 10),wrap .i64 (v46-1),x55),h,wk A1⟩) fun h=>zG<|zx<|zv<|⟨v47,sI h,wk A1⟩)) fun y39 h=>za<|rs [] [(6, .own 1 y12.1 1)] (kE A1)<|zi<|by cases h; exact rt A1
def jh (n:Nat)(a1:List C6):Nat→Int→Int→Option (Ctl (C6×Int) Int)
 |0,_,_=>none
 | k+1,v17,v18=>
  if(decide (v18<(a1.length:Int)))=true then((z1 a1 v18).bind fun x22=>
  if(decide ((x22.length:Int)>(wrap .i64 ((131072:Int)-v17))))=true then(some (.ret (([]:C6),6)))else(jh n a1 k (wrap .i64 (v17+(x22.length:Int))) (wrap .i64 (v18+1))))else(some (.nxt v17))
def wf (n:Nat)(a0:Int)(a1:List C6):Option (C6×Int):=
 (if(decide (a0<0))=true then(some true)else(if(decide (a0>255))=true then(some true)else(some ((w7 .i64 a0 31)==31)))).bind fun y2=>
 if y2=true then(some (([]:C6),5))else(yW (jh n a1 n 0 0) (fun r=>some r) (fun y12=>
 (if(decide (y12<128))=true then((kD 1 ([IntKind.wrap .u8 a0]:List Int) ([IntKind.wrap .u8 y12]:List Int)).bind fun x34=>
 some x34)else(if(decide (y12<256))=true then((kD 1 ([IntKind.wrap .u8 a0]:List Int) ([129,IntKind.wrap .u8 y12]:List Int)).bind fun x35=>
 some x35)else(if(decide (y12<65536))=true then((kD 1 ([IntKind.wrap .u8 a0]:List Int) ([130,IntKind.wrap .u8 (Int.fdiv y12 256),IntKind.wrap .u8 y12]:List Int)).bind fun x36=>
 some x36)else((kD 1 ([IntKind.wrap .u8 a0]:List Int) ([131,IntKind.wrap .u8 (Int.fdiv y12 65536),IntKind.wrap .u8 (Int.fdiv y12 256),IntKind.wrap .u8 y12]:List Int)).bind fun x37=>
 some x37)))).bind fun y32=>
 (Wv n a1 ([]:C6)).bind fun r38=>
 (uw (b2s y32) r38).bind fun x39=>
 some (x39,0)))
theorem xZ {n a0 a1 r}(h:wf n a0 a1=some r):AC mx 115 [qi a0,ql 1 cS a1] [] (.tuple [qs r.1,qi r.2]) []:=by
 delta wf at h
 exact fnc Tryz.func115 rfl<|za<|rs [1] [(0,qi a0)] (kE J)<|za<|za<|bE h fun y2 hE h=>reg ⟨83,[(0,qi a0),(1,ql 1 cS a1),(20,qb y2)]⟩ ⟨[],[]⟩ (have h:=hE; gF 3 12 h (fun h=>by cases h; exact kE J) fun h=>gF 7 16 h (fun h=>by cases h; exact kE J) fun h=>by cases h; exact kE J)<|bF h (fun h=>za<|rs [] [(4,qs []),(5,qi 5)] (kE J)<|zi<|by cases h; exact rt J) fun h=>zf<|za<|rs [1] [(0,qi a0),(6,qi 0)] (kE J)<|za<|za<|rs [1] [(0,qi a0),(6,qi 0),(21,ql 1 cS a1),(22,qi (a1.length:Int)),(23,qi 0)] (kP 1 (zX (c:=cS) (l:=a1) (e:=9) (sz:=1) (sz':=1) (b:=16) (tok:= .none))<|kE J)<|blC h (fun y12=>⟨83,[(0,qi a0),(1,ql 1 cS a1),(6,qi y12)]⟩) (fun y12=>⟨[],[]⟩) (fun o13 h hr14=>zK (X:=(Int×Int)) (fun x=>⟨83,[(0,qi a0),(1,ql 1 cS a1),(6,qi x.1),(21,ql 1 cS a1),(22,qi (a1.length:Int)),(23,qi x.2)]⟩) (fun x=>⟨[],[]⟩) (fun k x=>jh n a1 k x.1 x.2=some o13) (fun _ hx=>by simp [jh]at hx) n (0,0) h (wk J) (fun k x h=>by obtain⟨v17,v18⟩:=x; rw [jh]at h; exact za<|rs [1,21,22] [(0,qi a0),(6,qi v17),(23,qi v18),(24,qb (decide (v18<(a1.length:Int))))] (kE J)<|za<|bF h (fun h=>zf<|za<|zz<|za<|bE h fun x22 hx22 h=>rs [1,21,22] [(0,qi a0),(6,qi v17),(8,qs x22),(23,qi v18)] (kP 0 (zC (c:=cS) (e:=9) (sz:=1) (b:=16) (tok:= .none) hx22)<|kE J)<|za<|za<|rs [1,21,22] [(0,qi a0),(6,qi v17),(8,qs x22),(23,qi v18),(31,qb (decide ((x22.length:Int)>(wrap .i64 ((131072:Int)-v17)))))] (kE J)<|bF h (fun h=>za<|rs [] [(4,qs []),(5,qi 6)] (kE J)<|zi<|zP<|zV<|have h:=hr14 _ (sI h); zR<|by cases h; exact rt J) fun h=>zf<|rsN zN [1,21,22] [(0,qi a0),(6,qi (wrap .i64 (v17+(x22.length:Int)))),(23,qi v18)] (kE J)<|zy<|rsN zt [1,6,21,22] [(0,qi a0),(23,qi (wrap .i64 (v18+1)))] (kE J)<|⟨(wrap .i64 (v17+(x22.length:Int)),wrap .i64 (v18+1)),h,wk J⟩) fun h=>zG<|zx<|zv<|⟨v17,sI h,wk J⟩)) fun y12 h=>za<|rs [1] [(6,qi y12),(9, .sl 1 (List.map (cI .u8) ([IntKind.wrap .u8 a0]:List Int)) .exact)] (kE J)<|za<|blE h (fun y32=>⟨83,[(1,ql 1 cS a1),(9, .sl 1 (List.map (cI .u8) y32) (.fam 0 (y32.length)))]⟩) (fun y32=>⟨[],[y32.length]⟩) (fun y32 h=>za<|rs [1,9] [(6,qi y12),(51,qb (decide (y12<128)))] (kE J)<|bF h (fun h=>bE h fun x34 hx34 h=>rmN z7 [1] [(9, .sl 1 (List.map (cI .u8) x34) (.fam 0 (x34.length)))] ⟨[],[x34.length]⟩ (kV 4 0 0 0 (ZA (T:=tyT) (c:=(cI .u8)) (e:=5) (e2:=5) (sz:=1) (bytes:=1) (b2:=1) (tok2:= .exact) (cell:=none) (by kernel_rfl) hx34)<|kE A2)<|⟨x34,sI h,wk A2⟩) fun h=>za<|rs [1,9] [(6,qi y12),(59,qb (decide (y12<256)))] (kE J)<|bF h (fun h=>bE h fun x35 hx35 h=>rmN z7 [1] [(9, .sl 1 (List.map (cI .u8) x35) (.fam 0 (x35.length)))] ⟨[],[x35.length]⟩ (kV 4 0 0 0 (ZA (T:=tyT) (c:=(cI .u8)) (e:=5) (e2:=5) (sz:=1) (bytes:=1) (b2:=1) (tok2:= .exact) (cell:=none) (by kernel_rfl) hx35)<|kE A2)<|⟨x35,sI h,wk A2⟩) fun h=>za<|rs [1,9] [(6,qi y12),(67,qb (decide (y12<65536)))] (kE J)<|bF h (fun h=>bE h fun x36 hx36 h=>rmN z7 [1] [(9, .sl 1 (List.map (cI .u8) x36) (.fam 0 (x36.length)))] ⟨[],[x36.length]⟩ (kV 7 0 0 0 (ZA (T:=tyT) (c:=(cI .u8)) (e:=5) (e2:=5) (sz:=1) (bytes:=1) (b2:=1) (tok2:= .exact) (cell:=none) (by kernel_rfl) hx36)<|kE A2)<|⟨x36,sI h,wk A2⟩) fun h=>bE h fun x37 hx37 h=>rmN z7 [1] [(9, .sl 1 (List.map (cI .u8) x37) (.fam 0 (x37.length)))] ⟨[],[x37.length]⟩ (kV 10 0 0 0 (ZA (T:=tyT) (c:=(cI .u8)) (e:=5) (e2:=5) (sz:=1) (bytes:=1) (b2:=1) (tok2:= .exact) (cell:=none) (by kernel_rfl) hx37)<|kE A2)<|⟨x37,sI h,wk A2⟩) fun y32 h=>za<|bE h fun r38 hr38 h=>bE h fun x39 hx39 h=>zm [0,1,2,3,4,5,6] [3] [[],[0],[],[2],[0,1,2,3],[0,1,2,3,4],[0,1,2,3,4,5]] [] [(4,qs x39),(5,qi 0)] ⟨[],[]⟩ (dS [0]<|dP (GK y32)<|dS [2]<|dC (zF 1 (GK y32) yg) A9 (BM hr38)<|dP (yO (d:=(tyT 9).d) hx39)<|dS [5,6]<|dE A9)<|zi<|by cases h; exact rt J
def wI (n:Nat)(r1:(yi×Int)):Nat→Nat→Int→(List Int)→Option (Nat×(List Int))
 |0,_,_,_=>none
 | k+1,v33,v34,v35=>
  if(decide (v34<(List.length ([r1.1.qZ,r1.1.pj,r1.1.gE,r1.1.j7,r1.1.qc]:List Int):Int)))=true then((z1 ([r1.1.qZ,r1.1.pj,r1.1.gE,r1.1.j7,r1.1.qc]:List Int) v34).bind fun x42=>
  (bC n v33 x42 2 v35).bind fun r43=>
  wI n r1 k r43.1 (wrap .i64 (v34+1)) r43.2)else(some (v33,v35))
def jM (n:Nat)(a0:Int):Option (C6×Int):=
 (bH n a0).bind fun r1=>
 if(r1.2 !=0)=true then(some (([]:C6),r1.2))else((bb n (Int.tmod r1.1.gB 100) 2).bind fun r2=>
 (if(decide (r1.1.gB≥2050))=true then((bb n r1.1.gB 4).bind fun r9=>
 some (24,r9.1,r9.2))else(some (23,r2.1,r2.2))).bind fun y7=>
 (wI n r1 n y7.2.1 0 y7.2.2).bind fun y27=>
 (Wz y27.1 y27.2).bind fun x44=>
 (wf n y7.1 ([x44,([90]:C6)]:List C6)).bind fun r45=>
 some (r45.1,r45.2))
theorem WT {n a0 r}(h:jM n a0=some r):AC mx 44 [qi a0] [] (.tuple [qs r.1,qi r.2]) []:=by
 delta jM at h
 exact fnc Tryz.func44 rfl<|za<|rs [] [(0,qi a0)] (kE J)<|za<|bE h fun r1 hr1 h=>rm [] [(4,qp 0),(5,qi r1.2)] ⟨[yi.cells r1.1],[]⟩ (kC 1 J (Vv hr1)<|kE O)<|za<|za<|rs [5] [(4,qp 0),(16,qb (r1.2 !=0))] (kE O)<|bF h (fun h=>za<|rm [] [(2,qs []),(3,qi r1.2)] ⟨[],[]⟩ (kE A0)<|zi<|by cases h; exact rt J) fun h=>zf<|za<|rs [] [(4,qp 0),(6,qi 23)] (kE O)<|za<|bE h fun r2 hr2 h=>rm [] [(4,qp 0),(6,qi 23),(7, .own 1 r2.1 1)] ⟨[yi.cells r1.1,[.buf (List.map (vI .u8) r2.2)]],[]⟩ (kC 3 A0 (YO hr2)<|kE A1)<|za<|za<|rs [7] [(4,qp 0),(6,qi 23),(24,qb (decide (r1.1.gB≥2050)))] (kE A1)<|cuE h (fun y7=>⟨55,[(4,qp 0),(6,qi y7.1),(7, .own 1 y7.2.1 1)]⟩) (fun y7=>⟨[yi.cells r1.1,[.buf (List.map (vI .u8) y7.2.2)]],[]⟩) (fun y7 h=>bF h (fun h=>za<|rm [] [(4,qp 0),(6,qi 24)] ⟨[yi.cells r1.1],[]⟩ (kE A3)<|bE h fun r9 hr9 h=>rmN zt [] [(4,qp 0),(6,qi 24),(7, .own 1 r9.1 1)] ⟨[yi.cells r1.1,[.buf (List.map (vI .u8) r9.2)]],[]⟩ (kC 2 A0 (YO hr9)<|kE A1)<|⟨(24,r9.1,r9.2),sI h,wk A1⟩) fun h=>zf<|⟨(23,r2.1,r2.2),sI h,wk A1⟩) fun y7 h=>za<|za<|rm [6] [(7, .own 0 y7.2.1 1),(38, .sl 1 (List.map (cI .i64) ([r1.1.qZ,r1.1.pj,r1.1.gE,r1.1.j7,r1.1.qc]:List Int)) .exact),(39,qi (List.length ([r1.1.qZ,r1.1.pj,r1.1.gE,r1.1.j7,r1.1.qc]:List Int):Int)),(40,qi 0)] ⟨[[.buf (List.map (vI .u8) y7.2.2)]],[]⟩ (kP 11 (zX (c:=(cI .i64)) (l:=([r1.1.qZ,r1.1.pj,r1.1.gE,r1.1.j7,r1.1.qc]:List Int)) (e:=3) (sz:=1) (sz':=1) (b:=8) (tok:= .exact))<|kE A6)<|blE h (fun y27=>⟨55,[(6,qi y7.1),(7, .own 0 y27.1 1)]⟩) (fun y27=>⟨[[.buf (List.map (vI .u8) y27.2)]],[]⟩) (fun y27 h=>zK (X:=(Nat×Int×(List Int))) (fun x=>⟨55,[(6,qi y7.1),(7, .own 0 x.1 1),(38, .sl 1 (List.map (cI .i64) ([r1.1.qZ,r1.1.pj,r1.1.gE,r1.1.j7,r1.1.qc]:List Int)) .exact),(39,qi (List.length ([r1.1.qZ,r1.1.pj,r1.1.gE,r1.1.j7,r1.1.qc]:List Int):Int)),(40,qi x.2.1)]⟩) (fun x=>⟨[[.buf (List.map (vI .u8) x.2.2)]],[]⟩) (fun k x=>wI n r1 k x.1 x.2.1 x.2.2=some y27) (fun _ hx=>by simp [wI]at hx) n (y7.2.1,0,y7.2.2) h (wk O) (fun k x h=>by obtain⟨v33,v34,v35⟩:=x; rw [wI]at h; exact za<|rs [6,7,38,39] [(40,qi v34),(41,qb (decide (v34<(List.length ([r1.1.qZ,r1.1.pj,r1.1.gE,r1.1.j7,r1.1.qc]:List Int):Int))))] (kE O)<|za<|bF h (fun h=>zf<|za<|zz<|za<|bE h fun x42 hx42 h=>rs [6,7,38,39] [(9,qi x42),(40,qi v34)] (kP 0 (zC (c:=(cI .i64)) (e:=3) (sz:=1) (b:=8) (tok:= .exact) hx42)<|kE O)<|bE h fun r43 hr43 h=>rmN zN [6,38,39] [(7, .own 0 r43.1 1),(40,qi v34)] ⟨[[.buf (List.map (vI .u8) r43.2)]],[]⟩ (kC 2 O (Vo hr43)<|kE A6)<|zy<|rsN zt [6,7,38,39] [(40,qi (wrap .i64 (v34+1)))] (kE O)<|⟨(r43.1,wrap .i64 (v34+1),r43.2),h,wk O⟩) fun h=>zG<|zx<|zv<|⟨(v33,v35),sI h,wk O⟩)) fun y27 h=>za<|bE h fun x44 hx44 h=>bE h fun r45 hr45 h=>rm [] [(2,qs r45.1),(3,qi r45.2)] ⟨[],[]⟩ (kP 2 (W6 hx44)<|kC 4 A0 (xZ hr45)<|kE A0)<|zi<|by cases h; exact rt J
def zU (n:Nat)(a1:C6)(a2:Int)(m0:zd):Option zd:=
 if(m0.f_e==0)=true then((uw m0.f_b a1).bind fun x1=>
 some (zd.mk x1 a2))else(some m0)
theorem yo {n a1 a2 m0 r}(h:zU n a1 a2 m0=some r):AC mx 43 [qp 0,qs a1,qi a2] [zd.cells m0] (.tuple []) [zd.cells r]:=by
 delta zU at h
 exact fnc Tryz.func43 rfl<|za<|rs [] [(0,qp 0),(1,qs a1),(2,qi a2),(10,qb (m0.f_e==0))] (kE O)<|bF h (fun h=>bE h fun x1 hx1 h=>rmN gm [] [] ⟨[[qs x1,qi a2]],[]⟩ (kP 7 (yO (d:=(tyT 9).d) hx1)<|kE O)<|by cases h; exact rno O) fun h=>zf<|by cases h; exact rno O
def uW (n:Nat)(a1:Int):Nat→Int→Option Int
 |0,_=>none
 | k+1,v7=>
  (YI .i64 a1 (IntKind.wrap .u64 ((7:Int)*(IntKind.wrap .u64 v7)))).bind fun x9=>
  if(decide (x9>0))=true then(uW n a1 k (wrap .i64 (v7+1)))else(some v7)
def ua (n:Nat)(a1:Int):Nat→Nat→Int→(List Int)→Option (Nat×(List Int))
 |0,_,_,_=>none
 | k+1,v33,v34,v35=>
  if(decide (v34>0))=true then((YI .i64 a1 (IntKind.wrap .u64 ((7:Int)*(IntKind.wrap .u64 v34)))).bind fun x42=>
  (gI 1 v33 v35 ([IntKind.wrap .u8 (ior .i64 (w7 .i64 x42 127) 128)]:List Int)).bind fun x43=>
  ua n a1 k (v33+List.length ([IntKind.wrap .u8 (ior .i64 (w7 .i64 x42 127) 128)]:List Int)) (wrap .i64 (v34-1)) x43)else(some (v33,v35))
def pq (n:Nat)(a1:Int):Option (Nat×(List Int)):=
 (uW n a1 n 1).bind fun y5=>
 (ua n a1 n 0 (wrap .i64 (y5-1)) ([]:List Int)).bind fun y27=>
 (gI 1 y27.1 y27.2 ([IntKind.wrap .u8 (w7 .i64 a1 127)]:List Int)).bind fun x44=>
 some (y27.1+List.length ([IntKind.wrap .u8 (w7 .i64 a1 127)]:List Int),x44)
theorem U3 {n a1 r}(h:pq n a1=some r):AC mx 117 [qn,qi a1] [] (.own 0 r.1 1) [[.buf (List.map (vI .u8) r.2)]]:=by
 delta pq at h
 exact fnc Tryz.func117 rfl<|uP (Wk.nilO 0 0 1 (by kernel_rfl))<|uP (wk (fr':=⟨38,[(0, .own 0 0 1),(1,qi a1)]⟩) (st':=⟨[[.buf (List.map (vI .u8) ([]:List Int))]],[]⟩) O)<|za<|rs [0] [(1,qi a1)] (kE O)<|za<|rs [0] [(1,qi a1),(5,qi 1)] (kE O)<|za<|blE h (fun y5=>⟨38,[(0, .own 0 0 1),(1,qi a1),(5,qi y5)]⟩) (fun y5=>⟨[[.buf (List.map (vI .u8) ([]:List Int))]],[]⟩) (fun y5 h=>zK (X:=Int) (fun x=>⟨38,[(0, .own 0 0 1),(1,qi a1),(5,qi x)]⟩) (fun x=>⟨[[.buf (List.map (vI .u8) ([]:List Int))]],[]⟩) (fun k x=>uW n a1 k x=some y5) (fun _ hx=>by simp [uW]at hx) n 1 h (wk O) (fun k x h=>by revert h; revert x; intro v7 h; rw [uW]at h; exact za<|za<|bE h fun x9 hx9 h=>rs [0] [(1,qi a1),(5,qi v7),(12,qb (decide (x9>0)))] (kP 4 (gN (k:= .i64) (d:=(tyT 3).d) (k':= .u64) hx9)<|kE O)<|bF h (fun h=>zf<|zz<|rsN (jC (P:=Tryz.prog) (gl:=gl0 mx) zt) [0] [(1,qi a1),(5,qi (wrap .i64 (v7+1)))] (kE O)<|zy<|⟨wrap .i64 (v7+1),h,wk O⟩) fun h=>zG<|zx<|zv<|⟨v7,sI h,wk O⟩)) fun y5 h=>za<|za<|rs [0] [(1,qi a1),(6,qi (wrap .i64 (y5-1)))] (kE O)<|blE h (fun y27=>⟨38,[(0, .own 0 y27.1 1),(1,qi a1)]⟩) (fun y27=>⟨[[.buf (List.map (vI .u8) y27.2)]],[]⟩) (fun y27 h=>zK (X:=(Nat×Int×(List Int))) (fun x=>⟨38,[(0, .own 0 x.1 1),(1,qi a1),(6,qi x.2.1)]⟩) (fun x=>⟨[[.buf (List.map (vI .u8) x.2.2)]],[]⟩) (fun k x=>ua n a1 k x.1 x.2.1 x.2.2=some y27) (fun _ hx=>by simp [ua]at hx) n (0,wrap .i64 (y5-1),([]:List Int)) h (wk O) (fun k x h=>by obtain⟨v33,v34,v35⟩:=x; rw [ua]at h; exact za<|za<|rs [0] [(1,qi a1),(6,qi v34),(18,qb (decide (v34>0)))] (kE O)<|bF h (fun h=>zf<|za<|zz<|bE h fun x42 hx42 h=>bE h fun x43 hx43 h=>rmN zN [] [(0, .own 0 (v33+List.length ([IntKind.wrap .u8 (ior .i64 (w7 .i64 x42 127) 128)]:List Int)) 1),(1,qi a1),(6,qi v34)] ⟨[[.buf (List.map (vI .u8) x43)]],[]⟩ (kP 5 (gN (k:= .i64) (d:=(tyT 3).d) (k':= .u64) hx42)<|kV 10 1 0 0 (Zn (T:=tyT) (c:=(vI .u8)) (l:=v35) (l2:=([IntKind.wrap .u8 (ior .i64 (w7 .i64 x42 127) 128)]:List Int)) (n:=v33) (e:=5) (e2:=5) (bytes:=1) (b2:=1) (tok2:= .exact) (by kernel_rfl) hx43)<|kE A6)<|zy<|rsN zt [0] [(1,qi a1),(6,qi (wrap .i64 (v34-1)))] (kE O)<|⟨(v33+List.length ([IntKind.wrap .u8 (ior .i64 (w7 .i64 x42 127) 128)]:List Int),wrap .i64 (v34-1),x43),h,wk O⟩) fun h=>zG<|zx<|zv<|⟨(v33,v35),sI h,wk O⟩)) fun y27 h=>za<|bE h fun x44 hx44 h=>rm [] [(4, .own 0 (y27.1+List.length ([IntKind.wrap .u8 (w7 .i64 a1 127)]:List Int)) 1)] ⟨[[.buf (List.map (vI .u8) x44)]],[]⟩ (kV 5 1 0 0 (Zn (T:=tyT) (c:=(vI .u8)) (l:=y27.2) (l2:=([IntKind.wrap .u8 (w7 .i64 a1 127)]:List Int)) (n:=y27.1) (e:=5) (e2:=5) (bytes:=1) (b2:=1) (tok2:= .exact) (by kernel_rfl) hx44)<|kE A6)<|zi<|by cases h; exact rt O
def jq (n:Nat)(a1:Int):Nat→Int→Option Int
 |0,_=>none
 | k+1,v7=>
  (YI .i64 a1 (IntKind.wrap .u64 ((7:Int)*(IntKind.wrap .u64 v7)))).bind fun x9=>
  if(decide (x9>0))=true then(jq n a1 k (wrap .i64 (v7+1)))else(some v7)
def jr (n:Nat)(a1:Int):Nat→Nat→Int→(List Int)→Option (Nat×(List Int))
 |0,_,_,_=>none
 | k+1,v33,v34,v35=>
  if(decide (v34>0))=true then((YI .i64 a1 (IntKind.wrap .u64 ((7:Int)*(IntKind.wrap .u64 v34)))).bind fun x42=>
  (gI 1 v33 v35 ([IntKind.wrap .u8 (ior .i64 (w7 .i64 x42 127) 128)]:List Int)).bind fun x43=>
  jr n a1 k (v33+List.length ([IntKind.wrap .u8 (ior .i64 (w7 .i64 x42 127) 128)]:List Int)) (wrap .i64 (v34-1)) x43)else(some (v33,v35))
def gf (n a0:Nat)(a1:Int)(m0:List Int):Option (Nat×(List Int)):=
 (jq n a1 n 1).bind fun y5=>
 (jr n a1 n a0 (wrap .i64 (y5-1)) m0).bind fun y27=>
 (gI 1 y27.1 y27.2 ([IntKind.wrap .u8 (w7 .i64 a1 127)]:List Int)).bind fun x44=>
 some (y27.1+List.length ([IntKind.wrap .u8 (w7 .i64 a1 127)]:List Int),x44)
theorem VU {n a0 a1 m0 r}(h:gf n a0 a1 m0=some r):AC mx 117 [.own 0 a0 1,qi a1] [[.buf (List.map (vI .u8) m0)]] (.own 1 r.1 1) [[],[.buf (List.map (vI .u8) r.2)]]:=by
 delta gf at h
 exact fnc Tryz.func117 rfl<|uP (Wk.mov (cells:= [.buf (List.map (vI .u8) m0)]) 0 0 a0 1 1 (by kernel_rfl))<|uP (wk (fr':=⟨38,[(0, .own 1 a0 1),(1,qi a1)]⟩) (st':=⟨[[],[.buf (List.map (vI .u8) m0)]],[]⟩) A1)<|za<|rs [0] [(1,qi a1)] (kE A1)<|za<|rs [0] [(1,qi a1),(5,qi 1)] (kE A1)<|za<|blE h (fun y5=>⟨38,[(0, .own 1 a0 1),(1,qi a1),(5,qi y5)]⟩) (fun y5=>⟨[[],[.buf (List.map (vI .u8) m0)]],[]⟩) (fun y5 h=>zK (X:=Int) (fun x=>⟨38,[(0, .own 1 a0 1),(1,qi a1),(5,qi x)]⟩) (fun x=>⟨[[],[.buf (List.map (vI .u8) m0)]],[]⟩) (fun k x=>jq n a1 k x=some y5) (fun _ hx=>by simp [jq]at hx) n 1 h (wk A1) (fun k x h=>by revert h; revert x; intro v7 h; rw [jq]at h; exact za<|za<|bE h fun x9 hx9 h=>rs [0] [(1,qi a1),(5,qi v7),(12,qb (decide (x9>0)))] (kP 4 (gN (k:= .i64) (d:=(tyT 3).d) (k':= .u64) hx9)<|kE A1)<|bF h (fun h=>zf<|zz<|rsN (jC (P:=Tryz.prog) (gl:=gl0 mx) zt) [0] [(1,qi a1),(5,qi (wrap .i64 (v7+1)))] (kE A1)<|zy<|⟨wrap .i64 (v7+1),h,wk A1⟩) fun h=>zG<|zx<|zv<|⟨v7,sI h,wk A1⟩)) fun y5 h=>za<|za<|rs [0] [(1,qi a1),(6,qi (wrap .i64 (y5-1)))] (kE A1)<|blE h (fun y27=>⟨38,[(0, .own 1 y27.1 1),(1,qi a1)]⟩) (fun y27=>⟨[[],[.buf (List.map (vI .u8) y27.2)]],[]⟩) (fun y27 h=>zK (X:=(Nat×Int×(List Int))) (fun x=>⟨38,[(0, .own 1 x.1 1),(1,qi a1),(6,qi x.2.1)]⟩) (fun x=>⟨[[],[.buf (List.map (vI .u8) x.2.2)]],[]⟩) (fun k x=>jr n a1 k x.1 x.2.1 x.2.2=some y27) (fun _ hx=>by simp [jr]at hx) n (a0,wrap .i64 (y5-1),m0) h (wk A1) (fun k x h=>by obtain⟨v33,v34,v35⟩:=x; rw [jr]at h; exact za<|za<|rs [0] [(1,qi a1),(6,qi v34),(18,qb (decide (v34>0)))] (kE A1)<|bF h (fun h=>zf<|za<|zz<|bE h fun x42 hx42 h=>bE h fun x43 hx43 h=>rmN zN [] [(0, .own 1 (v33+List.length ([IntKind.wrap .u8 (ior .i64 (w7 .i64 x42 127) 128)]:List Int)) 1),(1,qi a1),(6,qi v34)] ⟨[[],[.buf (List.map (vI .u8) x43)]],[]⟩ (kP 5 (gN (k:= .i64) (d:=(tyT 3).d) (k':= .u64) hx42)<|kV 10 2 0 1 (Zn (T:=tyT) (c:=(vI .u8)) (l:=v35) (l2:=([IntKind.wrap .u8 (ior .i64 (w7 .i64 x42 127) 128)]:List Int)) (n:=v33) (e:=5) (e2:=5) (bytes:=1) (b2:=1) (tok2:= .exact) (by kernel_rfl) hx43)<|kE Ak)<|zy<|rsN zt [0] [(1,qi a1),(6,qi (wrap .i64 (v34-1)))] (kE A1)<|⟨(v33+List.length ([IntKind.wrap .u8 (ior .i64 (w7 .i64 x42 127) 128)]:List Int),wrap .i64 (v34-1),x43),h,wk A1⟩) fun h=>zG<|zx<|zv<|⟨(v33,v35),sI h,wk A1⟩)) fun y27 h=>za<|bE h fun x44 hx44 h=>rm [] [(4, .own 1 (y27.1+List.length ([IntKind.wrap .u8 (w7 .i64 a1 127)]:List Int)) 1)] ⟨[[],[.buf (List.map (vI .u8) x44)]],[]⟩ (kV 5 2 0 1 (Zn (T:=tyT) (c:=(vI .u8)) (l:=y27.2) (l2:=([IntKind.wrap .u8 (w7 .i64 a1 127)]:List Int)) (n:=y27.1) (e:=5) (e2:=5) (bytes:=1) (b2:=1) (tok2:= .exact) (by kernel_rfl) hx44)<|kE Ak)<|zi<|by cases h; exact rt A1
def vW (n:Nat)(x9:List Int):Nat→Nat→Int→(List Int)→Option (Nat×(List Int))
 |0,_,_,_=>none
 | k+1,v33,v34,v35=>
  if(decide (v34<(x9.length:Int)))=true then((z1 x9 v34).bind fun x42=>
  (gf n v33 x42 v35).bind fun r43=>
  vW n x9 k r43.1 (wrap .i64 (v34+1)) r43.2)else(some (v33,v35))
def uX (n:Nat)(a0:C6):Option (C6×Int):=
 ((bW n a0).bind fun r1=>
 onE r1 (some ([]:List Int)) (fun l2=>some l2)).bind fun y4=>
 (lne y4).bind fun x5=>
 (z1 y4 0).bind fun x6=>
 (z1 y4 1).bind fun x7=>
 (pq n (wrap .i64 ((wrap .i64 ((40:Int)*x6))+x7))).bind fun r8=>
 (lsl y4 2 (y4.length)).bind fun x9=>
 (vW n x9 n r8.1 0 r8.2).bind fun y27=>
 (Wz y27.1 y27.2).bind fun x44=>
 some (x44,0)
theorem bm {n a0 r}(h:uX n a0=some r):AC mx 45 [qs a0] [] (.tuple [qs r.1,qi r.2]) []:=by
 delta uX at h
 exact fnc Tryz.func45 rfl<|za<|rs [] [(0,qs a0)] (kE J)<|za<|bE h fun y4 hE h=>reg ⟨34,[(4,ql 1 (cI .i64) y4)]⟩ ⟨[],[]⟩ (have h:=hE; bE h fun r1 hr1 h=>kC 1 J (Y0 hr1)<|by cases r1 with|none=>exact(have h:=onN h; by cases h; exact kE J)|some l2=>exact(have h:=onS h; by cases h; exact kE J))<|za<|za<|bE h fun x5 hx5 h=>rs [4] [(11,qb false)] (kP 1 (G5 (c:=(cI .i64)) (e:=3) (sz:=1) (b:=8) (tok:= .none) hx5)<|kE J)<|bN<|zf<|za<|bE h fun x6 hx6 h=>bE h fun x7 hx7 h=>bE h fun r8 hr8 h=>zm [0,1,2,3,4,5,6,7,8,9] [8] [[],[0],[0,1],[0,1,2],[],[4],[4,5],[0,1,2,3,4,5,6],[0,1,2,3,4,5,6,7],[0,1,2,3,4,5,6,7,8]] [4] [(5, .own 0 r8.1 1)] ⟨[[.buf (List.map (vI .u8) r8.2)]],[]⟩ (dS [0]<|dP (zC (c:=(cI .i64)) (e:=3) (sz:=1) (b:=8) (tok:= .none) hx6)<|dS [2,3,4]<|dP (zC (c:=(cI .i64)) (e:=3) (sz:=1) (b:=8) (tok:= .none) hx7)<|dS [6,7]<|dC (zF 5 (zC (c:=(cI .i64)) (e:=3) (sz:=1) (b:=8) (tok:= .none) hx7) (zF 1 (zC (c:=(cI .i64)) (e:=3) (sz:=1) (b:=8) (tok:= .none) hx6) yg)) J (U3 hr8)<|dS [9]<|dE O)<|za<|za<|bE h fun x9 hx9 h=>rs [5] [(22,ql 1 (cI .i64) x9),(23,qi (x9.length:Int)),(24,qi 0)] (kP 1 (w6 (k:= .i64) (c:=(cI .i64)) (e:=3) (sz:=1) (b:=8) (tok:= .none) hx9)<|kP 2 (zX (c:=(cI .i64)) (l:=x9) (e:=3) (sz:=1) (sz':=1) (b:=8) (tok:= .none))<|kE O)<|blE h (fun y27=>⟨34,[(5, .own 0 y27.1 1)]⟩) (fun y27=>⟨[[.buf (List.map (vI .u8) y27.2)]],[]⟩) (fun y27 h=>zK (X:=(Nat×Int×(List Int))) (fun x=>⟨34,[(5, .own 0 x.1 1),(22,ql 1 (cI .i64) x9),(23,qi (x9.length:Int)),(24,qi x.2.1)]⟩) (fun x=>⟨[[.buf (List.map (vI .u8) x.2.2)]],[]⟩) (fun k x=>vW n x9 k x.1 x.2.1 x.2.2=some y27) (fun _ hx=>by simp [vW]at hx) n (r8.1,0,r8.2) h (wk O) (fun k x h=>by obtain⟨v33,v34,v35⟩:=x; rw [vW]at h; exact za<|rs [5,22,23] [(24,qi v34),(25,qb (decide (v34<(x9.length:Int))))] (kE O)<|za<|bF h (fun h=>zf<|za<|zz<|za<|bE h fun x42 hx42 h=>rs [5,22,23] [(7,qi x42),(24,qi v34)] (kP 0 (zC (c:=(cI .i64)) (e:=3) (sz:=1) (b:=8) (tok:= .none) hx42)<|kE O)<|bE h fun r43 hr43 h=>rmN zN [22,23] [(5, .own 0 r43.1 1),(24,qi v34)] ⟨[[.buf (List.map (vI .u8) r43.2)]],[]⟩ (kC 2 O (VU hr43)<|kE A6)<|zy<|rsN zt [5,22,23] [(24,qi (wrap .i64 (v34+1)))] (kE O)<|⟨(r43.1,wrap .i64 (v34+1),r43.2),h,wk O⟩) fun h=>zG<|zx<|zv<|⟨(v33,v35),sI h,wk O⟩)) fun y27 h=>za<|bE h fun x44 hx44 h=>rm [] [(2,qs x44),(3,qi 0)] ⟨[],[]⟩ (kP 1 (W6 hx44)<|kE A0)<|zi<|by cases h; exact rt J
def zQ (n:Nat)(a1:Int)(a2:C6)(m0:zd):Option zd:=
 (wf n a1 ([a2]:List C6)).bind fun r1=>
 (zU n r1.1 r1.2 m0).bind fun r2=>
 some r2
theorem yk {n a1 a2 m0 r}(h:zQ n a1 a2 m0=some r):AC mx 46 [qp 0,qi a1,qs a2] [zd.cells m0] (.tuple []) [zd.cells r]:=by
 delta zQ at h
 exact fnc Tryz.func46 rfl<|bE h fun r1 hr1 h=>bE h fun r2 hr2 h=>rmN gm [] [] ⟨[zd.cells r2],[]⟩ (kC 4 A0 (xZ hr1)<|kC 7 O (yo hr2)<|kE O)<|by cases h; exact rno O
def jt (n:Nat)(a0:Int):Nat→Int→Option Int
 |0,_=>none
 | k+1,v9=>
  (YI .i64 a0 (IntKind.wrap .u64 v9)).bind fun x11=>
  if(decide (x11>0))=true then(jt n a0 k (wrap .i64 (v9+1)))else(some v9)
def jv (n:Nat)(y7 a0:Int)(x12:Nat):Nat→Int→(List Int)→Option (List Int)
 |0,_,_=>none
 | k+1,v98,v99=>
  if(decide (v98<y7))=true then(((YI .i64 a0 (IntKind.wrap .u64 v98)).bind fun x136=>
  if((w7 .i64 x136 1)==1)=true then((qh x12 (wrap .i64 ((1:Int)+(wrap .i64 (Int.tdiv v98 8))))).bind fun x137=>
  ((v99)[(x137*1)]?).bind fun x138=>
  (QX .u8 1 (IntKind.wrap .u64 ((7:Int)-(IntKind.wrap .u64 (Int.tmod v98 8))))).bind fun x139=>
  (qh x12 (wrap .i64 ((1:Int)+(wrap .i64 (Int.tdiv v98 8))))).bind fun x140=>
  (pT v99 (x140*1) (ior .u8 x138 x139)).bind fun x141=>
  some x141)else(some v99)).bind fun y134=>
  jv n y7 a0 x12 k (wrap .i64 (v98+1)) y134)else(some v99)
def uK (n:Nat)(a0:Int):Option (C6×Int):=
 (if(decide (a0<0))=true then(some true)else(some (decide (a0>65535)))).bind fun y2=>
 if y2=true then(some (([]:C6),1))else((jt n a0 n 0).bind fun y7=>
 (Wa 1 (wrap .i64 ((1:Int)+(wrap .i64 (Int.tdiv (wrap .i64 (y7+7)) 8)))) (wrap .i64 ((1:Int)+(wrap .i64 (Int.tdiv (wrap .i64 (y7+7)) 8))))).bind fun x12=>
 (qh x12 0).bind fun x13=>
 (pT (List.replicate x12 (0:Int)) (x13*1) (IntKind.wrap .u8 (wrap .i64 ((wrap .i64 ((8:Int)*(wrap .i64 (((x12:Nat):Int)-1))))-y7)))).bind fun x14=>
 (jv n y7 a0 x12 n 0 x14).bind fun y78=>
 (Wz x12 y78).bind fun x142=>
 some (x142,0))
theorem Xh {n a0 r}(h:uK n a0=some r):AC mx 47 [qi a0] [] (.tuple [qs r.1,qi r.2]) []:=by
 delta uK at h
 exact fnc Tryz.func47 rfl<|za<|rs [] [(0,qi a0)] (kE J)<|za<|za<|bE h fun y2 hE h=>reg ⟨60,[(0,qi a0),(12,qb y2)]⟩ ⟨[],[]⟩ (have h:=hE; gF 3 9 h (fun h=>by cases h; exact kE J) fun h=>by cases h; exact kE J)<|bF h (fun h=>za<|rs [] [(2,qs []),(3,qi 1)] (kE J)<|zi<|by cases h; exact rt J) fun h=>zf<|za<|rs [] [(0,qi a0),(4,qi 0)] (kE J)<|za<|blE h (fun y7=>⟨60,[(0,qi a0),(4,qi y7)]⟩) (fun y7=>⟨[],[]⟩) (fun y7 h=>zK (X:=Int) (fun x=>⟨60,[(0,qi a0),(4,qi x)]⟩) (fun x=>⟨[],[]⟩) (fun k x=>jt n a0 k x=some y7) (fun _ hx=>by simp [jt]at hx) n 0 h (wk J) (fun k x h=>by revert h; revert x; intro v9 h; rw [jt]at h; exact za<|za<|bE h fun x11 hx11 h=>rs [] [(0,qi a0),(4,qi v9),(17,qb (decide (x11>0)))] (kP 3 (gN (k:= .i64) (d:=(tyT 3).d) (k':= .u64) hx11)<|kE J)<|bF h (fun h=>zf<|zz<|rsN (jC (P:=Tryz.prog) (gl:=gl0 mx) zt) [] [(0,qi a0),(4,qi (wrap .i64 (v9+1)))] (kE J)<|zy<|⟨wrap .i64 (v9+1),h,wk J⟩) fun h=>zG<|zx<|zv<|⟨v9,sI h,wk J⟩)) fun y7 h=>za<|bE h fun x12 hx12 h=>rm [] [(0,qi a0),(4,qi y7),(5, .own 0 x12 1)] ⟨[[.buf (List.map (vI .u8) (List.replicate x12 (0:Int)))]],[]⟩ (kV 4 0 0 0 (V5 (T:=tyT) (e:=5) (k1:= .i64) (k2:= .i64) (bytes:=1) (cell:=none) (c:=(vI .u8)) (uI .u8) 0 ⟨by kernel_rfl,by kernel_rfl⟩ hx12)<|kE O)<|za<|bE h fun x13 hx13 h=>bE h fun x14 hx14 h=>rm [5] [(0,qi a0),(4,qi y7)] ⟨[[.buf (List.map (vI .u8) x14)]],[]⟩ (kP 8 (kx (id:=0) (e:=5) (sz:=1) (b:=1) hx13)<|kV 9 1 0 0 (qM (T:=tyT) (t:=5) (c:=(vI .u8)) (l:=List.replicate x12 (0:Int)) (off:=(x13*1)) (x:=IntKind.wrap .u8 (wrap .i64 ((wrap .i64 ((8:Int)*(wrap .i64 (((x12:Nat):Int)-1))))-y7))) (uI .u8) (by kernel_rfl) hx14)<|kE O)<|za<|za<|rs [5] [(0,qi a0),(34,qi y7),(35,qi 0)] (kE O)<|blE h (fun y78=>⟨60,[(5, .own 0 x12 1)]⟩) (fun y78=>⟨[[.buf (List.map (vI .u8) y78)]],[]⟩) (fun y78 h=>zK (X:=(Int×(List Int))) (fun x=>⟨60,[(0,qi a0),(5, .own 0 x12 1),(34,qi y7),(35,qi x.1)]⟩) (fun x=>⟨[[.buf (List.map (vI .u8) x.2)]],[]⟩) (fun k x=>jv n y7 a0 x12 k x.1 x.2=some y78) (fun _ hx=>by simp [jv]at hx) n (0,x14) h (wk O) (fun k x h=>by obtain⟨v98,v99⟩:=x; rw [jv]at h; exact za<|rs [5] [(0,qi a0),(34,qi y7),(35,qi v98),(36,qb (decide (v98<y7)))] (kE O)<|za<|bF h (fun h=>zf<|za<|blE h (fun y134=>⟨60,[(0,qi a0),(5, .own 0 x12 1),(34,qi y7),(35,qi v98)]⟩) (fun y134=>⟨[[.buf (List.map (vI .u8) y134)]],[]⟩) (fun y134 h=>za<|rs [5] [(0,qi a0),(6,qi v98),(34,qi y7),(35,qi v98)] (kE O)<|za<|bE h fun x136 hx136 h=>rs [5] [(0,qi a0),(6,qi v98),(34,qi y7),(35,qi v98),(43,qb ((w7 .i64 x136 1)==1))] (kP 3 (gN (k:= .i64) (d:=(tyT 3).d) (k':= .u64) hx136)<|kE O)<|bF h (fun h=>bE h fun x137 hx137 h=>bE h fun x138 hx138 h=>bE h fun x139 hx139 h=>bE h fun x140 hx140 h=>bE h fun x141 hx141 h=>rmN z7 [5] [(0,qi a0),(34,qi y7),(35,qi v98)] ⟨[[.buf (List.map (vI .u8) x141)]],[]⟩ (kP 4 (kx (id:=0) (e:=5) (sz:=1) (b:=1) hx137)<|kP 5 (bf (c:=(vI .u8)) (l:=v99) (off:=(x137*1)) hx138)<|kP 10 (Qa (k:= .u8) (d:=(tyT 5).d) (k':= .u64) hx139)<|kP 12 (kx (id:=0) (e:=5) (sz:=1) (b:=1) hx140)<|kV 13 1 0 0 (qM (T:=tyT) (t:=5) (c:=(vI .u8)) (l:=v99) (off:=(x140*1)) (x:=ior .u8 x138 x139) (uI .u8) (by kernel_rfl) hx141)<|kE O)<|⟨x141,sI h,wk O⟩) fun h=>zf<|⟨v99,sI h,wk O⟩) fun y134 h=>rsN zt [5] [(0,qi a0),(34,qi y7),(35,qi (wrap .i64 (v98+1)))] (kE O)<|⟨(wrap .i64 (v98+1),y134),h,wk O⟩) fun h=>zG<|zx<|zv<|⟨v99,sI h,wk O⟩)) fun y78 h=>za<|bE h fun x142 hx142 h=>rm [] [(2,qs x142),(3,qi 0)] ⟨[],[]⟩ (kP 1 (W6 hx142)<|kE A0)<|zi<|by cases h; exact rt J
def pd (n:Nat)(m0:zd):Option zd:=
 some m0
theorem V1 {n m0 r}(h:pd n m0=some r):AC mx 49 [qp 0] [zd.cells m0] (.func (.func 118) [qp 0] []) [zd.cells r]:=by
 delta pd at h
 exact fnc Tryz.func49 rfl<|za<|rs [] [(0,qp 0)] (kE O)<|za<|rs [] [(2, .func (.func 118) [qp 0] [])] (kE O)<|zi<|by cases h; exact rt O
def jO (n:Nat)(a1:C6)(m0:zd):Option zd:=
 (uX n a1).bind fun r1=>
 (zU n ([]:C6) r1.2 m0).bind fun r2=>
 (zQ n 6 r1.1 r2).bind fun r3=>
 some r3
theorem YB {n a1 m0 r}(h:jO n a1 m0=some r):AC mx 118 [qp 0,qs a1] [zd.cells m0] (.tuple []) [zd.cells r]:=by
 delta jO at h
 exact fnc Tryz.func118 rfl<|za<|bE h fun r1 hr1 h=>rs [] [(0,qp 0),(4,qs r1.1),(5,qi r1.2)] (kC 1 A0 (bm hr1)<|kE O)<|za<|bE h fun r2 hr2 h=>rm [4] [(0,qp 0)] ⟨[zd.cells r2],[]⟩ (kC 2 O (yo hr2)<|kE O)<|bE h fun r3 hr3 h=>rmN gm [] [] ⟨[zd.cells r3],[]⟩ (kC 2 O (yk hr3)<|kE O)<|by cases h; exact rno O
def xX (n:Nat)(a2:List C6):Nat→Int→C6→Int→Option (C6×Int)
 |0,_,_,_=>none
 | k+1,v25,v26,v27=>
  if(decide (v25<(a2.length:Int)))=true then((z1 a2 v25).bind fun x34=>
  (jO n x34 (zd.mk v26 v27)).bind fun r35=>
  xX n a2 k (wrap .i64 (v25+1)) r35.f_b r35.f_e)else(some (v26,v27))
def vv (n:Nat)(a1:Int)(a2:List C6)(m0:zd):Option zd:=
 (pd n (zd.mk ([]:C6) 0)).bind fun r1=>
 (xX n a2 n 0 r1.f_b r1.f_e).bind fun y19=>
 (zU n ([]:C6) y19.2 m0).bind fun r36=>
 (zQ n a1 y19.1 r36).bind fun r37=>
 some r37
theorem gj {n a1 a2 m0 r}(h:vv n a1 a2 m0=some r):AC mx 48 [qp 0,qi a1,ql 1 cS a2, .func (.func 49) [] []] [zd.cells m0] (.tuple []) [zd.cells r]:=by
 delta vv at h
 exact fnc Tryz.func48 rfl<|za<|rm [2,3] [(0,qp 0),(1,qi a1),(8,qp 1)] ⟨[zd.cells m0,[qs ([]:C6),qi 0]],[]⟩ (kE A1)<|za<|bE h fun r1 hr1 h=>rm [2] [(0,qp 0),(1,qi a1),(8,qp 1),(9, .func (.func 118) [qp 1] [])] ⟨[zd.cells m0,zd.cells r1],[]⟩ (kC 1 A6 (V1 hr1)<|kE A1)<|za<|za<|rs [9] [(0,qp 0),(1,qi a1),(8,qp 1),(14,ql 1 cS a2),(15,qi (a2.length:Int)),(16,qi 0)] (kP 1 (zX (c:=cS) (l:=a2) (e:=9) (sz:=1) (sz':=1) (b:=16) (tok:= .none))<|kE A1)<|blE h (fun y19=>⟨33,[(0,qp 0),(1,qi a1),(8,qp 1)]⟩) (fun y19=>⟨[zd.cells m0,[qs y19.1,qi y19.2]],[]⟩) (fun y19 h=>zK (X:=(Int×C6×Int)) (fun x=>⟨33,[(0,qp 0),(1,qi a1),(8,qp 1),(9, .func (.func 118) [qp 1] []),(14,ql 1 cS a2),(15,qi (a2.length:Int)),(16,qi x.1)]⟩) (fun x=>⟨[zd.cells m0,[qs x.2.1,qi x.2.2]],[]⟩) (fun k x=>xX n a2 k x.1 x.2.1 x.2.2=some y19) (fun _ hx=>by simp [xX]at hx) n (0,r1.f_b,r1.f_e) h (wk A1) (fun k x h=>by obtain⟨v25,v26,v27⟩:=x; rw [xX]at h; exact za<|rs [9,14,15] [(0,qp 0),(1,qi a1),(8,qp 1),(16,qi v25),(17,qb (decide (v25<(a2.length:Int))))] (kE A1)<|za<|bF h (fun h=>zf<|za<|zz<|za<|bE h fun x34 hx34 h=>rs [9,14,15] [(0,qp 0),(1,qi a1),(8,qp 1),(11,qs x34),(16,qi v25)] (kP 0 (zC (c:=cS) (e:=9) (sz:=1) (b:=16) (tok:= .none) hx34)<|kE A1)<|bE h fun r35 hr35 h=>rmN zN [9,14,15] [(0,qp 0),(1,qi a1),(8,qp 1),(16,qi v25)] ⟨[zd.cells m0,zd.cells r35],[]⟩ (kC 2 A6 (YB hr35)<|kE A1)<|zy<|rsN zt [9,14,15] [(0,qp 0),(1,qi a1),(8,qp 1),(16,qi (wrap .i64 (v25+1)))] (kE A1)<|⟨(wrap .i64 (v25+1),r35.f_b,r35.f_e),h,wk A1⟩) fun h=>zG<|zx<|zv<|⟨(v26,v27),sI h,wk A1⟩)) fun y19 h=>za<|bE h fun r36 hr36 h=>rm [] [(0,qp 0),(1,qi a1),(8,qp 1)] ⟨[zd.cells r36,[qs y19.1,qi y19.2]],[]⟩ (kC 3 A3 (yo hr36)<|kE A1)<|bE h fun r37 hr37 h=>rmN gm [] [] ⟨[zd.cells r37],[]⟩ (kC 4 A3 (yk hr37)<|kE A3)<|by cases h; exact rno O
def qW (n:Nat)(a0:Bool):Option C6:=
 if a0=true then(some ([255]:C6))else(some ([0]:C6))
theorem YF {n a0 r}(h:qW n a0=some r):AC mx 119 [qb a0] [] (qs r) []:=by
 delta qW at h
 exact fnc Tryz.func119 rfl<|za<|rs [] [(0,qb a0)] (kE J)<|za<|za<|rs [] [(3,qb a0)] (kE J)<|bF h (fun h=>za<|rs [] [(2,qs ([255]:C6))] (kE J)<|zi<|by cases h; exact rt J) fun h=>zf<|za<|rs [] [(2,qs ([0]:C6))] (kE J)<|zi<|by cases h; exact rt J
def wd (n:Nat)(a1:Int)(a2:Bool)(m0:zd):Option zd:=
 if a2=true then((qW n true).bind fun r1=>
 (zQ n a1 r1 m0).bind fun r2=>
 some r2)else(some m0)
theorem uy {n a1 a2 m0 r}(h:wd n a1 a2 m0=some r):AC mx 50 [qp 0,qi a1,qb a2] [zd.cells m0] (.tuple []) [zd.cells r]:=by
 delta wd at h
 exact fnc Tryz.func50 rfl<|za<|rs [] [(0,qp 0),(1,qi a1),(6,qb a2)] (kE O)<|bF h (fun h=>bE h fun r1 hr1 h=>bE h fun r2 hr2 h=>rmN gm [] [] ⟨[zd.cells r2],[]⟩ (kC 2 A0 (YF hr1)<|kC 3 O (yk hr2)<|kE O)<|by cases h; exact rno O) fun h=>zf<|by cases h; exact rno O
def gH (n:Nat)(a0:Int):Option Int:=
 if(a0==0)=true then(some 7)else(if(decide (a0>16))=true then(some 2)else(some 0))
theorem Wt {n a0 r}(h:gH n a0=some r):AC mx 120 [qi a0] [] (qi r) []:=by
 delta gH at h
 exact fnc Tryz.func120 rfl<|za<|rs [] [(0,qi a0)] (kE J)<|za<|zz<|za<|rs [] [(0,qi a0),(3,qb (a0==0))] (kE J)<|bF h (fun h=>za<|rs [] [(2,qi 7)] (kE J)<|zi<|zP<|by cases h; exact rt J) fun h=>za<|rs [] [(6,qb (decide (a0>16)))] (kE J)<|bF h (fun h=>za<|rs [] [(2,qi 2)] (kE J)<|zi<|zP<|by cases h; exact rt J) fun h=>zf<|zy<|za<|rs [] [(2,qi 0)] (kE J)<|zi<|by cases h; exact rt J
def vC (n:Nat)(a0:zb):Option (C6×Int):=
 (uX n a0.yS).bind fun r1=>
 if(r1.2 !=0)=true then(some (([]:C6),r1.2))else((wf n 6 ([r1.1]:List C6)).bind fun r2=>
 if(r2.2 !=0)=true then(some (([]:C6),r2.2))else((wf n a0.zI ([a0.wo]:List C6)).bind fun r3=>
 if(r3.2 !=0)=true then(some (([]:C6),r3.2))else((wf n 48 ([r2.1,r3.1]:List C6)).bind fun r4=>
 some (r4.1,r4.2))))
theorem dT {n a0 r}(h:vC n a0=some r):AC mx 214 [.agg (zb.cells a0)] [] (.tuple [qs r.1,qi r.2]) []:=by
 delta vC at h
 exact fnc Tryz.func214 rfl<|za<|rm [] [(1,qp 0)] ⟨[zb.cells a0],[]⟩ (kE O)<|za<|bE h fun r1 hr1 h=>rs [] [(1,qp 0),(4,qs r1.1),(5,qi r1.2)] (kC 2 A0 (bm hr1)<|kE O)<|za<|za<|rs [4,5] [(1,qp 0),(15,qb (r1.2 !=0))] (kE O)<|bF h (fun h=>za<|rm [] [(2,qs []),(3,qi r1.2)] ⟨[],[]⟩ (kE A0)<|zi<|by cases h; exact rt J) fun h=>zf<|za<|bE h fun r2 hr2 h=>rs [] [(1,qp 0),(5,qi r2.2),(6,qs r2.1)] (kC 2 A0 (xZ hr2)<|kE O)<|za<|za<|rs [5,6] [(1,qp 0),(24,qb (r2.2 !=0))] (kE O)<|bF h (fun h=>za<|rm [] [(2,qs []),(3,qi r2.2)] ⟨[],[]⟩ (kE A0)<|zi<|by cases h; exact rt J) fun h=>zf<|za<|bE h fun r3 hr3 h=>rm [6] [(5,qi r3.2),(7,qs r3.1)] ⟨[],[]⟩ (kC 5 A0 (xZ hr3)<|kE A0)<|za<|za<|rs [5,6,7] [(36,qb (r3.2 !=0))] (kE J)<|bF h (fun h=>za<|rs [] [(2,qs []),(3,qi r3.2)] (kE J)<|zi<|by cases h; exact rt J) fun h=>zf<|za<|bE h fun r4 hr4 h=>rs [] [(2,qs r4.1),(3,qi r4.2)] (kC 3 J (xZ hr4)<|kE J)<|zi<|by cases h; exact rt J
def gu (n:Nat)(a0:List C6):Option C6:=
 (VG 16 a0).bind fun x1=>
 (WN n (x1.length) x1).bind fun r2=>
 (YK n (x1.length) ([]:C6) r2).bind fun r3=>
 some r3.1
theorem VT {n a0 r}(h:gu n a0=some r):AC mx 215 [ql 1 cS a0] [] (qs r) []:=by
 delta gu at h
 exact fnc Tryz.func215 rfl<|za<|rs [0] [] (kE J)<|za<|bE h fun x1 hx1 h=>rm [] [(3, .own 0 (x1.length) 1)] ⟨[[.buf (List.map vS x1)]],[]⟩ (kV 1 0 0 0 (B5 (T:=tyT) (c:=vS) (l2:=a0) (e:=9) (e2:=9) (bytes:=16) (b2:=16) (tok2:= .none) (cell:=none) (by kernel_rfl) hx1)<|kE O)<|za<|bE h fun r2 hr2 h=>rm [3] [] ⟨[[.buf (List.map vS r2)]],[]⟩ (kC 1 O (KT hr2)<|kE O)<|za<|bE h fun r3 hr3 h=>rm [] [(2,qs r3.1)] ⟨[],[]⟩ (kC 1 O (KE hr3)<|kE A0)<|zi<|by cases h; exact rt J
def vL (n:Nat)(x862:List zb):Nat→(List C6)→Int→Option (Ctl (C6×Int) (List C6))
 |0,_,_=>none
 | k+1,v895,v896=>
  if(decide (v896<(x862.length:Int)))=true then((z1 x862 v896).bind fun x906=>
  (vC n x906).bind fun r907=>
  if(r907.2 !=0)=true then(some (.ret (([]:C6),r907.2)))else((jV 16 v895 ([r907.1]:List C6)).bind fun x908=>
  vL n x862 k x908 (wrap .i64 (v896+1))))else(some (.nxt v895))
def vM (n:Nat)(a0:zu):Nat→(List C6)→Int→Option (Ctl (C6×Int) (List C6))
 |0,_,_=>none
 | k+1,v610,v611=>
  if(decide (v611<(a0.zk.length:Int)))=true then((z1 a0.zk v611).bind fun x862=>
  yW (vL n x862 n ([]:List C6) 0) (fun r=>some (.ret r)) (fun y885=>
  (gu n y885).bind fun r909=>
  (wf n 49 ([r909]:List C6)).bind fun r910=>
  if(r910.2 !=0)=true then(some (.ret (([]:C6),r910.2)))else((jV 16 v610 ([r910.1]:List C6)).bind fun x911=>
  vM n a0 k x911 (wrap .i64 (v611+1)))))else(some (.nxt v610))
def jZ (n:Nat)(a0:zu):Option (C6×Int):=
 (ut n a0).bind fun r1=>
 if(r1 !=0)=true then(some (([]:C6),r1))else(yW (vM n a0 n ([]:List C6) 0) (fun r=>some r) (fun y456=>
 (wf n 48 y456).bind fun r912=>
 some (r912.1,r912.2)))
theorem pG {n a0 r}(h:jZ n a0=some r):AC mx 164 [.agg [ql 1 (cL 3 zb.cells) a0.zk]] [] (.tuple [qs r.1,qi r.2]) []:=by
 delta jZ at h
 exact fnc Tryz.func164 rfl<|za<|rm [] [(1,qp 0)] ⟨[[ql 1 (cL 3 zb.cells) a0.zk]],[]⟩ (kE O)<|za<|za<|bE h fun r1 hr1 h=>rs [] [(1,qp 0),(4,qi r1)] (kC 1 A0 (kG hr1)<|kE O)<|za<|rs [] [(1,qp 0),(4,qi r1),(18,qb (r1 !=0))] (kE O)<|bF h (fun h=>za<|rm [] [(2,qs []),(3,qi r1)] ⟨[],[]⟩ (kE A0)<|zi<|by cases h; exact rt J) fun h=>zf<|za<|rs [] [(1,qp 0),(5,qn)] (kE O)<|za<|za<|rm [] [(5,qn),(21,ql 1 (cL 3 zb.cells) a0.zk),(22,qi (a0.zk.length:Int)),(23,qi 0)] ⟨[],[]⟩ (kP 2 (zX (c:=(cL 3 zb.cells)) (l:=a0.zk) (e:=141) (sz:=1) (sz':=1) (b:=24) (tok:= .none))<|kE A0)<|blC h (fun y456=>⟨65,[(5, .sl 1 (List.map cS y456) (.fam 0 (y456.length)))]⟩) (fun y456=>⟨[],[y456.length]⟩) (fun o457 h hr458=>uP (wk (fr':=⟨65,[(5,qn),(21,ql 1 (cL 3 zb.cells) a0.zk),(22,qi (a0.zk.length:Int)),(23,qi 0)]⟩) (st':=⟨[],[]⟩) J)<|uP Wk.nilFam<|zK (X:=((List C6)×Int)) (fun x=>⟨65,[(5, .sl 1 (List.map cS x.1) (.fam 0 (x.1.length))),(21,ql 1 (cL 3 zb.cells) a0.zk),(22,qi (a0.zk.length:Int)),(23,qi x.2)]⟩) (fun x=>⟨[],[x.1.length]⟩) (fun k x=>vM n a0 k x.1 x.2=some o457) (fun _ hx=>by simp [vM]at hx) n (([]:List C6),0) h (wk A2) (fun k x h=>by obtain⟨v610,v611⟩:=x; rw [vM]at h; exact za<|rs [5,21,22,23] [(24,qb (decide (v611<(a0.zk.length:Int))))] (kE A2)<|za<|bF h (fun h=>zf<|za<|zz<|za<|bE h fun x862 hx862 h=>rs [5,21,22,23] [(7,ql 3 zb.cells x862)] (kP 0 (zC (c:=(cL 3 zb.cells)) (e:=141) (sz:=1) (b:=24) (tok:= .none) hx862)<|kE A2)<|za<|rs [5,7,21,22,23] [(8,qn)] (kE A2)<|za<|za<|rs [5,21,22,23] [(8,qn),(27,ql 3 zb.cells x862),(28,qi (x862.length:Int)),(29,qi 0)] (kP 1 (zX (c:=zb.cells) (l:=x862) (e:=140) (sz:=3) (sz':=3) (b:=40) (tok:= .none))<|kE A2)<|blC h (fun y885=>⟨65,[(5, .sl 1 (List.map cS v610) (.fam 0 (v610.length))),(8, .sl 1 (List.map cS y885) (.fam 1 (y885.length))),(21,ql 1 (cL 3 zb.cells) a0.zk),(22,qi (a0.zk.length:Int)),(23,qi v611)]⟩) (fun y885=>⟨[],[v610.length,y885.length]⟩) (fun o886 h hr887=>uP (wk (fr':=⟨65,[(5, .sl 1 (List.map cS v610) (.fam 0 (v610.length))),(8,qn),(21,ql 1 (cL 3 zb.cells) a0.zk),(22,qi (a0.zk.length:Int)),(23,qi v611),(27,ql 3 zb.cells x862),(28,qi (x862.length:Int)),(29,qi 0)]⟩) (st':=⟨[],[v610.length]⟩) A2)<|uP Wk.nilFam<|zK (X:=((List C6)×Int)) (fun x=>⟨65,[(5, .sl 1 (List.map cS v610) (.fam 0 (v610.length))),(8, .sl 1 (List.map cS x.1) (.fam 1 (x.1.length))),(21,ql 1 (cL 3 zb.cells) a0.zk),(22,qi (a0.zk.length:Int)),(23,qi v611),(27,ql 3 zb.cells x862),(28,qi (x862.length:Int)),(29,qi x.2)]⟩) (fun x=>⟨[],[v610.length,x.1.length]⟩) (fun k x=>vL n x862 k x.1 x.2=some o886) (fun _ hx=>by simp [vL]at hx) n (([]:List C6),0) h (wk Ah) (fun k x h=>by obtain⟨v895,v896⟩:=x; rw [vL]at h; exact za<|rs [5,8,21,22,23,27,28,29] [(30,qb (decide (v896<(x862.length:Int))))] (kE Ah)<|za<|bF h (fun h=>zf<|za<|zz<|za<|bE h fun x906 hx906 h=>rm [5,8,21,22,23,27,28,29] [(10,qp 0)] ⟨[zb.cells x906],[v610.length,v895.length]⟩ (kP 0 (zC (c:=zb.cells) (e:=140) (sz:=3) (b:=40) (tok:= .none) hx906)<|kE ⟨[0],1,[0,1],2⟩)<|za<|bE h fun r907 hr907 h=>rm [5,8,21,22,23,27,28,29] [(11,qs r907.1),(12,qi r907.2)] ⟨[],[v610.length,v895.length]⟩ (kC 1 ⟨[],1,[],2⟩ (dT hr907)<|kE ⟨[],1,[0,1],2⟩)<|za<|za<|rs [5,8,11,12,21,22,23,27,28,29] [(39,qb (r907.2 !=0))] (kE Ah)<|bF h (fun h=>za<|rm [] [(2,qs []),(3,qi r907.2)] ⟨[],[]⟩ (kE Aw)<|zi<|zP<|zV<|have h:=hr887 _ (sI h); zR<|zP<|zV<|have h:=hr458 _ (sI h); zR<|by cases h; exact rt J) fun h=>zf<|bE h fun x908 hx908 h=>rmN zN [5,21,22,23,27,28,29] [(8, .sl 1 (List.map cS x908) (.fam 1 (x908.length)))] ⟨[],[v610.length,x908.length]⟩ (kA 3 1 cS (e:=9) (e2:=9) (sz:=1) (bytes:=16) (b2:=16) (tok2:= .exact) hx908<|kE Ah)<|zy<|rsN zt [5,8,21,22,23,27,28] [(29,qi (wrap .i64 (v896+1)))] (kE Ah)<|⟨(x908,wrap .i64 (v896+1)),h,wk Ah⟩) fun h=>zG<|zx<|zv<|⟨v895,sI h,wk Ah⟩)) fun y885 h=>za<|bE h fun r909 hr909 h=>bE h fun r910 hr910 h=>rm [5,21,22,23] [(13,qs r910.1),(14,qi r910.2)] ⟨[],[v610.length]⟩ (kC 1 Aw (VT hr909)<|kC 3 Aw (xZ hr910)<|kE ⟨[],0,[0],2⟩)<|za<|za<|rs [5,13,14,21,22,23] [(54,qb (r910.2 !=0))] (kE A2)<|bF h (fun h=>za<|rm [] [(2,qs []),(3,qi r910.2)] ⟨[],[]⟩ (kE A9)<|zi<|zP<|zV<|have h:=hr458 _ (sI h); zR<|by cases h; exact rt J) fun h=>zf<|bE h fun x911 hx911 h=>rmN zN [21,22,23] [(5, .sl 1 (List.map cS x911) (.fam 0 (x911.length)))] ⟨[],[x911.length]⟩ (kA 3 0 cS (e:=9) (e2:=9) (sz:=1) (bytes:=16) (b2:=16) (tok2:= .exact) hx911<|kE A2)<|zy<|rsN zt [5,21,22] [(23,qi (wrap .i64 (v611+1)))] (kE A2)<|⟨(x911,wrap .i64 (v611+1)),h,wk A2⟩) fun h=>zG<|zx<|zv<|⟨v610,sI h,wk A2⟩)) fun y456 h=>za<|bE h fun r912 hr912 h=>rm [] [(2,qs r912.1),(3,qi r912.2)] ⟨[],[]⟩ (kC 1 A9 (xZ hr912)<|kE A9)<|zi<|by cases h; exact rt J
def j0 (n:Nat)(a0:zc)(a1:Bool):Option (C6×Int):=
 (wQ n (zc.mk a0.zI a0.ye (zu.mk a0.zr.zk)) a1).bind fun r1=>
 if(r1 !=0)=true then(some (([]:C6),r1))else(if(a0.zI !=4)=true then((wf n (wrap .i64 ((128:Int)+a0.zI)) ([a0.ye]:List C6)).bind fun r2=>
 some (r2.1,r2.2))else((jZ n (zu.mk a0.zr.zk)).bind fun r3=>
 if(r3.2 !=0)=true then(some (([]:C6),r3.2))else((wf n (wrap .i64 ((160:Int)+a0.zI)) ([r3.1]:List C6)).bind fun r4=>
 some (r4.1,r4.2))))
theorem XE {n a0 a1 r}(h:j0 n a0 a1=some r):AC mx 121 [.agg (zc.cells a0),qb a1] [] (.tuple [qs r.1,qi r.2]) []:=by
 delta j0 at h
 exact fnc Tryz.func121 rfl<|za<|rm [] [(1,qb a1),(2,qp 0)] ⟨[zc.cells a0],[]⟩ (kE O)<|za<|za<|bE h fun r1 hr1 h=>rs [] [(2,qp 0),(6,qi r1)] (kC 2 A0 (Zd hr1)<|kE O)<|za<|rs [] [(2,qp 0),(6,qi r1),(13,qb (r1 !=0))] (kE O)<|bF h (fun h=>za<|rm [] [(4,qs []),(5,qi r1)] ⟨[],[]⟩ (kE A0)<|zi<|by cases h; exact rt J) fun h=>zf<|za<|za<|rs [] [(2,qp 0),(17,qb (a0.zI !=4))] (kE O)<|bF h (fun h=>za<|bE h fun r2 hr2 h=>rm [] [(4,qs r2.1),(5,qi r2.2)] ⟨[],[]⟩ (kC 6 A0 (xZ hr2)<|kE A0)<|zi<|by cases h; exact rt J) fun h=>zf<|za<|bE h fun r3 hr3 h=>rs [] [(2,qp 0),(7,qs r3.1),(8,qi r3.2)] (kC 2 A0 (pG hr3)<|kE O)<|za<|za<|rs [7,8] [(2,qp 0),(34,qb (r3.2 !=0))] (kE O)<|bF h (fun h=>za<|rm [] [(4,qs []),(5,qi r3.2)] ⟨[],[]⟩ (kE A0)<|zi<|by cases h; exact rt J) fun h=>zf<|za<|bE h fun r4 hr4 h=>rm [] [(4,qs r4.1),(5,qi r4.2)] ⟨[],[]⟩ (kC 5 A0 (xZ hr4)<|kE A0)<|zi<|by cases h; exact rt J
def wO (n:Nat)(a0:List zc):Nat→C6→Int→Option (Ctl (C6×Int) C6)
 |0,_,_=>none
 | k+1,v32,v33=>
  if(decide (v33<(a0.length:Int)))=true then((z1 a0 v33).bind fun x43=>
  (j0 n (zc.mk x43.zI x43.ye (zu.mk x43.zr.zk)) false).bind fun r44=>
  if(r44.2 !=0)=true then(some (.ret (([]:C6),r44.2)))else((uw v32 r44.1).bind fun x45=>
  wO n a0 k x45 (wrap .i64 (v33+1))))else(some (.nxt v32))
def uv (n:Nat)(a0:List zc):Option (C6×Int):=
 (gH n (a0.length:Int)).bind fun r1=>
 if(r1 !=0)=true then(some (([]:C6),r1))else(yW (wO n a0 n ([]:C6) 0) (fun r=>some r) (fun y23=>
 some (y23,0)))
theorem Yc {n a0 r}(h:uv n a0=some r):AC mx 51 [ql 3 zc.cells a0] [] (.tuple [qs r.1,qi r.2]) []:=by
 delta uv at h
 exact fnc Tryz.func51 rfl<|za<|rs [0] [] (kE J)<|za<|za<|bE h fun r1 hr1 h=>rs [0] [(4,qi r1)] (kP 1 (zX (c:=zc.cells) (l:=a0) (e:=59) (sz:=3) (sz':=3) (b:=48) (tok:= .none))<|kC 2 J (Wt hr1)<|kE J)<|za<|rs [0] [(4,qi r1),(14,qb (r1 !=0))] (kE J)<|bF h (fun h=>za<|rs [] [(2,qs []),(3,qi r1)] (kE J)<|zi<|by cases h; exact rt J) fun h=>zf<|za<|rs [0] [(5,qs [])] (kE J)<|za<|za<|rs [5] [(16,ql 3 zc.cells a0),(17,qi (a0.length:Int)),(18,qi 0)] (kP 1 (zX (c:=zc.cells) (l:=a0) (e:=59) (sz:=3) (sz':=3) (b:=48) (tok:= .none))<|kE J)<|blC h (fun y23=>⟨35,[(5,qs y23)]⟩) (fun y23=>⟨[],[]⟩) (fun o24 h hr25=>zK (X:=(C6×Int)) (fun x=>⟨35,[(5,qs x.1),(16,ql 3 zc.cells a0),(17,qi (a0.length:Int)),(18,qi x.2)]⟩) (fun x=>⟨[],[]⟩) (fun k x=>wO n a0 k x.1 x.2=some o24) (fun _ hx=>by simp [wO]at hx) n (([]:C6),0) h (wk J) (fun k x h=>by obtain⟨v32,v33⟩:=x; rw [wO]at h; exact za<|rs [16,17] [(5,qs v32),(18,qi v33),(19,qb (decide (v33<(a0.length:Int))))] (kE J)<|za<|bF h (fun h=>zf<|za<|zz<|za<|bE h fun x43 hx43 h=>rm [16,17] [(5,qs v32),(7,qp 0),(18,qi v33)] ⟨[zc.cells x43],[]⟩ (kP 0 (zC (c:=zc.cells) (e:=59) (sz:=3) (b:=48) (tok:= .none) hx43)<|kE O)<|za<|bE h fun r44 hr44 h=>rm [16,17] [(5,qs v32),(8,qs r44.1),(9,qi r44.2),(18,qi v33)] ⟨[],[]⟩ (kC 1 A0 (XE hr44)<|kE A0)<|za<|za<|rs [8,9,16,17] [(5,qs v32),(18,qi v33),(28,qb (r44.2 !=0))] (kE J)<|bF h (fun h=>za<|rs [] [(2,qs []),(3,qi r44.2)] (kE J)<|zi<|zP<|zV<|have h:=hr25 _ (sI h); zR<|by cases h; exact rt J) fun h=>zf<|bE h fun x45 hx45 h=>rsN zN [16,17] [(5,qs x45),(18,qi v33)] (kP 2 (yO (d:=(tyT 9).d) hx45)<|kE J)<|zy<|rsN zt [16,17] [(5,qs x45),(18,qi (wrap .i64 (v33+1)))] (kE J)<|⟨(x45,wrap .i64 (v33+1)),h,wk J⟩) fun h=>zG<|zx<|zv<|⟨v32,sI h,wk J⟩)) fun y23 h=>za<|rs [] [(2,qs y23),(3,qi 0)] (kE J)<|zi<|by cases h; exact rt J
def uH (n:Nat):Nat→Int→Int→Option Int
 |0,_,_=>none
 | k+1,v14,v15=>
  (if(decide (v15<(-128)))=true then(some true)else(some (decide (v15>127)))).bind fun y19=>
  if y19=true then(uH n k (wrap .i64 (v14+1)) (Int.fdiv v15 256))else(some v14)
def uE (n:Nat)(y10 a0:Int):Nat→(List Int)→Int→Option (List Int)
 |0,_,_=>none
 | k+1,v43,v44=>
  if(decide (v44<y10))=true then((YI .i64 a0 (IntKind.wrap .u64 ((8:Int)*(IntKind.wrap .u64 (wrap .i64 ((wrap .i64 (y10-1))-v44)))))).bind fun x51=>
  (jV 1 v43 ([IntKind.wrap .u8 x51]:List Int)).bind fun x52=>
  uE n y10 a0 k x52 (wrap .i64 (v44+1)))else(some v43)
def jQ (n:Nat)(a0:Int):Option C6:=
 (uH n  n 1 a0).bind fun y10=>
 (uE n y10 a0 n ([]:List Int) 0).bind fun y36=>
 some (b2s y36)
theorem YE {n a0 r}(h:jQ n a0=some r):AC mx 157 [qi a0] [] (qs r) []:=by
 delta jQ at h
 exact fnc Tryz.func157 rfl<|za<|rs [] [(0,qi a0)] (kE J)<|za<|rs [] [(0,qi a0),(3,qi 1)] (kE J)<|za<|za<|rs [] [(0,qi a0),(3,qi 1),(4,qi a0)] (kE J)<|blE h (fun y10=>⟨37,[(0,qi a0),(3,qi y10)]⟩) (fun y10=>⟨[],[]⟩) (fun y10 h=>zK (X:=(Int×Int)) (fun x=>⟨37,[(0,qi a0),(3,qi x.1),(4,qi x.2)]⟩) (fun x=>⟨[],[]⟩) (fun k x=>uH n  k x.1 x.2=some y10) (fun _ hx=>by simp [uH]at hx) n (1,a0) h (wk J) (fun k x h=>by obtain⟨v14,v15⟩:=x; rw [uH]at h; exact za<|za<|bE h fun y19 hE h=>reg ⟨37,[(0,qi a0),(3,qi v14),(4,qi v15),(13,qb y19)]⟩ ⟨[],[]⟩ (have h:=hE; gF 3 10 h (fun h=>by cases h; exact kE J) fun h=>by cases h; exact kE J)<|bF h (fun h=>zf<|za<|zz<|rsN zN [] [(0,qi a0),(3,qi (wrap .i64 (v14+1))),(4,qi v15)] (kE J)<|zy<|rsN zt [3] [(0,qi a0),(4,qi (Int.fdiv v15 256))] (kE J)<|⟨(wrap .i64 (v14+1),Int.fdiv v15 256),h,wk J⟩) fun h=>zG<|zx<|zv<|⟨v14,sI h,wk J⟩)) fun y10 h=>za<|rs [] [(0,qi a0),(3,qi y10),(5,qn)] (kE J)<|za<|za<|rs [] [(0,qi a0),(3,qi y10),(5,qn),(18,qi y10),(19,qi 0)] (kE J)<|blE h (fun y36=>⟨37,[(5, .sl 1 (List.map (cI .u8) y36) (.fam 0 (y36.length)))]⟩) (fun y36=>⟨[],[y36.length]⟩) (fun y36 h=>uP (wk (fr':=⟨37,[(0,qi a0),(3,qi y10),(5,qn),(18,qi y10),(19,qi 0)]⟩) (st':=⟨[],[]⟩) J)<|uP Wk.nilFam<|zK (X:=((List Int)×Int)) (fun x=>⟨37,[(0,qi a0),(3,qi y10),(5, .sl 1 (List.map (cI .u8) x.1) (.fam 0 (x.1.length))),(18,qi y10),(19,qi x.2)]⟩) (fun x=>⟨[],[x.1.length]⟩) (fun k x=>uE n y10 a0 k x.1 x.2=some y36) (fun _ hx=>by simp [uE]at hx) n (([]:List Int),0) h (wk A2) (fun k x h=>by obtain⟨v43,v44⟩:=x; rw [uE]at h; exact za<|rs [5] [(0,qi a0),(3,qi y10),(18,qi y10),(19,qi v44),(20,qb (decide (v44<y10)))] (kE A2)<|za<|bF h (fun h=>zf<|za<|zz<|za<|rs [5] [(0,qi a0),(3,qi y10),(6,qi v44),(18,qi y10),(19,qi v44)] (kE A2)<|bE h fun x51 hx51 h=>bE h fun x52 hx52 h=>rmN zN [] [(0,qi a0),(3,qi y10),(5, .sl 1 (List.map (cI .u8) x52) (.fam 0 (x52.length))),(18,qi y10),(19,qi v44)] ⟨[],[x52.length]⟩ (kP 8 (gN (k:= .i64) (d:=(tyT 3).d) (k':= .u64) hx51)<|kA 11 0 (cI .u8) (e:=5) (e2:=5) (sz:=1) (bytes:=1) (b2:=1) (tok2:= .exact) hx52<|kE A2)<|zy<|rsN zt [5] [(0,qi a0),(3,qi y10),(18,qi y10),(19,qi (wrap .i64 (v44+1)))] (kE A2)<|⟨(x52,wrap .i64 (v44+1)),h,wk A2⟩) fun h=>zG<|zx<|zv<|⟨v43,sI h,wk A2⟩)) fun y36 h=>za<|rm [] [(2,qs (b2s y36))] ⟨[],[]⟩ (kB 1 y36<|kE A9)<|zi<|by cases h; exact rt J
def vg (n:Nat)(a1 a2:Int)(m0:zd):Option zd:=
 (jQ n a2).bind fun r1=>
 (zQ n a1 r1 m0).bind fun r2=>
 some r2
theorem bn {n a1 a2 m0 r}(h:vg n a1 a2 m0=some r):AC mx 91 [qp 0,qi a1,qi a2] [zd.cells m0] (.tuple []) [zd.cells r]:=by
 delta vg at h
 exact fnc Tryz.func91 rfl<|bE h fun r1 hr1 h=>bE h fun r2 hr2 h=>rmN gm [] [] ⟨[zd.cells r2],[]⟩ (kC 3 A0 (YE hr1)<|kC 4 O (yk hr2)<|kE O)<|by cases h; exact rno O
def wt (n:Nat)(a1:Int)(m0:zd):Option zd:=
 (vg n 2 a1 m0).bind fun r1=>
 some r1
theorem uZ {n a1 m0 r}(h:wt n a1 m0=some r):AC mx 52 [qp 0,qi a1] [zd.cells m0] (.tuple []) [zd.cells r]:=by
 delta wt at h
 exact fnc Tryz.func52 rfl<|bE h fun r1 hr1 h=>rmN gm [] [] ⟨[zd.cells r1],[]⟩ (kC 2 O (bn hr1)<|kE O)<|by cases h; exact rno O
def bP (n:Nat)(m0:zd):Option zd:=
 some m0
theorem XU {n m0 r}(h:bP n m0=some r):AC mx 54 [qp 0] [zd.cells m0] (.func (.func 104) [qp 0] []) [zd.cells r]:=by
 delta bP at h
 exact fnc Tryz.func54 rfl<|za<|rs [] [(0,qp 0)] (kE O)<|za<|rs [] [(2, .func (.func 104) [qp 0] [])] (kE O)<|zi<|by cases h; exact rt O
def jK (n:Nat)(a0:zB):Option C6:=
 (uw (b2s ([IntKind.wrap .u8 a0.zA]:List Int)) a0.wm).bind fun x1=>
 (uw x1 a0.zT).bind fun x2=>
 some x2
theorem Yz {n a0 r}(h:jK n a0=some r):AC mx 162 [.agg (zB.cells a0)] [] (qs r) []:=by
 delta jK at h
 exact fnc Tryz.func162 rfl<|za<|rm [] [(1,qp 0)] ⟨[zB.cells a0],[]⟩ (kE O)<|za<|bE h fun x1 hx1 h=>bE h fun x2 hx2 h=>rm [] [(2,qs x2)] ⟨[],[]⟩ (kB 4 ([IntKind.wrap .u8 a0.zA]:List Int)<|kP 7 (yO (d:=(tyT 9).d) hx1)<|kP 10 (yO (d:=(tyT 9).d) hx2)<|kE A0)<|zi<|by cases h; exact rt J
def gV (n:Nat)(a0:C6)(a1:Int):Option Bool:=
 if(a1==0)=true then(some true)else((if(!(a0==([]:C6)))=true then((wl a0 (wrap .i64 ((a0.length:Int)-1))).bind fun x1=>
 (QX .u8 1 (IntKind.wrap .u64 a1)).bind fun x2=>
 some ((w7 .u8 x1 (IntKind.wrap .u8 (x2-1)))==0))else(some false)).bind fun y4=>
 some y4)
theorem Vf {n a0 a1 r}(h:gV n a0 a1=some r):AC mx 213 [qs a0,qi a1] [] (qb r) []:=by
 delta gV at h
 exact fnc Tryz.func213 rfl<|za<|rs [] [(0,qs a0),(1,qi a1)] (kE J)<|za<|za<|rs [] [(0,qs a0),(1,qi a1),(6,qb (a1==0))] (kE J)<|bF h (fun h=>za<|rs [] [(4,qb true)] (kE J)<|zi<|by cases h; exact rt J) fun h=>zf<|za<|bE h fun y4 hE h=>reg ⟨22,[(4,qb y4)]⟩ ⟨[],[]⟩ (have h:=hE; gF 3 9 h (fun h=>bE h fun x1 hx1 h=>bE h fun x2 hx2 h=>kP 7 (yj hx1)<|kP 10 (Qa (k:= .u8) (d:=(tyT 5).d) (k':= .u64) hx2)<|by cases h; exact kE J) fun h=>by cases h; exact kE J)<|zi<|by cases h; exact rt J
def ko (n:Nat)(a0:C6)(a1:Int):Option (C6×Int):=
 (if(decide (a1<0))=true then(some true)else(some (decide (a1>7)))).bind fun y2=>
 if y2=true then(some (([]:C6),1))else((gV n a0 a1).bind fun r3=>
 if(!r3)=true then(some (([]:C6),7))else((uw (b2s ([IntKind.wrap .u8 a1]:List Int)) a0).bind fun x4=>
 some (x4,0)))
theorem XK {n a0 a1 r}(h:ko n a0 a1=some r):AC mx 161 [qs a0,qi a1] [] (.tuple [qs r.1,qi r.2]) []:=by
 delta ko at h
 exact fnc Tryz.func161 rfl<|za<|rs [] [(0,qs a0),(1,qi a1)] (kE J)<|za<|za<|bE h fun y2 hE h=>reg ⟨22,[(0,qs a0),(1,qi a1),(11,qb y2)]⟩ ⟨[],[]⟩ (have h:=hE; gF 3 8 h (fun h=>by cases h; exact kE J) fun h=>by cases h; exact kE J)<|bF h (fun h=>za<|rs [] [(4,qs []),(5,qi 1)] (kE J)<|zi<|by cases h; exact rt J) fun h=>zf<|za<|za<|bE h fun r3 hr3 h=>rs [] [(0,qs a0),(1,qi a1),(15,qb (!r3))] (kC 2 J (Vf hr3)<|kE J)<|bF h (fun h=>za<|rs [] [(4,qs []),(5,qi 7)] (kE J)<|zi<|by cases h; exact rt J) fun h=>zf<|za<|bE h fun x4 hx4 h=>rs [] [(4,qs x4),(5,qi 0)] (kB 3 ([IntKind.wrap .u8 a1]:List Int)<|kP 5 (yO (d:=(tyT 9).d) hx4)<|kE J)<|zi<|by cases h; exact rt J
def qf (n:Nat):Option C6:=
 (uX n ([49,46,51,46,54,46,49,46,52,46,49,46,53,56,56,56,56,46,49,46,49]:C6)).bind fun r1=>
 (wf n 6 ([r1.1]:List C6)).bind fun r2=>
 (wf n 48 ([r2.1]:List C6)).bind fun r3=>
 some r3.1
theorem ZF {n r}(h:qf n  =some r):AC mx 163 [] [] (qs r) []:=by
 delta qf at h
 exact fnc Tryz.func163 rfl<|za<|rs [] [] (kE J)<|za<|bE h fun r1 hr1 h=>rs [] [(1,qs r1.1)] (kC 0 J (bm hr1)<|kE J)<|za<|bE h fun r2 hr2 h=>rs [] [(3,qs r2.1)] (kC 2 J (xZ hr2)<|kE J)<|za<|bE h fun r3 hr3 h=>rs [] [(5,qs r3.1)] (kC 2 J (xZ hr3)<|kE J)<|za<|rs [] [(0,qs r3.1)] (kE J)<|zi<|by cases h; exact rt J
def ji (n:Nat)(a0:zB):Option (C6×Int):=
 (jp n a0).bind fun r1=>
 if(r1 !=0)=true then(some (([]:C6),r1))else((jK n a0).bind fun r2=>
 (ko n r2 0).bind fun r3=>
 if(r3.2 !=0)=true then(some (([]:C6),r3.2))else((wf n 3 ([r3.1]:List C6)).bind fun r4=>
 if(r4.2 !=0)=true then(some (([]:C6),r4.2))else((qf n).bind fun r5=>
 (wf n 48 ([r5,r4.1]:List C6)).bind fun r6=>
 some (r6.1,r6.2))))
theorem dq {n a0 r}(h:ji n a0=some r):AC mx 103 [.agg (zB.cells a0)] [] (.tuple [qs r.1,qi r.2]) []:=by
 delta ji at h
 exact fnc Tryz.func103 rfl<|za<|rm [] [(1,qp 0)] ⟨[zB.cells a0],[]⟩ (kE O)<|za<|za<|bE h fun r1 hr1 h=>rs [] [(1,qp 0),(4,qi r1)] (kC 1 A0 (pi hr1)<|kE O)<|za<|rs [] [(1,qp 0),(4,qi r1),(11,qb (r1 !=0))] (kE O)<|bF h (fun h=>za<|rm [] [(2,qs []),(3,qi r1)] ⟨[],[]⟩ (kE A0)<|zi<|by cases h; exact rt J) fun h=>zf<|za<|bE h fun r2 hr2 h=>bE h fun r3 hr3 h=>rm [] [(5,qs r3.1),(6,qi r3.2)] ⟨[],[]⟩ (kC 1 A0 (Yz hr2)<|kC 2 A0 (XK hr3)<|kE A0)<|za<|za<|rs [5,6] [(20,qb (r3.2 !=0))] (kE J)<|bF h (fun h=>za<|rs [] [(2,qs []),(3,qi r3.2)] (kE J)<|zi<|by cases h; exact rt J) fun h=>zf<|za<|bE h fun r4 hr4 h=>rs [] [(6,qi r4.2),(7,qs r4.1)] (kC 2 J (xZ hr4)<|kE J)<|za<|za<|rs [6,7] [(29,qb (r4.2 !=0))] (kE J)<|bF h (fun h=>za<|rs [] [(2,qs []),(3,qi r4.2)] (kE J)<|zi<|by cases h; exact rt J) fun h=>zf<|za<|bE h fun r5 hr5 h=>bE h fun r6 hr6 h=>rs [] [(2,qs r6.1),(3,qi r6.2)] (kC 0 J (ZF hr5)<|kC 3 J (xZ hr6)<|kE J)<|zi<|by cases h; exact rt J
def wY (n:Nat)(a1:ze)(m0:zd):Option zd:=
 (jZ n (zu.mk a1.zr.zk)).bind fun r1=>
 (zU n r1.1 r1.2 (zd.mk ([]:C6) 0)).bind fun r2=>
 (ji n (zB.mk a1.zw.zA a1.zw.wm a1.zw.zT)).bind fun r3=>
 (zU n r3.1 r3.2 r2).bind fun r4=>
 (zU n ([]:C6) r4.f_e m0).bind fun r5=>
 (zQ n 48 r4.f_b r5).bind fun r6=>
 some r6
theorem bK {n a1 m0 r}(h:wY n a1 m0=some r):AC mx 104 [qp 0, .agg [ql 1 (cL 3 zb.cells) a1.zr.zk,qi a1.zw.zA,qs a1.zw.wm,qs a1.zw.zT]] [zd.cells m0] (.tuple []) [zd.cells r]:=by
 delta wY at h
 exact fnc Tryz.func104 rfl<|za<|rm [] [(0,qp 0),(3,qp 1)] ⟨[zd.cells m0,[ql 1 (cL 3 zb.cells) a1.zr.zk,qi a1.zw.zA,qs a1.zw.wm,qs a1.zw.zT]],[]⟩ (kE A1)<|za<|rm [] [(0,qp 0),(3,qp 1),(4,qp 2)] ⟨[zd.cells m0,[ql 1 (cL 3 zb.cells) a1.zr.zk,qi a1.zw.zA,qs a1.zw.wm,qs a1.zw.zT],[qs ([]:C6),qi 0]],[]⟩ (kE A4)<|za<|bE h fun r1 hr1 h=>bE h fun r2 hr2 h=>rm [] [(0,qp 0),(3,qp 1),(4,qp 2)] ⟨[zd.cells m0,[ql 1 (cL 3 zb.cells) a1.zr.zk,qi a1.zw.zA,qs a1.zw.wm,qs a1.zw.zT],zd.cells r2],[]⟩ (kC 2 Ae (pG hr1)<|kC 5 Al (yo hr2)<|kE A4)<|za<|bE h fun r3 hr3 h=>bE h fun r4 hr4 h=>rm [] [(0,qp 0),(4,qp 1)] ⟨[zd.cells m0,zd.cells r4],[]⟩ (kC 2 Ae (dq hr3)<|kC 5 Al (yo hr4)<|kE Ak)<|za<|bE h fun r5 hr5 h=>rm [] [(0,qp 0),(4,qp 1)] ⟨[zd.cells r5,zd.cells r4],[]⟩ (kC 3 A3 (yo hr5)<|kE A1)<|bE h fun r6 hr6 h=>rmN gm [] [] ⟨[zd.cells r6],[]⟩ (kC 3 A3 (yk hr6)<|kE A3)<|by cases h; exact rno O
def xx (n:Nat)(a2:List ze):Nat→Int→C6→Int→Option (C6×Int)
 |0,_,_,_=>none
 | k+1,v25,v26,v27=>
  if(decide (v25<(a2.length:Int)))=true then((z1 a2 v25).bind fun x34=>
  (wY n (ze.mk (zu.mk x34.zr.zk) (zB.mk x34.zw.zA x34.zw.wm x34.zw.zT)) (zd.mk v26 v27)).bind fun r35=>
  xx n a2 k (wrap .i64 (v25+1)) r35.f_b r35.f_e)else(some (v26,v27))
def vV (n:Nat)(a1:Int)(a2:List ze)(m0:zd):Option zd:=
 (bP n (zd.mk ([]:C6) 0)).bind fun r1=>
 (xx n a2 n 0 r1.f_b r1.f_e).bind fun y19=>
 (zU n ([]:C6) y19.2 m0).bind fun r36=>
 (zQ n a1 y19.1 r36).bind fun r37=>
 some r37
theorem pF {n a1 a2 m0 r}(h:vV n a1 a2 m0=some r):AC mx 53 [qp 0,qi a1,ql 4 ze.cells a2, .func (.func 54) [] []] [zd.cells m0] (.tuple []) [zd.cells r]:=by
 delta vV at h
 exact fnc Tryz.func53 rfl<|za<|rm [2,3] [(0,qp 0),(1,qi a1),(8,qp 1)] ⟨[zd.cells m0,[qs ([]:C6),qi 0]],[]⟩ (kE A1)<|za<|bE h fun r1 hr1 h=>rm [2] [(0,qp 0),(1,qi a1),(8,qp 1),(9, .func (.func 104) [qp 1] [])] ⟨[zd.cells m0,zd.cells r1],[]⟩ (kC 1 A6 (XU hr1)<|kE A1)<|za<|za<|rs [9] [(0,qp 0),(1,qi a1),(8,qp 1),(14,ql 4 ze.cells a2),(15,qi (a2.length:Int)),(16,qi 0)] (kP 1 (zX (c:=ze.cells) (l:=a2) (e:=68) (sz:=4) (sz':=4) (b:=64) (tok:= .none))<|kE A1)<|blE h (fun y19=>⟨33,[(0,qp 0),(1,qi a1),(8,qp 1)]⟩) (fun y19=>⟨[zd.cells m0,[qs y19.1,qi y19.2]],[]⟩) (fun y19 h=>zK (X:=(Int×C6×Int)) (fun x=>⟨33,[(0,qp 0),(1,qi a1),(8,qp 1),(9, .func (.func 104) [qp 1] []),(14,ql 4 ze.cells a2),(15,qi (a2.length:Int)),(16,qi x.1)]⟩) (fun x=>⟨[zd.cells m0,[qs x.2.1,qi x.2.2]],[]⟩) (fun k x=>xx n a2 k x.1 x.2.1 x.2.2=some y19) (fun _ hx=>by simp [xx]at hx) n (0,r1.f_b,r1.f_e) h (wk A1) (fun k x h=>by obtain⟨v25,v26,v27⟩:=x; rw [xx]at h; exact za<|rs [9,14,15] [(0,qp 0),(1,qi a1),(8,qp 1),(16,qi v25),(17,qb (decide (v25<(a2.length:Int))))] (kE A1)<|za<|bF h (fun h=>zf<|za<|zz<|za<|bE h fun x34 hx34 h=>rm [9,14,15] [(0,qp 0),(1,qi a1),(8,qp 1),(11,qp 2),(16,qi v25)] ⟨[zd.cells m0,[qs v26,qi v27],[ql 1 (cL 3 zb.cells) x34.zr.zk,qi x34.zw.zA,qs x34.zw.wm,qs x34.zw.zT]],[]⟩ (kP 0 (zC (c:=ze.cells) (e:=68) (sz:=4) (b:=64) (tok:= .none) hx34)<|kE A4)<|bE h fun r35 hr35 h=>rmN zN [9,14,15] [(0,qp 0),(1,qi a1),(8,qp 1),(16,qi v25)] ⟨[zd.cells m0,zd.cells r35],[]⟩ (kC 2 ⟨[1],3,[],0⟩ (bK hr35)<|kE Ax)<|zy<|rsN zt [9,14,15] [(0,qp 0),(1,qi a1),(8,qp 1),(16,qi (wrap .i64 (v25+1)))] (kE A1)<|⟨(wrap .i64 (v25+1),r35.f_b,r35.f_e),h,wk A1⟩) fun h=>zG<|zx<|zv<|⟨(v26,v27),sI h,wk A1⟩)) fun y19 h=>za<|bE h fun r36 hr36 h=>rm [] [(0,qp 0),(1,qi a1),(8,qp 1)] ⟨[zd.cells r36,[qs y19.1,qi y19.2]],[]⟩ (kC 3 A3 (yo hr36)<|kE A1)<|bE h fun r37 hr37 h=>rmN gm [] [] ⟨[zd.cells r37],[]⟩ (kC 4 A3 (yk hr37)<|kE A3)<|by cases h; exact rno O
def xr (n:Nat)(m0:zd):Option (C6×Int×zd):=
 (wf n 48 ([m0.f_b]:List C6)).bind fun r1=>
 (if(m0.f_e !=0)=true then(some true)else(some (r1.2 !=0))).bind fun y3=>
 if y3=true then(some (([]:C6),2,m0))else(some (r1.1,0,m0))
theorem jj {n m0 r}(h:xr n m0=some r):AC mx 55 [qp 0] [zd.cells m0] (.tuple [qs r.1,qi r.2.1]) [zd.cells r.2.2]:=by
 delta xr at h
 exact fnc Tryz.func55 rfl<|za<|rs [] [(0,qp 0)] (kE O)<|za<|bE h fun r1 hr1 h=>rs [] [(0,qp 0),(4,qs r1.1),(5,qi r1.2)] (kC 5 A0 (xZ hr1)<|kE O)<|za<|za<|bE h fun y3 hE h=>reg ⟨25,[(4,qs r1.1),(23,qb y3)]⟩ ⟨[zd.cells m0],[]⟩ (have h:=hE; gF 6 20 h (fun h=>by cases h; exact kE O) fun h=>by cases h; exact kE O)<|bF h (fun h=>za<|rs [] [(2,qs []),(3,qi 2)] (kE O)<|zi<|by cases h; exact rt O) fun h=>zf<|za<|rs [] [(2,qs r1.1),(3,qi 0)] (kE O)<|zi<|by cases h; exact rt O
def xJ (n:Nat)(a0:zl):Option (C6×Int):=
 (wh n a0).bind fun r1=>
 if(r1 !=0)=true then(some (([]:C6),r1))else((jM n a0.qT).bind fun r2=>
 (zU n r2.1 r2.2 (zd.mk ([]:C6) 0)).bind fun r3=>
 (if(!(a0.zM==([]:C6)))=true then((uX n a0.zM).bind fun r11=>
 (zU n ([]:C6) r11.2 r3).bind fun r12=>
 (zQ n 128 r11.1 r12).bind fun r13=>
 some (r13.f_b,r13.f_e))else(some (r3.f_b,r3.f_e))).bind fun y9=>
 (if(a0.wb !=0)=true then((uK n a0.wb).bind fun r21=>
 (zU n ([]:C6) r21.2 (zd.mk y9.1 y9.2)).bind fun r22=>
 (zQ n 129 r21.1 r22).bind fun r23=>
 some (r23.f_b,r23.f_e))else(some (y9.1,y9.2))).bind fun y19=>
 (if(decide ((a0.zo.length:Int)>0))=true then((vv n 162 a0.zo (zd.mk y19.1 y19.2)).bind fun r29=>
 some (r29.f_b,r29.f_e))else(some (y19.1,y19.2))).bind fun y27=>
 (wd n 131 a0.qj (zd.mk y27.1 y27.2)).bind fun r30=>
 (wd n 132 a0.jG r30).bind fun r31=>
 (wd n 133 a0.g9 r31).bind fun r32=>
 (if(decide ((a0.zD.length:Int)>0))=true then((uv n a0.zD).bind fun r40=>
 (zU n ([]:C6) r40.2 r32).bind fun r41=>
 (zQ n 166 r40.1 r41).bind fun r42=>
 some (r42.f_b,r42.f_e))else(some (r32.f_b,r32.f_e))).bind fun y38=>
 (wt n a0.yU (zd.mk y38.1 y38.2)).bind fun r43=>
 (wd n 135 a0.bz r43).bind fun r44=>
 if(decide ((a0.zn.length:Int)>0))=true then((vV n 168 a0.zn r44).bind fun r45=>
 (xr n r45).bind fun r46=>
 some (r46.1,r46.2.1))else((xr n r44).bind fun r47=>
 some (r47.1,r47.2.1)))
theorem jE {n a0 r}(h:xJ n a0=some r):AC mx 14 [.agg (zl.cells a0)] [] (.tuple [qs r.1,qi r.2]) []:=by
 delta xJ at h
 exact fnc Tryz.func14 rfl<|za<|rm [] [(1,qp 0)] ⟨[zl.cells a0],[]⟩ (kE O)<|za<|za<|bE h fun r1 hr1 h=>rs [] [(1,qp 0),(4,qi r1)] (kC 1 A0 (YW hr1)<|kE O)<|za<|rs [] [(1,qp 0),(4,qi r1),(15,qb (r1 !=0))] (kE O)<|bF h (fun h=>za<|rm [] [(2,qs []),(3,qi r1)] ⟨[],[]⟩ (kE A0)<|zi<|by cases h; exact rt J) fun h=>zf<|za<|rm [] [(1,qp 0),(5,qp 1)] ⟨[zl.cells a0,[qs ([]:C6),qi 0]],[]⟩ (kE A1)<|za<|bE h fun r2 hr2 h=>bE h fun r3 hr3 h=>rm [] [(1,qp 0),(5,qp 1)] ⟨[zl.cells a0,zd.cells r3],[]⟩ (kC 2 A8 (WT hr2)<|kC 5 A6 (yo hr3)<|kE A1)<|za<|za<|rs [] [(1,qp 0),(5,qp 1),(25,qb (!(a0.zM==([]:C6))))] (kE A1)<|cuE h (fun y9=>⟨95,[(1,qp 0),(5,qp 1)]⟩) (fun y9=>⟨[zl.cells a0,[qs y9.1,qi y9.2]],[]⟩) (fun y9 h=>bF h (fun h=>za<|bE h fun r11 hr11 h=>rs [] [(1,qp 0),(5,qp 1),(6,qs r11.1),(7,qi r11.2)] (kC 2 A8 (bm hr11)<|kE A1)<|za<|bE h fun r12 hr12 h=>rm [6] [(1,qp 0),(5,qp 1)] ⟨[zl.cells a0,zd.cells r12],[]⟩ (kC 1 A6 (yo hr12)<|kE A1)<|bE h fun r13 hr13 h=>rmN zt [] [(1,qp 0),(5,qp 1)] ⟨[zl.cells a0,zd.cells r13],[]⟩ (kC 1 A6 (yk hr13)<|kE A1)<|⟨(r13.f_b,r13.f_e),sI h,wk A1⟩) fun h=>zf<|⟨(r3.f_b,r3.f_e),sI h,wk A1⟩) fun y9 h=>za<|za<|rs [] [(1,qp 0),(5,qp 1),(38,qb (a0.wb !=0))] (kE A1)<|cuE h (fun y19=>⟨95,[(1,qp 0),(5,qp 1)]⟩) (fun y19=>⟨[zl.cells a0,[qs y19.1,qi y19.2]],[]⟩) (fun y19 h=>bF h (fun h=>za<|bE h fun r21 hr21 h=>rs [] [(1,qp 0),(5,qp 1),(8,qs r21.1),(9,qi r21.2)] (kC 2 A8 (Xh hr21)<|kE A1)<|za<|bE h fun r22 hr22 h=>rm [8] [(1,qp 0),(5,qp 1)] ⟨[zl.cells a0,zd.cells r22],[]⟩ (kC 1 A6 (yo hr22)<|kE A1)<|bE h fun r23 hr23 h=>rmN zt [] [(1,qp 0),(5,qp 1)] ⟨[zl.cells a0,zd.cells r23],[]⟩ (kC 1 A6 (yk hr23)<|kE A1)<|⟨(r23.f_b,r23.f_e),sI h,wk A1⟩) fun h=>zf<|⟨(y9.1,y9.2),sI h,wk A1⟩) fun y19 h=>za<|za<|rs [] [(1,qp 0),(5,qp 1),(52,qb (decide ((a0.zo.length:Int)>0)))] (kP 2 (zX (c:=cS) (l:=a0.zo) (e:=9) (sz:=1) (sz':=1) (b:=16) (tok:= .none))<|kE A1)<|cuE h (fun y27=>⟨95,[(1,qp 0),(5,qp 1)]⟩) (fun y27=>⟨[zl.cells a0,[qs y27.1,qi y27.2]],[]⟩) (fun y27 h=>bF h (fun h=>bE h fun r29 hr29 h=>rmN zt [] [(1,qp 0),(5,qp 1)] ⟨[zl.cells a0,zd.cells r29],[]⟩ (kC 2 A6 (gj hr29)<|kE A1)<|⟨(r29.f_b,r29.f_e),sI h,wk A1⟩) fun h=>zf<|⟨(y19.1,y19.2),sI h,wk A1⟩) fun y27 h=>za<|bE h fun r30 hr30 h=>rm [] [(1,qp 0),(5,qp 1)] ⟨[zl.cells a0,zd.cells r30],[]⟩ (kC 2 A6 (uy hr30)<|kE A1)<|za<|bE h fun r31 hr31 h=>rm [] [(1,qp 0),(5,qp 1)] ⟨[zl.cells a0,zd.cells r31],[]⟩ (kC 2 A6 (uy hr31)<|kE A1)<|za<|bE h fun r32 hr32 h=>rm [] [(1,qp 0),(5,qp 1)] ⟨[zl.cells a0,zd.cells r32],[]⟩ (kC 2 A6 (uy hr32)<|kE A1)<|za<|za<|rs [] [(1,qp 0),(5,qp 1),(68,qb (decide ((a0.zD.length:Int)>0)))] (kP 2 (zX (c:=zc.cells) (l:=a0.zD) (e:=59) (sz:=3) (sz':=3) (b:=48) (tok:= .none))<|kE A1)<|cuE h (fun y38=>⟨95,[(1,qp 0),(5,qp 1)]⟩) (fun y38=>⟨[zl.cells a0,[qs y38.1,qi y38.2]],[]⟩) (fun y38 h=>bF h (fun h=>za<|bE h fun r40 hr40 h=>rs [] [(1,qp 0),(5,qp 1),(10,qs r40.1),(11,qi r40.2)] (kC 2 A8 (Yc hr40)<|kE A1)<|za<|bE h fun r41 hr41 h=>rm [10] [(1,qp 0),(5,qp 1)] ⟨[zl.cells a0,zd.cells r41],[]⟩ (kC 1 A6 (yo hr41)<|kE A1)<|bE h fun r42 hr42 h=>rmN zt [] [(1,qp 0),(5,qp 1)] ⟨[zl.cells a0,zd.cells r42],[]⟩ (kC 1 A6 (yk hr42)<|kE A1)<|⟨(r42.f_b,r42.f_e),sI h,wk A1⟩) fun h=>zf<|⟨(r32.f_b,r32.f_e),sI h,wk A1⟩) fun y38 h=>za<|bE h fun r43 hr43 h=>rm [] [(1,qp 0),(5,qp 1)] ⟨[zl.cells a0,zd.cells r43],[]⟩ (kC 2 A6 (uZ hr43)<|kE A1)<|za<|bE h fun r44 hr44 h=>rm [] [(1,qp 0),(5,qp 1)] ⟨[zl.cells a0,zd.cells r44],[]⟩ (kC 2 A6 (uy hr44)<|kE A1)<|za<|za<|rs [] [(1,qp 0),(5,qp 1),(88,qb (decide ((a0.zn.length:Int)>0)))] (kP 2 (zX (c:=ze.cells) (l:=a0.zn) (e:=68) (sz:=4) (sz':=4) (b:=64) (tok:= .none))<|kE A1)<|bF h (fun h=>bE h fun r45 hr45 h=>rm [] [(5,qp 0)] ⟨[zd.cells r45],[]⟩ (kC 2 A6 (pF hr45)<|kE A6)<|za<|bE h fun r46 hr46 h=>rm [] [(2,qs r46.1),(3,qi r46.2.1)] ⟨[],[]⟩ (kC 0 O (jj hr46)<|kE A0)<|zi<|by cases h; exact rt J) fun h=>zf<|za<|bE h fun r47 hr47 h=>rm [] [(2,qs r47.1),(3,qi r47.2.1)] ⟨[],[]⟩ (kC 0 A6 (jj hr47)<|kE A8)<|zi<|by cases h; exact rt J
end Go.Abs
end
