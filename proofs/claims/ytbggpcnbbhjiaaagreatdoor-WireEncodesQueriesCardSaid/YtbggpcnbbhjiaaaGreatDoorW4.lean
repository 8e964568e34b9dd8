/- For each Go function: if its typed Lean form gives some result, the call returns that result (printed by a program of this hand). Condition: the typed form gives some result. -/
import Derived.Test.YtbggpcnbbhjiaaaGreatDoorW3
set_option linter.unusedVariables false
set_option linter.unusedSimpArgs false
set_option linter.unnecessarySimpa false
section
set_option maxRecDepth 100000
set_option maxHeartbeats 0
namespace Go.Abs
open Go Go.Proofs IntKind
variable {mx:Int}
def wF (n:Nat)(a0:Int):Nat→(List Int)→Int→Option (List Int)
 |0,_,_=>none
 | k+1,v20,v21=>
  if(decide (v21≥0))=true then((YI .u64 (IntKind.wrap .u64 a0) (wrap .i64 ((8:Int)*v21))).bind fun x28=>
  (jV 1 v20 ([IntKind.wrap .u8 x28]:List Int)).bind fun x29=>
  wF n a0 k x29 (wrap .i64 (v21-1)))else(some v20)
def wA (n:Nat):Nat→(List Int)→Option (List Int)
 |0,_=>none
 | k+1,v74=>
  (if(decide ((v74.length:Int)>1))=true then((z1 v74 0).bind fun x85=>
  if(x85==0)=true then((z1 v74 1).bind fun x86=>
  if(decide (x86<128))=true then(some true)else((z1 v74 0).bind fun x87=>
  if(x87==255)=true then((z1 v74 1).bind fun x88=>
  some (decide (x88≥128)))else(some false)))else((z1 v74 0).bind fun x89=>
  if(x89==255)=true then((z1 v74 1).bind fun x90=>
  some (decide (x90≥128)))else(some false)))else(some false)).bind fun y92=>
  if y92=true then((lsl v74 1 (v74.length)).bind fun x94=>
  wA n k x94)else(some v74)
def w4 (n:Nat)(a0:Int):Option C6:=
 (wF n a0 n ([]:List Int) 7).bind fun y15=>
 (wA n  n y15).bind fun y62=>
 some (b2s y62)
theorem gL {n a0 r}(h:w4 n a0=some r):AC mx 93 [qi a0] [] (qs r) []:=by
 delta w4 at h
 exact fnc Tryz.func93 rfl<|za<|rs [] [(0,qi a0)] (kE J)<|za<|rs [] [(3, .int .u64 (IntKind.wrap .u64 a0))] (kE J)<|za<|rs [3] [(4,qn)] (kE J)<|za<|za<|rs [3] [(4,qn),(5,qi 7)] (kE J)<|blE h (fun y15=>⟨51,[(4, .sl 1 (List.map (cI .u8) y15) (.fam 0 (y15.length)))]⟩) (fun y15=>⟨[],[y15.length]⟩) (fun y15 h=>uP (wk (fr':=⟨51,[(3, .int .u64 (IntKind.wrap .u64 a0)),(4,qn),(5,qi 7)]⟩) (st':=⟨[],[]⟩) J)<|uP Wk.nilFam<|zK (X:=((List Int)×Int)) (fun x=>⟨51,[(3, .int .u64 (IntKind.wrap .u64 a0)),(4, .sl 1 (List.map (cI .u8) x.1) (.fam 0 (x.1.length))),(5,qi x.2)]⟩) (fun x=>⟨[],[x.1.length]⟩) (fun k x=>wF n a0 k x.1 x.2=some y15) (fun _ hx=>by simp [wF]at hx) n (([]:List Int),7) h (wk A2) (fun k x h=>by obtain⟨v20,v21⟩:=x; rw [wF]at h; exact za<|za<|rs [3,4] [(5,qi v21),(9,qb (decide (v21≥0)))] (kE A2)<|bF h (fun h=>zf<|za<|zz<|bE h fun x28 hx28 h=>bE h fun x29 hx29 h=>rmN zN [3] [(4, .sl 1 (List.map (cI .u8) x29) (.fam 0 (x29.length))),(5,qi v21)] ⟨[],[x29.length]⟩ (kP 4 (gN (k:= .u64) (d:=(tyT 192).d) (k':= .i64) hx28)<|kA 7 0 (cI .u8) (e:=5) (e2:=5) (sz:=1) (bytes:=1) (b2:=1) (tok2:= .exact) hx29<|kE A2)<|zy<|rsN zt [3,4] [(5,qi (wrap .i64 (v21-1)))] (kE A2)<|⟨(x29,wrap .i64 (v21-1)),h,wk A2⟩) fun h=>zG<|zx<|zv<|⟨v20,sI h,wk A2⟩)) fun y15 h=>za<|blE h (fun y62=>⟨51,[(4,ql 1 (cI .u8) y62)]⟩) (fun y62=>⟨[],[]⟩) (fun y62 h=>zK (X:=(List Int)) (fun x=>⟨51,[(4,ql 1 (cI .u8) x)]⟩) (fun x=>⟨[],[]⟩) (fun k x=>wA n  k x=some y62) (fun _ hx=>by simp [wA]at hx) n y15 h (wk A9) (fun k x h=>by revert h; revert x; intro v74 h; rw [wA]at h; exact za<|za<|bE h fun y92 hE h=>reg ⟨51,[(4,ql 1 (cI .u8) v74),(46,qb y92)]⟩ ⟨[],[]⟩ (have h:=hE; kP 1 (zX (c:=(cI .u8)) (l:=v74) (e:=5) (sz:=1) (sz':=1) (b:=1) (tok:= .none))<|gF 4 23 h (fun h=>bE h fun x85 hx85 h=>kP 5 (zC (c:=(cI .u8)) (e:=5) (sz:=1) (b:=1) (tok:= .none) hx85)<|gF 9 28 h (fun h=>bE h fun x86 hx86 h=>kP 10 (zC (c:=(cI .u8)) (e:=5) (sz:=1) (b:=1) (tok:= .none) hx86)<|gF 15 34 h (fun h=>by cases h; exact kE J) fun h=>bE h fun x87 hx87 h=>kP 16 (zC (c:=(cI .u8)) (e:=5) (sz:=1) (b:=1) (tok:= .none) hx87)<|gF 20 39 h (fun h=>bE h fun x88 hx88 h=>kP 21 (zC (c:=(cI .u8)) (e:=5) (sz:=1) (b:=1) (tok:= .none) hx88)<|by cases h; exact kE J) fun h=>by cases h; exact kE J) fun h=>bE h fun x89 hx89 h=>kP 16 (zC (c:=(cI .u8)) (e:=5) (sz:=1) (b:=1) (tok:= .none) hx89)<|gF 20 39 h (fun h=>bE h fun x90 hx90 h=>kP 21 (zC (c:=(cI .u8)) (e:=5) (sz:=1) (b:=1) (tok:= .none) hx90)<|by cases h; exact kE J) fun h=>by cases h; exact kE J) fun h=>by cases h; exact kE J)<|bF h (fun h=>zf<|zz<|bE h fun x94 hx94 h=>rsN (jC (P:=Tryz.prog) (gl:=gl0 mx) zt) [] [(4,ql 1 (cI .u8) x94)] (kP 1 (w6 (k:= .i64) (c:=(cI .u8)) (e:=5) (sz:=1) (b:=1) (tok:= .none) hx94)<|kE J)<|zy<|⟨x94,h,wk J⟩) fun h=>zG<|zx<|zv<|⟨v74,sI h,wk J⟩)) fun y62 h=>za<|rs [] [(2,qs (b2s y62))] (kB 1 y62<|kE J)<|zi<|by cases h; exact rt J
def vG (n:Nat)(a0:Int):Option C6:=
 (w4 n a0).bind fun r1=>
 (zE n 2 ([r1]:List C6)).bind fun r2=>
 some r2
theorem pf {n a0 r}(h:vG n a0=some r):AC mx 65 [qi a0] [] (qs r) []:=by
 delta vG at h
 exact fnc Tryz.func65 rfl<|za<|rs [] [(0,qi a0)] (kE J)<|za<|bE h fun r1 hr1 h=>bE h fun r2 hr2 h=>rs [] [(2,qs r2)] (kC 1 J (gL hr1)<|kC 3 J (zS hr2)<|kE J)<|zi<|by cases h; exact rt J
def ub (n:Nat):Option C6:=
 (wJ n ([49,46,51,46,54,46,49,46,52,46,49,46,53,56,56,56,56,46,49,46,49]:C6)).bind fun r1=>
 (zE n 48 ([r1]:List C6)).bind fun r2=>
 some r2
theorem dr {n r}(h:ub n  =some r):AC mx 189 [] [] (qs r) []:=by
 delta ub at h
 exact fnc Tryz.func189 rfl<|za<|rs [] [] (kE J)<|za<|bE h fun r1 hr1 h=>bE h fun r2 hr2 h=>rs [] [(0,qs r2)] (kC 0 J (qQ hr1)<|kC 2 J (zS hr2)<|kE J)<|zi<|by cases h; exact rt J
def u9 (n:Nat)(a0:zB):Option C6:=
 (xg n a0.zA).bind fun r1=>
 (uw r1 a0.wm).bind fun x2=>
 (uw x2 a0.zT).bind fun x3=>
 some x3
theorem ZX {n a0 r}(h:u9 n a0=some r):AC mx 190 [.agg (zB.cells a0)] [] (qs r) []:=by
 delta u9 at h
 exact fnc Tryz.func190 rfl<|za<|rm [] [(1,qp 0)] ⟨[zB.cells a0],[]⟩ (kE O)<|za<|bE h fun r1 hr1 h=>bE h fun x2 hx2 h=>bE h fun x3 hx3 h=>zm [0,1,3,4,6,7,2,5,8,9] [2] [[],[0],[0,1],[],[3],[0,1,2,3,4],[],[6],[0,1,2,3,4,5,6,7],[0,1,2,3,4,5,6,7,8]] [] [(2,qs x3)] ⟨[],[]⟩ (dS [0,1,3,4,6,7]<|dC yg A0 (ug hr1)<|dP (yO (d:=(tyT 9).d) hx2)<|dP (yO (d:=(tyT 9).d) hx3)<|dS [9]<|dE A0)<|zi<|by cases h; exact rt J
def wy (n:Nat)(a0:zB):Option (C6×Int):=
 (xO n a0).bind fun r1=>
 if(r1 !=0)=true then(some (([]:C6),r1))else((ub n).bind fun r2=>
 (u9 n a0).bind fun r3=>
 (uw ([0]:C6) r3).bind fun x4=>
 (zE n 3 ([x4]:List C6)).bind fun r5=>
 (zE n 48 ([r2,r5]:List C6)).bind fun r6=>
 some (r6,0))
theorem du {n a0 r}(h:wy n a0=some r):AC mx 133 [.agg (zB.cells a0)] [] (.tuple [qs r.1,qi r.2]) []:=by
 delta wy at h
 exact fnc Tryz.func133 rfl<|za<|rm [] [(1,qp 0)] ⟨[zB.cells a0],[]⟩ (kE O)<|za<|za<|bE h fun r1 hr1 h=>rs [] [(1,qp 0),(4,qi r1)] (kC 1 A0 (km hr1)<|kE O)<|za<|rs [] [(1,qp 0),(4,qi r1),(8,qb (r1 !=0))] (kE O)<|bF h (fun h=>za<|rm [] [(2,qs []),(3,qi r1)] ⟨[],[]⟩ (kE A0)<|zi<|by cases h; exact rt J) fun h=>zf<|za<|bE h fun r2 hr2 h=>bE h fun r3 hr3 h=>bE h fun x4 hx4 h=>bE h fun r5 hr5 h=>bE h fun r6 hr6 h=>zm [1,0,2,3,4,5,6,7,8,9] [0,2,5,7] [[],[],[0,1],[0,1,2],[0,1,2,3],[0,1,2,3,4],[0,1,2,3,4,5],[0,1,2,3,4,5,6],[0,1,2,3,4,5,6,7],[0,1,2,3,4,5,6,7,8]] [] [(2,qs r6),(3,qi 0)] ⟨[],[]⟩ (dS [1]<|dC yg A0 (dr hr2)<|dC yg A0 (ZX hr3)<|dP (yO (d:=(tyT 9).d) hx4)<|dS [4]<|dC (zF 3 (yO (d:=(tyT 9).d) hx4) yg) A0 (zS hr5)<|dS [6]<|dC (zF 3 (yO (d:=(tyT 9).d) hx4) yg) A0 (zS hr6)<|dS [8,9]<|dE A0)<|zi<|by cases h; exact rt J
def xF (n:Nat)(a0:ze):Option (C6×Int):=
 (z8 n (ze.mk (zu.mk a0.zr.zk) (zB.mk a0.zw.zA a0.zw.wm a0.zw.zT))).bind fun r1=>
 if(r1 !=0)=true then(some (([]:C6),r1))else((yK n (zu.mk a0.zr.zk)).bind fun r2=>
 (wy n (zB.mk a0.zw.zA a0.zw.wm a0.zw.zT)).bind fun r3=>
 if(r3.2 !=0)=true then(some (([]:C6),r3.2))else((zE n 48 ([r2.1,r3.1]:List C6)).bind fun r4=>
 some (r4,0)))
theorem gk {n a0 r}(h:xF n a0=some r):AC mx 66 [.agg [ql 1 (cL 3 zb.cells) a0.zr.zk,qi a0.zw.zA,qs a0.zw.wm,qs a0.zw.zT]] [] (.tuple [qs r.1,qi r.2]) []:=by
 delta xF at h
 exact fnc Tryz.func66 rfl<|za<|rm [] [(1,qp 0)] ⟨[[ql 1 (cL 3 zb.cells) a0.zr.zk,qi a0.zw.zA,qs a0.zw.wm,qs a0.zw.zT]],[]⟩ (kE O)<|za<|za<|bE h fun r1 hr1 h=>rs [] [(1,qp 0),(4,qi r1)] (kC 1 A0 (qq hr1)<|kE O)<|za<|rs [] [(1,qp 0),(4,qi r1),(12,qb (r1 !=0))] (kE O)<|bF h (fun h=>za<|rm [] [(2,qs []),(3,qi r1)] ⟨[],[]⟩ (kE A0)<|zi<|by cases h; exact rt J) fun h=>zf<|za<|bE h fun r2 hr2 h=>rs [] [(1,qp 0),(5,qs r2.1)] (kC 2 A0 (qF hr2)<|kE O)<|za<|bE h fun r3 hr3 h=>rm [5] [(7,qs r3.1),(8,qi r3.2)] ⟨[],[]⟩ (kC 2 A0 (du hr3)<|kE A0)<|za<|za<|rs [5,7,8] [(27,qb (r3.2 !=0))] (kE J)<|bF h (fun h=>za<|rs [] [(2,qs []),(3,qi r3.2)] (kE J)<|zi<|by cases h; exact rt J) fun h=>zf<|za<|bE h fun r4 hr4 h=>rs [] [(2,qs r4),(3,qi 0)] (kC 3 J (zS hr4)<|kE J)<|zi<|by cases h; exact rt J
def wU (n:Nat)(a0:C6):Option (C6×Int):=
 (yp n 48 ([a0]:List C6)).bind fun r1=>
 if(r1.2 !=0)=true then(some (([]:C6),2))else(some (r1.1,0))
theorem kI {n a0 r}(h:wU n a0=some r):AC mx 67 [qs a0] [] (.tuple [qs r.1,qi r.2]) []:=by
 delta wU at h
 exact fnc Tryz.func67 rfl<|za<|rs [] [(0,qs a0)] (kE J)<|za<|bE h fun r1 hr1 h=>rs [] [(4,qs r1.1),(5,qi r1.2)] (kC 2 J (wV hr1)<|kE J)<|za<|za<|rs [4] [(13,qb (r1.2 !=0))] (kE J)<|bF h (fun h=>za<|rs [] [(2,qs []),(3,qi 2)] (kE J)<|zi<|by cases h; exact rt J) fun h=>zf<|za<|rs [] [(2,qs r1.1),(3,qi 0)] (kE J)<|zi<|by cases h; exact rt J
def yH (n:Nat)(a0:zl):Nat→C6→Int→Option C6
 |0,_,_=>none
 | k+1,v79,v80=>
  if(decide (v80<(a0.zn.length:Int)))=true then((z1 a0.zn v80).bind fun x90=>
  (xF n (ze.mk (zu.mk x90.zr.zk) (zB.mk x90.zw.zA x90.zw.wm x90.zw.zT))).bind fun r91=>
  (uw v79 r91.1).bind fun x92=>
  yH n a0 k x92 (wrap .i64 (v80+1)))else(some v79)
def yB (n:Nat)(a0:zl):Option (C6×Int):=
 (vf n a0).bind fun r1=>
 if(r1 !=0)=true then(some (([]:C6),r1))else((xi n a0.qT).bind fun r2=>
 (if(!(a0.zM==([]:C6)))=true then((xw n a0.zM).bind fun r9=>
 (zE n 128 ([r9.1]:List C6)).bind fun r10=>
 (uw r2.1 r10).bind fun x11=>
 some x11)else(some r2.1)).bind fun y7=>
 (if(a0.wb !=0)=true then((xS n a0.wb).bind fun r18=>
 (zE n 129 ([r18.1]:List C6)).bind fun r19=>
 (uw y7 r19).bind fun x20=>
 some x20)else(some y7)).bind fun y16=>
 (if(decide ((a0.zo.length:Int)>0))=true then((vx n a0.zo).bind fun r27=>
 (zE n 162 ([r27]:List C6)).bind fun r28=>
 (uw y16 r28).bind fun x29=>
 some x29)else(some y16)).bind fun y25=>
 (wu n 131 a0.qj).bind fun r30=>
 (wu n 132 a0.jG).bind fun r31=>
 (uw r30 r31).bind fun x32=>
 (wu n 133 a0.g9).bind fun r33=>
 (uw x32 r33).bind fun x34=>
 (uw y25 x34).bind fun x35=>
 yW (if(decide ((a0.zD.length:Int)>0))=true then((wq n a0.zD).bind fun r43=>
 (yp n 166 ([r43.1]:List C6)).bind fun r44=>
 if(r44.2 !=0)=true then(some (.ret (([]:C6),2)))else((uw x35 r44.1).bind fun x45=>
 some (.nxt x45)))else(some (.nxt x35))) (fun r=>some r) (fun y40=>
 (vG n a0.yU).bind fun r46=>
 (wu n 135 a0.bz).bind fun r47=>
 (uw r46 r47).bind fun x48=>
 (uw y40 x48).bind fun x49=>
 if(decide ((a0.zn.length:Int)>0))=true then((yH n a0 n ([]:C6) 0).bind fun y71=>
 (yp n 168 ([y71]:List C6)).bind fun r93=>
 if(r93.2 !=0)=true then(some (([]:C6),2))else((uw x49 r93.1).bind fun x94=>
 (wU n x94).bind fun r95=>
 some (r95.1,r95.2)))else((wU n x49).bind fun r96=>
 some (r96.1,r96.2))))
theorem qr {n a0 r}(h:yB n a0=some r):AC mx 15 [.agg (zl.cells a0)] [] (.tuple [qs r.1,qi r.2]) []:=by
 delta yB at h
 exact fnc Tryz.func15 rfl<|za<|rm [] [(1,qp 0)] ⟨[zl.cells a0],[]⟩ (kE O)<|za<|za<|bE h fun r1 hr1 h=>rs [] [(1,qp 0),(4,qi r1)] (kC 1 A0 (pN hr1)<|kE O)<|za<|rs [] [(1,qp 0),(4,qi r1),(24,qb (r1 !=0))] (kE O)<|bF h (fun h=>za<|rm [] [(2,qs []),(3,qi r1)] ⟨[],[]⟩ (kE A0)<|zi<|by cases h; exact rt J) fun h=>zf<|za<|bE h fun r2 hr2 h=>rs [] [(1,qp 0),(5,qs r2.1)] (kC 2 A0 (gQ hr2)<|kE O)<|za<|za<|rs [5] [(1,qp 0),(34,qb (!(a0.zM==([]:C6))))] (kE O)<|cuE h (fun y7=>⟨152,[(1,qp 0),(5,qs y7)]⟩) (fun y7=>⟨[zl.cells a0],[]⟩) (fun y7 h=>bF h (fun h=>za<|bE h fun r9 hr9 h=>rs [5] [(1,qp 0),(7,qs r9.1)] (kC 2 A0 (qS hr9)<|kE O)<|bE h fun r10 hr10 h=>bE h fun x11 hx11 h=>rsN zt [] [(1,qp 0),(5,qs x11)] (kC 3 A0 (zS hr10)<|kP 4 (yO (d:=(tyT 9).d) hx11)<|kE O)<|⟨x11,sI h,wk O⟩) fun h=>zf<|⟨r2.1,sI h,wk O⟩) fun y7 h=>za<|za<|rs [] [(1,qp 0),(5,qs y7),(48,qb (a0.wb !=0))] (kE O)<|cuE h (fun y16=>⟨152,[(1,qp 0),(5,qs y16)]⟩) (fun y16=>⟨[zl.cells a0],[]⟩) (fun y16 h=>bF h (fun h=>za<|bE h fun r18 hr18 h=>rs [] [(1,qp 0),(5,qs y7),(9,qs r18.1)] (kC 2 A0 (dH hr18)<|kE O)<|bE h fun r19 hr19 h=>bE h fun x20 hx20 h=>rsN zt [] [(1,qp 0),(5,qs x20)] (kC 3 A0 (zS hr19)<|kP 4 (yO (d:=(tyT 9).d) hx20)<|kE O)<|⟨x20,sI h,wk O⟩) fun h=>zf<|⟨y7,sI h,wk O⟩) fun y16 h=>za<|za<|rs [] [(1,qp 0),(5,qs y16),(63,qb (decide ((a0.zo.length:Int)>0)))] (kP 2 (zX (c:=cS) (l:=a0.zo) (e:=9) (sz:=1) (sz':=1) (b:=16) (tok:= .none))<|kE O)<|cuE h (fun y25=>⟨152,[(1,qp 0),(5,qs y25)]⟩) (fun y25=>⟨[zl.cells a0],[]⟩) (fun y25 h=>bF h (fun h=>bE h fun r27 hr27 h=>bE h fun r28 hr28 h=>bE h fun x29 hx29 h=>rsN zt [] [(1,qp 0),(5,qs x29)] (kC 3 A0 (Zu hr27)<|kC 5 A0 (zS hr28)<|kP 6 (yO (d:=(tyT 9).d) hx29)<|kE O)<|⟨x29,sI h,wk O⟩) fun h=>zf<|⟨y16,sI h,wk O⟩) fun y25 h=>za<|bE h fun r30 hr30 h=>bE h fun r31 hr31 h=>bE h fun x32 hx32 h=>bE h fun r33 hr33 h=>bE h fun x34 hx34 h=>bE h fun x35 hx35 h=>zs [0,1,2,4,5,8,9,3,6,7,10,11,12,13] [3,6,10,13] [[],[],[1],[1,2],[],[4],[1,2,3,4,5],[1,2,3,4,5,6],[],[8],[1,2,3,4,5,6,8,9],[1,2,3,4,5,6,7,8,9,10],[0,1,2,3,4,5,6,7,8,9,10,11],[0,1,2,3,4,5,6,7,8,9,10,11,12]] [] [(1,qp 0),(5,qs x35)] (dS [0,1,2,4,5,8,9]<|dC yg A0 (uV hr30)<|dC yg A0 (uV hr31)<|dP (yO (d:=(tyT 9).d) hx32)<|dC (zF 7 (yO (d:=(tyT 9).d) hx32) yg) A0 (uV hr33)<|dP (yO (d:=(tyT 9).d) hx34)<|dP (yO (d:=(tyT 9).d) hx35)<|dF (zF 12 (yO (d:=(tyT 9).d) hx35) (zF 11 (yO (d:=(tyT 9).d) hx34) (zF 7 (yO (d:=(tyT 9).d) hx32) yg)))<|dE O)<|za<|za<|rs [] [(1,qp 0),(5,qs x35),(87,qb (decide ((a0.zD.length:Int)>0)))] (kP 2 (zX (c:=zc.cells) (l:=a0.zD) (e:=59) (sz:=3) (sz':=3) (b:=48) (tok:= .none))<|kE O)<|cuC h (fun y40=>⟨152,[(1,qp 0),(5,qs y40)]⟩) (fun y40=>⟨[zl.cells a0],[]⟩) (fun o41 h hr42=>bF h (fun h=>za<|bE h fun r43 hr43 h=>rs [] [(1,qp 0),(5,qs x35),(11,qs r43.1)] (kC 2 A0 (gO hr43)<|kE O)<|za<|bE h fun r44 hr44 h=>rs [] [(1,qp 0),(5,qs x35),(13,qs r44.1),(14,qi r44.2)] (kC 2 A0 (wV hr44)<|kE O)<|za<|za<|rs [13] [(1,qp 0),(5,qs x35),(101,qb (r44.2 !=0))] (kE O)<|bF h (fun h=>za<|rm [] [(2,qs []),(3,qi 2)] ⟨[],[]⟩ (kE A0)<|zi<|have h:=hr42 _ (sI h); zV<|by cases h; exact rt J) fun h=>zf<|bE h fun x45 hx45 h=>rsN zt [] [(1,qp 0),(5,qs x45)] (kP 2 (yO (d:=(tyT 9).d) hx45)<|kE O)<|⟨x45,sI h,wk O⟩) fun h=>zf<|⟨x35,sI h,wk O⟩) fun y40 h=>za<|bE h fun r46 hr46 h=>bE h fun r47 hr47 h=>bE h fun x48 hx48 h=>bE h fun x49 hx49 h=>zs [0,1,2,4,5,3,6,7,8,9] [3,6,9] [[],[],[1],[1,2],[],[4],[1,2,3,4,5],[1,2,3,4,5,6],[0,1,2,3,4,5,6,7],[0,1,2,3,4,5,6,7,8]] [] [(1,qp 0),(5,qs x49)] (dS [0,1,2,4,5]<|dC yg A0 (pf hr46)<|dC yg A0 (uV hr47)<|dP (yO (d:=(tyT 9).d) hx48)<|dP (yO (d:=(tyT 9).d) hx49)<|dF (zF 8 (yO (d:=(tyT 9).d) hx49) (zF 7 (yO (d:=(tyT 9).d) hx48) yg))<|dE O)<|za<|za<|rs [] [(1,qp 0),(5,qs x49),(117,qb (decide ((a0.zn.length:Int)>0)))] (kP 2 (zX (c:=ze.cells) (l:=a0.zn) (e:=68) (sz:=4) (sz':=4) (b:=64) (tok:= .none))<|kE O)<|bF h (fun h=>za<|rs [] [(1,qp 0),(5,qs x49),(15,qs [])] (kE O)<|za<|za<|rs [15] [(1,qp 0),(5,qs x49),(16,qi 0)] (kE O)<|blE h (fun y71=>⟨152,[(5,qs x49),(15,qs y71)]⟩) (fun y71=>⟨[],[]⟩) (fun y71 h=>zK (X:=(C6×Int)) (fun x=>⟨152,[(1,qp 0),(5,qs x49),(15,qs x.1),(16,qi x.2)]⟩) (fun x=>⟨[zl.cells a0],[]⟩) (fun k x=>yH n a0 k x.1 x.2=some y71) (fun _ hx=>by simp [yH]at hx) n (([]:C6),0) h (wk O) (fun k x h=>by obtain⟨v79,v80⟩:=x; rw [yH]at h; exact za<|za<|rs [] [(1,qp 0),(5,qs x49),(15,qs v79),(16,qi v80),(122,qb (decide (v80<(a0.zn.length:Int))))] (kP 3 (zX (c:=ze.cells) (l:=a0.zn) (e:=68) (sz:=4) (sz':=4) (b:=64) (tok:= .none))<|kE O)<|bF h (fun h=>zf<|za<|zz<|za<|bE h fun x90 hx90 h=>bE h fun r91 hr91 h=>rs [] [(1,qp 0),(5,qs x49),(15,qs v79),(16,qi v80),(17,qs r91.1)] (kP 3 (zC (c:=ze.cells) (e:=68) (sz:=4) (b:=64) (tok:= .none) hx90)<|kC 5 A0 (gk hr91)<|kE O)<|bE h fun x92 hx92 h=>rsN zN [] [(1,qp 0),(5,qs x49),(15,qs x92),(16,qi v80)] (kP 2 (yO (d:=(tyT 9).d) hx92)<|kE O)<|zy<|rsN zt [] [(1,qp 0),(5,qs x49),(15,qs x92),(16,qi (wrap .i64 (v80+1)))] (kE O)<|⟨(x92,wrap .i64 (v80+1)),h,wk O⟩) fun h=>zG<|zx<|zv<|⟨v79,sI h,wk A0⟩)) fun y71 h=>za<|bE h fun r93 hr93 h=>rs [] [(5,qs x49),(19,qs r93.1),(20,qi r93.2)] (kC 2 J (wV hr93)<|kE J)<|za<|za<|rs [19] [(5,qs x49),(144,qb (r93.2 !=0))] (kE J)<|bF h (fun h=>za<|rs [] [(2,qs []),(3,qi 2)] (kE J)<|zi<|by cases h; exact rt J) fun h=>zf<|bE h fun x94 hx94 h=>rs [] [(5,qs x94)] (kP 2 (yO (d:=(tyT 9).d) hx94)<|kE J)<|za<|bE h fun r95 hr95 h=>rs [] [(2,qs r95.1),(3,qi r95.2)] (kC 1 J (kI hr95)<|kE J)<|zi<|by cases h; exact rt J) fun h=>zf<|za<|bE h fun r96 hr96 h=>rm [] [(2,qs r96.1),(3,qi r96.2)] ⟨[],[]⟩ (kC 1 A0 (kI hr96)<|kE A0)<|zi<|by cases h; exact rt J
def xt (n:Nat)(a0:List Int)(a1:zl):Option Bool:=
 (uh n a1).bind fun r1=>
 if(!r1)=true then((vj n).bind fun r2=>
 some r2)else((qy n a0).bind fun r3=>
 (uk n r3).bind fun r4=>
 (xJ n r4.1).bind fun r5=>
 (yB n r4.1).bind fun r6=>
 (xJ n a1).bind fun r7=>
 (yB n a1).bind fun r8=>
 (if(r5.1==r6.1)=true then(if(r5.2==r6.2)=true then(if(r7.1==r8.1)=true then(if(r7.2==r8.2)=true then((vj n).bind fun r9=>
 some r9)else(some false))else(some false))else(some false))else(some false)).bind fun y11=>
 some y11)
theorem kR {n a0 a1 r}(h:xt n a0 a1=some r):AC mx 3 [ql 1 (cI .i64) a0, .agg (zl.cells a1)] [] (qb r) []:=by
 delta xt at h
 exact fnc Tryz.func3 rfl<|za<|rm [0] [(3,qp 0)] ⟨[zl.cells a1],[]⟩ (kE O)<|za<|za<|bE h fun r1 hr1 h=>rs [0] [(3,qp 0),(16,qb (!r1))] (kC 1 A0 (pS hr1)<|kE O)<|bF h (fun h=>za<|bE h fun r2 hr2 h=>rm [] [(4,qb r2)] ⟨[],[]⟩ (kC 0 A0 (bq hr2)<|kE A0)<|zi<|by cases h; exact rt J) fun h=>zf<|za<|bE h fun r3 hr3 h=>bE h fun r4 hr4 h=>rm [] [(3,qp 0),(5,qp 1)] ⟨[zl.cells a1,zl.cells r4.1],[]⟩ (kC 1 A0 (Yf hr3)<|kC 2 A6 (pL hr4)<|kE Ak)<|za<|bE h fun r5 hr5 h=>rs [] [(3,qp 0),(5,qp 1),(6,qs r5.1),(7,qi r5.2)] (kC 1 A8 (jE hr5)<|kE A1)<|za<|bE h fun r6 hr6 h=>rm [6,7] [(3,qp 0),(8,qs r6.1),(9,qi r6.2)] ⟨[zl.cells a1],[]⟩ (kC 1 A8 (qr hr6)<|kE A3)<|za<|bE h fun r7 hr7 h=>rs [6,7,8,9] [(3,qp 0),(10,qs r7.1),(11,qi r7.2)] (kC 1 A0 (jE hr7)<|kE O)<|za<|bE h fun r8 hr8 h=>rm [6,7,8,9,10,11] [(12,qs r8.1),(13,qi r8.2)] ⟨[],[]⟩ (kC 1 A0 (qr hr8)<|kE A0)<|za<|bE h fun y11 hE h=>reg ⟨62,[(4,qb y11)]⟩ ⟨[],[]⟩ (have h:=hE; gF 4 44 h (fun h=>gF 9 49 h (fun h=>gF 14 54 h (fun h=>gF 19 59 h (fun h=>bE h fun r9 hr9 h=>kC 19 J (bq hr9)<|by cases h; exact kE J) fun h=>by cases h; exact kE J) fun h=>by cases h; exact kE J) fun h=>by cases h; exact kE J) fun h=>by cases h; exact kE J)<|zi<|by cases h; exact rt J
end Go.Abs
end
