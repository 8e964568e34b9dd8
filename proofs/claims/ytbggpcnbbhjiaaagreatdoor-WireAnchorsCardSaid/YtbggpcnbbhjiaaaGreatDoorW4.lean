/- For each Go function: if its typed Lean form gives some result, the call returns that result (printed by a program of this hand). Condition: the typed form gives some result. -/
import Derived.Test.YtbggpcnbbhjiaaaGreatDoorW3
set_option linter.unusedVariables false
set_option linter.unusedSimpArgs false
set_option linter.unnecessarySimpa false
section
set_option maxRecDepth 100000
set_option maxHeartbeats 0
namespace Go.Abs
open Go Go.Proofs
variable {mx:Int}
def yi (n:Nat):Nat→(List zd)→Int→(List Int)→Int→Option ((List zd)×(List Int)×Int)
 |0,_,_,_,_=>none
 | k+1,v48,v49,v50,v51=>
  if(decide (v49>0))=true then((zr n 16 (zi.mk v50 v51)).bind fun r64=>
  (wd n r64.1).bind fun r65=>
  (u1 n r64.2).bind fun r66=>
  (q7 64 v48 ([(zd.mk r65 r66.1)]:List zd)).bind fun x67=>
  yi n k x67 (IntKind.wrap .i64 (v49-1)) r66.2.f_L r66.2.yN)else(some (v48,v50,v51))
def zW (n:Nat) (r81:((List UInt8)×Int)) (r86:((List UInt8)×zi)) (r87:((List UInt8)×zi)):Nat→Int→Option (Ctl Bool Unit)
 |0,_=>none
 | k+1,v148=>
  if(decide (v148<(List.length ([r81.1,r86.1,r87.1]:List (List UInt8)):Int)))=true then((zX ([r81.1,r86.1,r87.1]:List (List UInt8)) v148).bind fun x170=>
  (wx n x170).bind fun r171=>
  (zX ([r81.1,r86.1,r87.1]:List (List UInt8)) v148).bind fun x172=>
  (yF n x172).bind fun r173=>
  (if(r171.2 !=r173.2)=true then(some true)else((wm n r171.1 r173.1).bind fun r174=>
  some (!r174))).bind fun y176=>
  if y176=true then(some (.ret false))else(zW n r81 r86 r87 k (IntKind.wrap .i64 (v148+1))))else(some (.nxt ()))
def wn (n:Nat) (a0:(List Int)) (a1:(List zd)):Option Bool:=
 (uH n a1).bind fun r1=>
 if(!r1)=true then((wV n).bind fun r2=>
 some r2)else((jT n a0).bind fun r3=>
 (zr n 5 r3).bind fun r4=>
 (yi n  n ([]:List zd) r4.1 r4.2.f_L r4.2.yN).bind fun y37=>
 (zr n 8 (zi.mk y37.2.1 y37.2.2)).bind fun r68=>
 (if(r68.1==1)=true then((vx n r68.2).bind fun r77=>
 (zr n 12 r77.2).bind fun r78=>
 (q7 64 y37.1 ([(zd.mk r77.1 (zo.mk (IntKind.wrap .i64 (r78.1-1)) ([]:List UInt8) ([]:List UInt8)))]:List zd)).bind fun x79=>
 some (x79,r78.2.f_L,r78.2.yN))else(some (y37.1,r68.2.f_L,r68.2.yN))).bind fun y75=>
 (xU n y75.1).bind fun r80=>
 (yG n y75.1).bind fun r81=>
 (xU n a1).bind fun r82=>
 (yG n a1).bind fun r83=>
 (if(!(r80.1==r81.1))=true then(some true)else(if(r80.2 !=r81.2)=true then(some true)else(if(!(r82.1==r83.1))=true then(some true)else(some (r82.2 !=r83.2))))).bind fun y85=>
 if y85=true then(some false)else((wS n r81.1 (zi.mk y75.2.1 y75.2.2)).bind fun r86=>
 (yY n n r81.1 r86.2).bind fun r87=>
 ym (zW n r81 r86 r87 n 0) (fun r=>some r) (fun y131=>
 (wV n).bind fun r177=>
 some r177)))
theorem bH {n:Nat} {a0:(List Int)} {a1:(List zd)} {r:Bool} (h:wn n a0 a1=some r):AC mx 8 [ql 1 (cI .i64) a0,ql 4 zd.cells a1] [] (qb r) []:=by
 delta wn at h
 exact fnc Tryz.func8 rfl<|za<|rs [0,1] [] (kE ⟨[],0,[],0⟩)<|za<|za<|bE h fun r1 hr1 h=>rs [0,1] [(24,qb (!r1))] (kC 1 ⟨[],0,[],0⟩ (pR hr1)<|kE ⟨[],0,[],0⟩)<|bF h (fun h=>za<|bE h fun r2 hr2 h=>rs [] [(4,qb r2)] (kC 0 ⟨[],0,[],0⟩ (kd hr2)<|kE ⟨[],0,[],0⟩)<|zh<|by cases h; exact rt ⟨[],0,[],0⟩) fun h=>zg<|za<|bE h fun r3 hr3 h=>rm [1] [(5,qp 0)] ⟨[[ql 1 (cI .i64) r3.f_L,qi r3.yN]],[]⟩ (kC 1 ⟨[],0,[],0⟩ (Ze hr3)<|kE ⟨[0],1,[],0⟩)<|za<|rs [1] [(5,qp 0),(6,qn)] (kE ⟨[0],1,[],0⟩)<|za<|za<|bE h fun r4 hr4 h=>rm [1] [(5,qp 0),(6,qn),(7,qi r4.1)] ⟨[[ql 1 (cI .i64) r4.2.f_L,qi r4.2.yN]],[]⟩ (kC 1 ⟨[0],1,[],0⟩ (zC hr4)<|kE ⟨[0],1,[],0⟩)<|blE h (fun y37=>⟨134,[(1,ql 4 zd.cells a1),(5,qp 0),(6,.sl 4 (List.map zd.cells y37.1) (.fam 0 (List.length y37.1)))]⟩) (fun y37=>⟨[[ql 1 (cI .i64) y37.2.1,qi y37.2.2]],[List.length y37.1]⟩) (fun y37 h=>vF (wk (fr':=⟨134,[(1,ql 4 zd.cells a1),(5,qp 0),(6,qn),(7,qi r4.1)]⟩) (st':=⟨[[ql 1 (cI .i64) r4.2.f_L,qi r4.2.yN]],[]⟩) ⟨[0],1,[],0⟩)<|vF Wk.nilFam<|zN (X:=((List zd)×Int×(List Int)×Int)) (fun x=>⟨134,[(1,ql 4 zd.cells a1),(5,qp 0),(6,.sl 4 (List.map zd.cells x.1) (.fam 0 (List.length x.1))),(7,qi x.2.1)]⟩) (fun x=>⟨[[ql 1 (cI .i64) x.2.2.1,qi x.2.2.2]],[List.length x.1]⟩) (fun k x=>yi n  k x.1 x.2.1 x.2.2.1 x.2.2.2=some y37) (fun _ hx=>by simp [yi]at hx) n (([]:List zd),r4.1,r4.2.f_L,r4.2.yN) h (wk ⟨[0],1,[0],1⟩) (fun k x h=>by obtain⟨v48,v49,v50,v51⟩:=x; rw [yi]at h; exact za<|za<|rs [1,6] [(5,qp 0),(7,qi v49),(31,qb (decide (v49>0)))] (kE ⟨[0],1,[0],1⟩)<|bF h (fun h=>zg<|za<|zx<|bE h fun r64 hr64 h=>bE h fun r65 hr65 h=>bE h fun r66 hr66 h=>bE h fun x67 hx67 h=>rmN zP [1] [(5,qp 0),(6,.sl 4 (List.map zd.cells x67) (.fam 0 (List.length x67))),(7,qi v49)] ⟨[[ql 1 (cI .i64) r66.2.f_L,qi r66.2.yN]],[List.length x67]⟩ (kC 2 ⟨[0],1,[],1⟩ (zC hr64)<|kC 3 ⟨[],1,[],1⟩ (gT hr65)<|kC 5 ⟨[0],1,[],1⟩ (Zd hr66)<|kA 8 0 zd.cells (e:=68) (e2:=68) (sz:=4) (bytes:=64) (b2:=64) (tok2:= .exact) hx67<|kE ⟨[0],1,[0],1⟩)<|zy<|rsN zp [1,6] [(5,qp 0),(7,qi (IntKind.wrap .i64 (v49-1)))] (kE ⟨[0],1,[0],1⟩)<|⟨(x67,IntKind.wrap .i64 (v49-1),r66.2.f_L,r66.2.yN),h,wk ⟨[0],1,[0],1⟩⟩) fun h=>zL<|zw<|zv<|⟨(v48,v50,v51),sI h,wk ⟨[0],1,[0],1⟩⟩)) fun y37 h=>za<|za<|bE h fun r68 hr68 h=>rm [1,6] [(5,qp 0),(45,qb (r68.1==1))] ⟨[[ql 1 (cI .i64) r68.2.f_L,qi r68.2.yN]],[List.length y37.1]⟩ (kC 1 ⟨[0],1,[],1⟩ (zC hr68)<|kE ⟨[0],1,[0],1⟩)<|cuE h (fun y75=>⟨134,[(1,ql 4 zd.cells a1),(5,qp 0),(6,.sl 4 (List.map zd.cells y75.1) (.fam 0 (List.length y75.1)))]⟩) (fun y75=>⟨[[ql 1 (cI .i64) y75.2.1,qi y75.2.2]],[List.length y75.1]⟩) (fun y75 h=>bF h (fun h=>bE h fun r77 hr77 h=>bE h fun r78 hr78 h=>bE h fun x79 hx79 h=>rmN zp [1] [(5,qp 0),(6,.sl 4 (List.map zd.cells x79) (.fam 0 (List.length x79)))] ⟨[[ql 1 (cI .i64) r78.2.f_L,qi r78.2.yN]],[List.length x79]⟩ (kC 2 ⟨[0],1,[],1⟩ (pJ hr77)<|kC 4 ⟨[0],1,[],1⟩ (zC hr78)<|kA 9 0 zd.cells (e:=68) (e2:=68) (sz:=4) (bytes:=64) (b2:=64) (tok2:= .exact) hx79<|kE ⟨[0],1,[0],1⟩)<|⟨(x79,r78.2.f_L,r78.2.yN),sI h,wk ⟨[0],1,[0],1⟩⟩) fun h=>zg<|⟨(y37.1,r68.2.f_L,r68.2.yN),sI h,wk ⟨[0],1,[0],1⟩⟩) fun y75 h=>za<|bE h fun r80 hr80 h=>rs [1,6] [(5,qp 0),(8,qs r80.1),(9,qi r80.2)] (kC 1 ⟨[],1,[],1⟩ (uy hr80)<|kE ⟨[0],1,[0],1⟩)<|za<|bE h fun r81 hr81 h=>rm [1,8,9] [(5,qp 0),(10,qs r81.1),(11,qi r81.2)] ⟨[[ql 1 (cI .i64) y75.2.1,qi y75.2.2]],[]⟩ (kC 1 ⟨[],1,[],1⟩ (vN hr81)<|kE ⟨[0],1,[],1⟩)<|za<|bE h fun r82 hr82 h=>rs [1,8,9,10,11] [(5,qp 0),(12,qs r82.1),(13,qi r82.2)] (kC 1 ⟨[],1,[],0⟩ (uy hr82)<|kE ⟨[0],1,[],0⟩)<|za<|bE h fun r83 hr83 h=>rs [8,9,10,11,12,13] [(5,qp 0),(14,qs r83.1),(15,qi r83.2)] (kC 1 ⟨[],1,[],0⟩ (vN hr83)<|kE ⟨[0],1,[],0⟩)<|za<|za<|bE h fun y85 hE h=>reg ⟨134,[(5,qp 0),(10,qs r81.1),(93,qb y85)]⟩ ⟨[[ql 1 (cI .i64) y75.2.1,qi y75.2.2]],[]⟩ (have h:=hE; gF 4 79 h (fun h=>by cases h; exact kE ⟨[0],1,[],0⟩) fun h=>gF 9 84 h (fun h=>by cases h; exact kE ⟨[0],1,[],0⟩) fun h=>gF 14 89 h (fun h=>by cases h; exact kE ⟨[0],1,[],0⟩) fun h=>by cases h; exact kE ⟨[0],1,[],0⟩)<|bF h (fun h=>za<|rm [] [(4,qb false)] ⟨[],[]⟩ (kE ⟨[],1,[],0⟩)<|zh<|by cases h; exact rt ⟨[],0,[],0⟩) fun h=>zg<|za<|bE h fun r86 hr86 h=>bE h fun r87 hr87 h=>rm [] [(16,.sl 1 (List.map cS ([r81.1,r86.1,r87.1]:List (List UInt8))) .exact)] ⟨[],[]⟩ (kC 3 ⟨[0],1,[],0⟩ (kg hr86)<|kC 6 ⟨[0],1,[],0⟩ (pa _ hr87)<|kE ⟨[],1,[],0⟩)<|za<|za<|rs [16] [(17,qi 0)] (kE ⟨[],0,[],0⟩)<|blC h (fun _=>⟨134,[]⟩) (fun _=>⟨[],[]⟩) (fun o132 h hr133=>zN (X:=Int) (fun x=>⟨134,[(16,.sl 1 (List.map cS ([r81.1,r86.1,r87.1]:List (List UInt8))) .exact),(17,qi x)]⟩) (fun x=>⟨[],[]⟩) (fun k x=>zW n r81 r86 r87 k x=some o132) (fun _ hx=>by simp [zW]at hx) n 0 h (wk ⟨[],0,[],0⟩) (fun k x h=>by revert h; revert x; intro v148 h; rw [zW]at h; exact za<|za<|rs [16,17] [(105,qb (decide (v148<(List.length ([r81.1,r86.1,r87.1]:List (List UInt8)):Int))))] (kP 2 (zU (c:=cS) (l:=([r81.1,r86.1,r87.1]:List (List UInt8))) (e:=9) (sz:=1) (sz':=1) (b:=16) (tok:= .exact))<|kE ⟨[],0,[],0⟩)<|bF h (fun h=>zg<|za<|zx<|za<|bE h fun x170 hx170 h=>bE h fun r171 hr171 h=>rs [16,17] [(18,ql 4 zd.cells r171.1),(19,qi r171.2)] (kP 2 (zz (c:=cS) (e:=9) (sz:=1) (b:=16) (tok:= .exact) hx170)<|kC 4 ⟨[],0,[],0⟩ (pw hr171)<|kE ⟨[],0,[],0⟩)<|za<|bE h fun x172 hx172 h=>bE h fun r173 hr173 h=>rs [16,17,18,19] [(20,ql 4 zd.cells r173.1),(21,qi r173.2)] (kP 2 (zz (c:=cS) (e:=9) (sz:=1) (b:=16) (tok:= .exact) hx172)<|kC 4 ⟨[],0,[],0⟩ (bh hr173)<|kE ⟨[],0,[],0⟩)<|za<|bE h fun y176 hE h=>reg ⟨134,[(16,.sl 1 (List.map cS ([r81.1,r86.1,r87.1]:List (List UInt8))) .exact),(17,qi v148),(132,qb y176)]⟩ ⟨[],[]⟩ (have h:=hE; gF 4 127 h (fun h=>by cases h; exact kE ⟨[],0,[],0⟩) fun h=>bE h fun r174 hr174 h=>kC 6 ⟨[],0,[],0⟩ (bI hr174)<|by cases h; exact kE ⟨[],0,[],0⟩)<|bF h (fun h=>za<|rs [] [(4,qb false)] (kE ⟨[],0,[],0⟩)<|zh<|zO<|zQ<|have h:=hr133 _ (sI h); zH<|by cases h; exact rt ⟨[],0,[],0⟩) fun h=>zg<|zy<|rsN zp [16] [(17,qi (IntKind.wrap .i64 (v148+1)))] (kE ⟨[],0,[],0⟩)<|⟨IntKind.wrap .i64 (v148+1),h,wk ⟨[],0,[],0⟩⟩) fun h=>zL<|zw<|zv<|⟨(),sI h,wk ⟨[],0,[],0⟩⟩)) fun y131 h=>za<|bE h fun r177 hr177 h=>rs [] [(4,qb r177)] (kC 0 ⟨[],0,[],0⟩ (kd hr177)<|kE ⟨[],0,[],0⟩)<|zh<|by cases h; exact rt ⟨[],0,[],0⟩
end Go.Abs
end
